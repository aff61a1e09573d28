/- Merged. -/
import Derived.Test.YtjjcgpfljidbhaaGreatYa
import Derived.Deep.RegionHeld3
import Derived.Deep.DeepCutAuto
import Derived.StillTailTactics
import Derived.RangeFuncNested
import Derived.RangeFuncBound
import Derived.RangeFuncCalls
import Derived.RangeFuncLeaves
import Derived.Shelf.Abstract
import Derived.Shelf.RegionOpen
import Derived.OwnWalkIn
import Derived.TacticsInMore
import Derived.LoopNIn
import Derived.LoopIn
open Go.Proofs.Tryz
open Go.Value renaming int->O,slice->I,bool->Ah,agg->Ai,pointer->Aj
open Go.IntKind renaming i64->U
open Option renaming none->Z,some->J
open Go.Obj renaming cells->Ag
open Go.Ending renaming returned->Ak
open Go.Proofs.Tryz renaming prog->Al,func169->Rv
open Go.RowKit renaming Below->Am,intOf->Ao,Hid->Ap
open Go renaming Calls->An,Value->Aq,wpIn_wide->RB
open Bool renaming true->Ar,false->As,false_and->NM
open Go.Calls renaming quiet_of->Nf
open Go.World renaming putObj_heap_other->NZ
open Nat renaming zero_mul->Rw
namespace Go.Proofs.YtjjcgpfljidbhaaGreat
abbrev Nh:=@Bool.and_eq_true
abbrev LE:=@Nat.le_trans
abbrev NL:=@List.mem_iff_getElem
abbrev Lg:=@Go.RowKit.Below.heap_setCell
abbrev Rj:=@Go.cells_of_cell
abbrev LR:=@Go.World.cell?_of_block
abbrev P7:=@List.nodup_cons
abbrev L9:=@List.mem_cons
abbrev LF:=@List.map_append
abbrev P6:=@List.map_map
abbrev PW:=@List.flatten_cons
abbrev LJ:=@List.length_map
abbrev LD:=@List.length_cons
abbrev Nc:=@List.nil_append
abbrev Ng:=@List.cons_append
abbrev Lu:=@List.length_append
abbrev L7:=@List.append_assoc
abbrev RN:=@Array.getElem?_eq_getElem
abbrev L6:=@Go.bodyPost_ret
abbrev Rs:=@Go.results_none
abbrev P9:=@Array.getElem?_modify
abbrev Nb:=@List.mem_singleton
abbrev L4:=@Go.grownBy_keeps_cells
abbrev NV:=@Go.Proofs.enters_of
abbrev Nq:=@List.mem_flatten
abbrev LO:=@List.mem_map
abbrev Pp:=@List.take_append_drop
abbrev P5:=@Nat.succ_mul
abbrev Pc:=@Nat.add_zero
abbrev Lj:=@Int.toNat_natCast
abbrev Le:=@List.getD_eq_getElem?_getD
abbrev Lf:=@List.getElem?_eq_getElem
abbrev NY:=@List.idxOf_append
abbrev NB:=@List.take_of_length_le
set_option maxRecDepth 100000
set_option maxHeartbeats 16000000
section
open Go.RowKit
theorem kU{P:Program}{f:FuncId}{args:Array Aq}{W:Ba}{q a:Nat}{v:Aq}(h:An P f args (W.drewN (q+a)) fun e w'=>e=Ak v/\w'=W.drewN (q+a)):An P f args (W.drewN (q+a)) fun e w'=>e=Ak v/\∃n,w'=W.drewN (q+n):=
 h.mono fun _ _ ⟨h1,h2⟩=>⟨h1,a,h2⟩
theorem zV{P:Program}{f:FuncId}{args:Array Aq}{W:Ba}{q a:Nat}{v:Aq}(h:An P f args (W.drewN (q+a)) fun e w'=>e=Ak v/\∃n,w'=(W.drewN (q+a)).drewN n):An P f args (W.drewN (q+a)) fun e w'=>e=Ak v/\∃n,w'=W.drewN (q+n):=
 h.mono fun _ _ ⟨h1,n,h2⟩=>⟨h1,a+n,by rw[h2,PM,Pu]⟩
theorem rone_any(t:Tk)(A:Bb)(kc:Nat)(hf:Z9 t)(i:Nat)(hi:i<t.cases.length)(w:Ba)(hA:CAt w w.heap.size A t.cases) :
  An Al 156 #[Ai #[O U t.n,O U t.ins,O U t.outs,I A t.cases.length kc],O U i] w fun e w'=>e=Ak (O U (xB t (zw t.cases i) t.cases[i]))/\Am w.heap.size w w':=by
 obtain⟨dZ,dr⟩:=hf;have ry:=zH dr;have mV:=zH (@Zt t (zw t.cases i) t.cases[i]);have bf:=zH (@uo t (zw t.cases i) t.cases[i]);have dm:=zH (@Zu t (zw t.cases i) t.cases[i]);obtain⟨E,hE⟩:=Kh (xB t (zw t.cases i) t.cases[i]);rw[hE] at mV bf dm ⊢;obtain⟨n,ins,m,cs⟩:=t;dsimp only at dZ ry mV bf dm hA hi ⊢;obtain⟨b,o,A0,k0,A1,k1,A2,k2,e,dS,c0,c1,c2,I0,I1,I2⟩:=hA.row i hi;obtain⟨f0,⟨f1,f2⟩,f3,f4⟩:=dr _ (Ld hi);obtain⟨bo,ck⟩:=Kh (xv ((zw cs i).map Cs.inp) cs[i].inp);have bL:=zH ck;rw[ck] at bf dm;have aq:=zH (@uk n m cs[i]);have ai:=zH (@wZ n m cs[i]);have au:=zH (@ul n m cs[i]);obtain⟨x,hx⟩:=Kh (cs[i]);have HX:=zH hx;rw[hx] at c0 c1 c2 I0 I1 I2 f0 f1 f2 f3 f4 mV bf dm aq ai au;obtain⟨xi,xo,xc⟩:=x;dsimp only at c0 c1 c2 I0 I1 I2 f0 f1 f2 f3 f4 mV bf dm aq ai au;obtain⟨ev,cP⟩:=Kh (zA xi n ins);rw[cP] at mV bf dm;have cG:=zH f2;have rA:=zH f4;obtain⟨W1,cV,b0,b1,hsz,aG⟩:=tboxes w #[O U n,O U ins,O U m,I A cs.length kc] #[I A0 xi.length k0,I A1 xo.length k1,I A2 xc.length k2] 24 63;have bg:=zH aG;have H0:=zH ((I0.keep aG).more (show w.heap.size<=W1.heap.size by omega));have H1:=zH ((I1.keep aG).more (show w.heap.size<=W1.heap.size by omega));have H2:=zH ((I2.keep aG).more (show w.heap.size<=W1.heap.size by omega));have DA:=zH ((hA.keep aG).more (show w.heap.size<=W1.heap.size by omega));have FM:=zH (kB A0 k0 xi n ins (by omega) W1 H0.out);rw[cP] at FM;subst e
 have np:=zH b0;have tx:=zH b1;have j':=zH cV;clear hE ck hx cP f2 f4 hA dr I0 I1 I2 cV aG b0 b1 hsz;go_enter func156,ntmps156;go_wp2_with fail;rw[j'.out];obtain⟨q0,q1,q2,q3,_⟩:=Kb np.out;obtain⟨p0,p1,p2,_⟩:=Kc tx.out;have Gx:=bg.out.size;clear j' c0 c1 c2;refine FM.out.mono ?_;rintro e w' ⟨rfl,fi⟩;obtain rfl:W1=w':=fi.symm;clear FM
 by_cases cP:ev=0
 case neg=>
  have hd:=zH (mV.out cP);have e0:(ev != 0)=Ar:=by simpa using cP
  clear mV bf dm aq ai au cP bL HX;go_wp2_with fail;go_ret;exact⟨zd hd.out.symm,bg.out⟩
 case pos=>
 subst cP;clear mV
 cases i with
 | zero=>
  obtain rfl:bo=As:=by rw[<-bL.out];rfl
  have g0:decide ((0:Int)<0)=As:=by decide
  clear bL HX;go_wp2_with fail;go_quiet (fail);have dN:=zH (dm.out (by simp) (by simp));clear bf dm
  by_cases hz:xo.length<1
  . have hR:=zH (dN.out.trans (aq.out hz))
    clear dN aq ai au;go_wp2_with fail
    all_goals first | (exfalso;omega) | skip
    go_ret;exact⟨zd hR.out.symm,by repeat (first | exact bg.out | refine zO ?_ _)⟩
  have bN:¬((xo.length:Int)<1):=by omega
  have ai:=zH (fun h=>dN.out.trans (ai.out (by omega) (by omega) h));have au:=zH (fun h=>dN.out.trans (au.out (by omega) (by omega) h));clear aq dN;obtain⟨F,hF⟩:∃F,qa (fun v=>zA v n m) xo=F:=⟨_,rfl⟩;have HF:Ap (F=yl (fun v=>zA v n m) xo 0):=by rw[xb];exact hF.symm
  rw[hF] at ai au;clear hF;go_wp2_with fail
  all_goals first | (exfalso;omega) | skip
  go_loopw [7] (fun i wr=>∃k q:Nat,k<=xo.length/\i=O U (k:Int)/\Ap (F=yl (fun v=>zA v n m) xo k)/\wr=W1.drewN q) (fun i _=>xo.length-(Ao i).toNat)
  case atStart=>exact⟨0,_,by omega,rfl,HF,rfl⟩
  case round=>
   obtain⟨k,q,hk,rfl,aj,rfl⟩:=hrel;clear HF
   by_cases aa:k<xo.length
   . obtain⟨b,o,A3,k3,rfl,hb,c3,I3⟩:=H1.out.at_ k aa
     have l3:=cG.out _ (Ld aa);have pf:=zH I3;have aF:=zH (@xE (fun v=>zA v n m) xo k aa);have bf:=zH (@yQ (fun v=>zA v n m) xo k aa);have aB:=zH (@qd (fun v=>zA v n m) xo k aa);have HV:=zH (fun (p:Nat)=>kB A3 k3 xo[k] n m (by omega) (W1.drewN p) I3);obtain⟨bo,ck⟩:=Kh (xv (zw xo k) xo[k]);have bL:=zH ck;rw[ck] at bf aB;obtain⟨v,hv⟩:=Kh (xo[k]);have HX:=zH hv;rw[hv] at c3 pf l3 aF bf aB HV;obtain⟨ev,cP⟩:=Kh (zA v n m);rw[cP] at aF bf aB HV;obtain⟨vl,co⟩:=Kh v.length;have eJ:=zH co;rw[co] at c3 l3 HV;clear hv ck cP co I3
     by_cases he:ev=0
     case neg=>
      have hR:=zH (aj.out.trans (aF.out he));have HR:=zH ((ai.out (by rw[hR.out];exact he)).trans hR.out);clear aj bf aB aF ai au bL HX eJ;have e0:(ev != 0)=Ar:=by simpa using he
      clear he;go_wp2_with fail;go_quiet ((go_at_call 170;exact kU (HV.out _)));go_wp2_with fail;go_ret;exact⟨zd HR.out.symm,by repeat (first | exact bg.out | refine zO ?_ _)⟩
     case pos=>
     subst he;clear aF;go_wp2_with fail;go_quiet ((go_at_call 170;exact kU (HV.out _)));clear HV;have eG:k<=30:=by omega
     cases k with
     | zero=>
      obtain rfl:bo=As:=by rw[<-bL.out];rfl
      have g0:decide ((0:Int)<0)=As:=by decide
      clear bL HX eJ;go_wp2_with fail;go_quiet (fail);have hR:=zH (aj.out.trans (aB.out (by simp) (by simp)));clear aj bf aB;go_wp2_with fail
      go_roundw
      case rel=>exact⟨0+1,_,by omega,by go_num,hR,rfl⟩
      case measure=>simp[Ao];omega
     | succ j=>
      have hj:j<xo.length:=by omega
      have cq:xv (zw xo (j+1)) xo[j+1]=decide (0<=zm xo[j] xo[j+1]):=by rw[ya xo j hj];rfl
      obtain⟨b',o',pE,od,e',_,u0,U0⟩:=H1.out.at_ j hj
      cases e'
      have pd:=cG.out _ (Ld hj);rw[HX.out] at cq;have hc:=fun (p:Nat)=>yL pE A3 od k3 xo[j] v (by omega) (by rw[<-HX.out];have:=cG.out _ (Ld aa);omega) (W1.drewN p) U0 pf.out
      rw[show xv (zw xo (j+1)) v=bo by have:=bL.out;rwa[HX.out] at this] at cq;obtain⟨r,hr⟩:=Kh (zm xo[j] v);rw[hr] at cq hc;have dh:=zH cq;obtain⟨nl,eh⟩:=Kh (xo[j].length);rw[eh] at u0 hc pd;rw[eJ.out] at hc;have HC:=zH hc;clear cq hc hr eh U0 bL HX eJ;have g1:((j:Int)+1).toNat=j+1:=by omega
      have g3:IntKind.i64.wrap ((j:Int)+1-1)=(j:Int):=by rw[Lv];omega
      have g5:IntKind.i64.wrap ((j:Int)+1)=(j:Int)+1:=by rw[Lv];omega
      have g6:decide ((0:Int)<(j:Int)+1)=Ar:=Lm (by omega)
      cases bo with
      | true=>
       have g7:decide (0<=r)=Ar:=dh.out.symm;have g8:0<=r:=Lw g7;clear dh;go_wp2_with fail;go_quiet ((go_at_call 171;first | exact zV (HC.out _) | exact Nf (HC.out _)));clear HC g1 g3 g5 g6 u0;have hR:=zH (aj.out.trans (bf.out (by simp) (by simp)));have cF:=zH ((ai.out (by rw[hR.out];decide)).trans hR.out);clear aj bf aB ai au;go_wp2_with fail;go_ret;exact⟨zd cF.out.symm,by repeat (first | exact bg.out | refine zO ?_ _)⟩
      | false=>
       have g7:decide (0<=r)=As:=dh.out.symm;have g8:¬0<=r:=NH g7;clear dh;go_wp2_with fail;go_quiet ((go_at_call 171;first | exact zV (HC.out _) | exact Nf (HC.out _)));clear HC g1 g3 g5 g6 u0;have hR:=zH (aj.out.trans (aB.out (by simp) (by simp)));clear aj bf aB;go_wp2_with fail
       go_roundw
       case rel=>exact⟨j+1+1,_,by omega,by go_num,hR,rfl⟩
       case measure=>simp[Ao];omega
   . obtain rfl:k=xo.length:=by omega
     have hR:=zH (aj.out.trans xD);have HR:=zH (au.out hR.out);clear aj ai au hR;go_wp2_with fail;obtain⟨G,hG⟩:=Kh (qa (xJ xo) xc);have HG:Ap (G=yl (xJ xo) xc 0):=by rw[xb];exact hG.symm
     rw[hG] at HR;clear hG
     go_loopw [9] (fun i wr=>∃k q:Nat,k<=xc.length/\i=O U (k:Int)/\Ap (G=yl (xJ xo) xc k)/\wr=W1.drewN q) (fun i _=>xc.length-(Ao i).toNat)
     case atStart=>exact⟨0,_,by omega,rfl,HG,rfl⟩
     case round=>
      obtain⟨k,q,hk,rfl,aj,rfl⟩:=hrel;clear HG
      by_cases aa:k<xc.length
      . obtain⟨b,o,A3,k3,rfl,hb,c3,I3⟩:=H2.out.at_ k aa
        have l3:=rA.out _ (Ld aa);have pf:=zH I3;have aF:=zH (@xE (xJ xo) xc k aa);have bf:=zH (@yQ (xJ xo) xc k aa);have aB:=zH (@qd (xJ xo) xc k aa);have HV:=zH (fun (p:Nat)=>Yx A1 k1 xo A3 k3 xc[k] (by omega) (fun v hv=>by have:=cG.out v hv;omega) (by omega) (W1.drewN p) H1.out I3);have eP:Ap (∀v,xJ xo v=if v∈xo then 0 else 6):=fun _=>rfl
        obtain⟨bo,ck⟩:=Kh (xv (zw xc k) xc[k]);have bL:=zH ck;rw[ck] at bf aB;obtain⟨v,hv⟩:=Kh (xc[k]);have HX:=zH hv;rw[hv] at c3 pf l3 aF bf aB HV;have eP:=zH (eP.out v);obtain⟨ev,cP⟩:=Kh (xJ xo v);rw[cP] at aF bf aB eP;obtain⟨vl,co⟩:=Kh v.length;have eJ:=zH co;rw[co] at c3 l3 HV;clear hv ck cP co I3
        by_cases hm:v∈xo
        case neg=>
         have he:ev=6:=eP.out.trans (Li hm);subst he;rw[Ln hm] at HV;have hR:=zH (aj.out.trans (aF.out (by decide)));have cF:=zH (HR.out.trans hR.out);clear aj bf aB aF hm eP HR bL HX eJ;go_wp2_with fail;go_quiet ((go_at_call 172;exact zV (HV.out _)));go_wp2_with fail;go_ret;exact⟨zd cF.out.symm,by repeat (first | exact bg.out | refine zO ?_ _)⟩
        case pos=>
        have he:ev=0:=eP.out.trans (Lo hm);subst he;rw[Lm hm] at HV;clear aF hm eP;go_wp2_with fail;go_quiet ((go_at_call 172;exact zV (HV.out _)));clear HV;have eG:k<=30:=by omega
        cases k with
        | zero=>
         obtain rfl:bo=As:=by rw[<-bL.out];rfl
         have g0:decide ((0:Int)<0)=As:=by decide
         clear bL HX eJ;go_wp2_with fail;go_quiet (fail);have hR:=zH (aj.out.trans (aB.out (by simp) (by simp)));clear aj bf aB;go_wp2_with fail
         go_roundw
         case rel=>exact⟨0+1,_,by omega,by go_num,hR,rfl⟩
         case measure=>simp[Ao];omega
        | succ j=>
         have hj:j<xc.length:=by omega
         have cq:xv (zw xc (j+1)) xc[j+1]=decide (0<=zm xc[j] xc[j+1]):=by rw[ya xc j hj];rfl
         obtain⟨b',o',pE,od,e',_,u0,U0⟩:=H2.out.at_ j hj
         cases e'
         have pd:=rA.out _ (Ld hj);rw[HX.out] at cq;have hc:=fun (p:Nat)=>yL pE A3 od k3 xc[j] v (by omega) (by rw[<-HX.out];have:=rA.out _ (Ld aa);omega) (W1.drewN p) U0 pf.out
         rw[show xv (zw xc (j+1)) v=bo by have:=bL.out;rwa[HX.out] at this] at cq;obtain⟨r,hr⟩:=Kh (zm xc[j] v);rw[hr] at cq hc;have dh:=zH cq;obtain⟨nl,eh⟩:=Kh (xc[j].length);rw[eh] at u0 hc pd;rw[eJ.out] at hc;have HC:=zH hc;clear cq hc hr eh U0 bL HX eJ;have g1:((j:Int)+1).toNat=j+1:=by omega
         have g3:IntKind.i64.wrap ((j:Int)+1-1)=(j:Int):=by rw[Lv];omega
         have g5:IntKind.i64.wrap ((j:Int)+1)=(j:Int)+1:=by rw[Lv];omega
         have g6:decide ((0:Int)<(j:Int)+1)=Ar:=Lm (by omega)
         cases bo with
         | true=>
          have g7:decide (0<=r)=Ar:=dh.out.symm;have g8:0<=r:=Lw g7;clear dh;go_wp2_with fail;go_quiet ((go_at_call 171;first | exact zV (HC.out _) | exact Nf (HC.out _)));clear HC g1 g3 g5 g6 u0;have hR:=zH (aj.out.trans (bf.out (by simp) (by simp)));have cF:=zH (HR.out.trans hR.out);clear aj bf aB HR;go_wp2_with fail;go_ret;exact⟨zd cF.out.symm,by repeat (first | exact bg.out | refine zO ?_ _)⟩
         | false=>
          have g7:decide (0<=r)=As:=dh.out.symm;have g8:¬0<=r:=NH g7;clear dh;go_wp2_with fail;go_quiet ((go_at_call 171;first | exact zV (HC.out _) | exact Nf (HC.out _)));clear HC g1 g3 g5 g6 u0;have hR:=zH (aj.out.trans (aB.out (by simp) (by simp)));clear aj bf aB;go_wp2_with fail
          go_roundw
          case rel=>exact⟨j+1+1,_,by omega,by go_num,hR,rfl⟩
          case measure=>simp[Ao];omega
      . obtain rfl:k=xc.length:=by omega
        have hR:=zH (aj.out.trans xD);have cF:=zH (HR.out.trans hR.out);clear aj HR hR;go_wp2_with fail;go_ret;exact⟨zd cF.out.symm,by repeat (first | exact bg.out | refine zO ?_ _)⟩
 | succ j=>
  have hj:j<cs.length:=by omega
  have cq:xv ((zw cs (j+1)).map Cs.inp) cs[j+1].inp=decide (0<=zm cs[j].inp cs[j+1].inp):=by rw[ya cs j hj];rfl
  obtain⟨b',o',pE,od,_,_,_,_,e',_,u0,_,_,U0,_,_⟩:=DA.out.row j hj
  cases e'
  obtain⟨pd,_,_⟩:=ry.out _ (Ld hj);rw[HX.out] at cq;have hc:=fun (p:Nat)=>yL pE A0 od k0 cs[j].inp xi (by omega) (by omega) (W1.drewN p) U0 H0.out
  rw[show xv ((zw cs (j+1)).map Cs.inp) xi=bo by have:=bL.out;rwa[HX.out] at this] at cq;obtain⟨r,hr⟩:=Kh (zm cs[j].inp xi);rw[hr] at cq hc;have dh:=zH cq;obtain⟨nl,eh⟩:=Kh (cs[j].inp.length);rw[eh] at u0 hc pd;have HC:=zH hc;clear cq hc hr eh U0 bL HX;have g1:((j:Int)+1).toNat=j+1:=by omega
  have g3:IntKind.i64.wrap ((j:Int)+1-1)=(j:Int):=by rw[Lv];omega
  have g5:IntKind.i64.wrap ((j:Int)+1)=(j:Int)+1:=by rw[Lv];omega
  have g6:decide ((0:Int)<(j:Int)+1)=Ar:=Lm (by omega)
  cases bo with
  | true=>
   have g7:decide (0<=r)=Ar:=dh.out.symm;have g8:0<=r:=Lw g7;clear dh;go_wp2_with fail;go_quiet ((go_at_call 171;first | exact zV (HC.out _) | exact Nf (HC.out _)));clear HC g1 g3 g5 g6 u0;have hd:=zH (bf.out (by simp) (by simp));clear bf dm aq ai au;go_wp2_with fail;go_ret;exact⟨zd hd.out.symm,by repeat (first | exact bg.out | refine zO ?_ _)⟩
  | false=>
   have g7:decide (0<=r)=As:=dh.out.symm;have g8:¬0<=r:=NH g7;clear dh;go_wp2_with fail;go_quiet ((go_at_call 171;first | exact zV (HC.out _) | exact Nf (HC.out _)));clear HC g1 g3 g5 g6 u0;have dN:=zH (dm.out (by simp) (by simp));clear bf dm
   by_cases hz:xo.length<1
   . have hR:=zH (dN.out.trans (aq.out hz))
     clear dN aq ai au;go_wp2_with fail
     all_goals first | (exfalso;omega) | skip
     go_ret;exact⟨zd hR.out.symm,by repeat (first | exact bg.out | refine zO ?_ _)⟩
   have bN:¬((xo.length:Int)<1):=by omega
   have ai:=zH (fun h=>dN.out.trans (ai.out (by omega) (by omega) h));have au:=zH (fun h=>dN.out.trans (au.out (by omega) (by omega) h));clear aq dN;obtain⟨F,hF⟩:∃F,qa (fun v=>zA v n m) xo=F:=⟨_,rfl⟩;have HF:Ap (F=yl (fun v=>zA v n m) xo 0):=by rw[xb];exact hF.symm
   rw[hF] at ai au;clear hF;go_wp2_with fail
   all_goals first | (exfalso;omega) | skip
   go_loopw [7] (fun i wr=>∃k q:Nat,k<=xo.length/\i=O U (k:Int)/\Ap (F=yl (fun v=>zA v n m) xo k)/\wr=W1.drewN q) (fun i _=>xo.length-(Ao i).toNat)
   case atStart=>exact⟨0,_,by omega,rfl,HF,rfl⟩
   case round=>
    obtain⟨k,q,hk,rfl,aj,rfl⟩:=hrel;clear HF
    by_cases aa:k<xo.length
    . obtain⟨b,o,A3,k3,rfl,hb,c3,I3⟩:=H1.out.at_ k aa
      have l3:=cG.out _ (Ld aa);have pf:=zH I3;have aF:=zH (@xE (fun v=>zA v n m) xo k aa);have bf:=zH (@yQ (fun v=>zA v n m) xo k aa);have aB:=zH (@qd (fun v=>zA v n m) xo k aa);have HV:=zH (fun (p:Nat)=>kB A3 k3 xo[k] n m (by omega) (W1.drewN p) I3);obtain⟨bo,ck⟩:=Kh (xv (zw xo k) xo[k]);have bL:=zH ck;rw[ck] at bf aB;obtain⟨v,hv⟩:=Kh (xo[k]);have HX:=zH hv;rw[hv] at c3 pf l3 aF bf aB HV;obtain⟨ev,cP⟩:=Kh (zA v n m);rw[cP] at aF bf aB HV;obtain⟨vl,co⟩:=Kh v.length;have eJ:=zH co;rw[co] at c3 l3 HV;clear hv ck cP co I3
      by_cases he:ev=0
      case neg=>
       have hR:=zH (aj.out.trans (aF.out he));have HR:=zH ((ai.out (by rw[hR.out];exact he)).trans hR.out);clear aj bf aB aF ai au bL HX eJ;have e0:(ev != 0)=Ar:=by simpa using he
       clear he;go_wp2_with fail;go_quiet ((go_at_call 170;exact kU (HV.out _)));go_wp2_with fail;go_ret;exact⟨zd HR.out.symm,by repeat (first | exact bg.out | refine zO ?_ _)⟩
      case pos=>
      subst he;clear aF;go_wp2_with fail;go_quiet ((go_at_call 170;exact kU (HV.out _)));clear HV;have eG:k<=30:=by omega
      cases k with
      | zero=>
       obtain rfl:bo=As:=by rw[<-bL.out];rfl
       have g0:decide ((0:Int)<0)=As:=by decide
       clear bL HX eJ;go_wp2_with fail;go_quiet (fail);have hR:=zH (aj.out.trans (aB.out (by simp) (by simp)));clear aj bf aB;go_wp2_with fail
       go_roundw
       case rel=>exact⟨0+1,_,by omega,by go_num,hR,rfl⟩
       case measure=>simp[Ao];omega
      | succ j=>
       have hj:j<xo.length:=by omega
       have cq:xv (zw xo (j+1)) xo[j+1]=decide (0<=zm xo[j] xo[j+1]):=by rw[ya xo j hj];rfl
       obtain⟨b',o',pE,od,e',_,u0,U0⟩:=H1.out.at_ j hj
       cases e'
       have pd:=cG.out _ (Ld hj);rw[HX.out] at cq;have hc:=fun (p:Nat)=>yL pE A3 od k3 xo[j] v (by omega) (by rw[<-HX.out];have:=cG.out _ (Ld aa);omega) (W1.drewN p) U0 pf.out
       rw[show xv (zw xo (j+1)) v=bo by have:=bL.out;rwa[HX.out] at this] at cq;obtain⟨r,hr⟩:=Kh (zm xo[j] v);rw[hr] at cq hc;have dh:=zH cq;obtain⟨nl,eh⟩:=Kh (xo[j].length);rw[eh] at u0 hc pd;rw[eJ.out] at hc;have HC:=zH hc;clear cq hc hr eh U0 bL HX eJ;have g1:((j:Int)+1).toNat=j+1:=by omega
       have g3:IntKind.i64.wrap ((j:Int)+1-1)=(j:Int):=by rw[Lv];omega
       have g5:IntKind.i64.wrap ((j:Int)+1)=(j:Int)+1:=by rw[Lv];omega
       have g6:decide ((0:Int)<(j:Int)+1)=Ar:=Lm (by omega)
       cases bo with
       | true=>
        have g7:decide (0<=r)=Ar:=dh.out.symm;have g8:0<=r:=Lw g7;clear dh;go_wp2_with fail;go_quiet ((go_at_call 171;first | exact zV (HC.out _) | exact Nf (HC.out _)));clear HC g1 g3 g5 g6 u0;have hR:=zH (aj.out.trans (bf.out (by simp) (by simp)));have cF:=zH ((ai.out (by rw[hR.out];decide)).trans hR.out);clear aj bf aB ai au;go_wp2_with fail;go_ret;exact⟨zd cF.out.symm,by repeat (first | exact bg.out | refine zO ?_ _)⟩
       | false=>
        have g7:decide (0<=r)=As:=dh.out.symm;have g8:¬0<=r:=NH g7;clear dh;go_wp2_with fail;go_quiet ((go_at_call 171;first | exact zV (HC.out _) | exact Nf (HC.out _)));clear HC g1 g3 g5 g6 u0;have hR:=zH (aj.out.trans (aB.out (by simp) (by simp)));clear aj bf aB;go_wp2_with fail
        go_roundw
        case rel=>exact⟨j+1+1,_,by omega,by go_num,hR,rfl⟩
        case measure=>simp[Ao];omega
    . obtain rfl:k=xo.length:=by omega
      have hR:=zH (aj.out.trans xD);have HR:=zH (au.out hR.out);clear aj ai au hR;go_wp2_with fail;obtain⟨G,hG⟩:=Kh (qa (xJ xo) xc);have HG:Ap (G=yl (xJ xo) xc 0):=by rw[xb];exact hG.symm
      rw[hG] at HR;clear hG
      go_loopw [9] (fun i wr=>∃k q:Nat,k<=xc.length/\i=O U (k:Int)/\Ap (G=yl (xJ xo) xc k)/\wr=W1.drewN q) (fun i _=>xc.length-(Ao i).toNat)
      case atStart=>exact⟨0,_,by omega,rfl,HG,rfl⟩
      case round=>
       obtain⟨k,q,hk,rfl,aj,rfl⟩:=hrel;clear HG
       by_cases aa:k<xc.length
       . obtain⟨b,o,A3,k3,rfl,hb,c3,I3⟩:=H2.out.at_ k aa
         have l3:=rA.out _ (Ld aa);have pf:=zH I3;have aF:=zH (@xE (xJ xo) xc k aa);have bf:=zH (@yQ (xJ xo) xc k aa);have aB:=zH (@qd (xJ xo) xc k aa);have HV:=zH (fun (p:Nat)=>Yx A1 k1 xo A3 k3 xc[k] (by omega) (fun v hv=>by have:=cG.out v hv;omega) (by omega) (W1.drewN p) H1.out I3);have eP:Ap (∀v,xJ xo v=if v∈xo then 0 else 6):=fun _=>rfl
         obtain⟨bo,ck⟩:=Kh (xv (zw xc k) xc[k]);have bL:=zH ck;rw[ck] at bf aB;obtain⟨v,hv⟩:=Kh (xc[k]);have HX:=zH hv;rw[hv] at c3 pf l3 aF bf aB HV;have eP:=zH (eP.out v);obtain⟨ev,cP⟩:=Kh (xJ xo v);rw[cP] at aF bf aB eP;obtain⟨vl,co⟩:=Kh v.length;have eJ:=zH co;rw[co] at c3 l3 HV;clear hv ck cP co I3
         by_cases hm:v∈xo
         case neg=>
          have he:ev=6:=eP.out.trans (Li hm);subst he;rw[Ln hm] at HV;have hR:=zH (aj.out.trans (aF.out (by decide)));have cF:=zH (HR.out.trans hR.out);clear aj bf aB aF hm eP HR bL HX eJ;go_wp2_with fail;go_quiet ((go_at_call 172;exact zV (HV.out _)));go_wp2_with fail;go_ret;exact⟨zd cF.out.symm,by repeat (first | exact bg.out | refine zO ?_ _)⟩
         case pos=>
         have he:ev=0:=eP.out.trans (Lo hm);subst he;rw[Lm hm] at HV;clear aF hm eP;go_wp2_with fail;go_quiet ((go_at_call 172;exact zV (HV.out _)));clear HV;have eG:k<=30:=by omega
         cases k with
         | zero=>
          obtain rfl:bo=As:=by rw[<-bL.out];rfl
          have g0:decide ((0:Int)<0)=As:=by decide
          clear bL HX eJ;go_wp2_with fail;go_quiet (fail);have hR:=zH (aj.out.trans (aB.out (by simp) (by simp)));clear aj bf aB;go_wp2_with fail
          go_roundw
          case rel=>exact⟨0+1,_,by omega,by go_num,hR,rfl⟩
          case measure=>simp[Ao];omega
         | succ j=>
          have hj:j<xc.length:=by omega
          have cq:xv (zw xc (j+1)) xc[j+1]=decide (0<=zm xc[j] xc[j+1]):=by rw[ya xc j hj];rfl
          obtain⟨b',o',pE,od,e',_,u0,U0⟩:=H2.out.at_ j hj
          cases e'
          have pd:=rA.out _ (Ld hj);rw[HX.out] at cq;have hc:=fun (p:Nat)=>yL pE A3 od k3 xc[j] v (by omega) (by rw[<-HX.out];have:=rA.out _ (Ld aa);omega) (W1.drewN p) U0 pf.out
          rw[show xv (zw xc (j+1)) v=bo by have:=bL.out;rwa[HX.out] at this] at cq;obtain⟨r,hr⟩:=Kh (zm xc[j] v);rw[hr] at cq hc;have dh:=zH cq;obtain⟨nl,eh⟩:=Kh (xc[j].length);rw[eh] at u0 hc pd;rw[eJ.out] at hc;have HC:=zH hc;clear cq hc hr eh U0 bL HX eJ;have g1:((j:Int)+1).toNat=j+1:=by omega
          have g3:IntKind.i64.wrap ((j:Int)+1-1)=(j:Int):=by rw[Lv];omega
          have g5:IntKind.i64.wrap ((j:Int)+1)=(j:Int)+1:=by rw[Lv];omega
          have g6:decide ((0:Int)<(j:Int)+1)=Ar:=Lm (by omega)
          cases bo with
          | true=>
           have g7:decide (0<=r)=Ar:=dh.out.symm;have g8:0<=r:=Lw g7;clear dh;go_wp2_with fail;go_quiet ((go_at_call 171;first | exact zV (HC.out _) | exact Nf (HC.out _)));clear HC g1 g3 g5 g6 u0;have hR:=zH (aj.out.trans (bf.out (by simp) (by simp)));have cF:=zH (HR.out.trans hR.out);clear aj bf aB HR;go_wp2_with fail;go_ret;exact⟨zd cF.out.symm,by repeat (first | exact bg.out | refine zO ?_ _)⟩
          | false=>
           have g7:decide (0<=r)=As:=dh.out.symm;have g8:¬0<=r:=NH g7;clear dh;go_wp2_with fail;go_quiet ((go_at_call 171;first | exact zV (HC.out _) | exact Nf (HC.out _)));clear HC g1 g3 g5 g6 u0;have hR:=zH (aj.out.trans (aB.out (by simp) (by simp)));clear aj bf aB;go_wp2_with fail
           go_roundw
           case rel=>exact⟨j+1+1,_,by omega,by go_num,hR,rfl⟩
           case measure=>simp[Ao];omega
       . obtain rfl:k=xc.length:=by omega
         have hR:=zH (aj.out.trans xD);have cF:=zH (HR.out.trans hR.out);clear aj HR hR;go_wp2_with fail;go_ret;exact⟨zd cF.out.symm,by repeat (first | exact bg.out | refine zO ?_ _)⟩
end
section
open Go.RowKit
attribute [local go_sem] Oper.semAt_some
theorem jp(A B:Bb)(ca cb:Nat)(xs ys:List (List Int))(hx:xs.length<=17592186044416)(_hy:ys.length<=17592186044416)(dG:∀v∈xs,v.length<=17592186044416)(ig:∀v∈ys,v.length<=17592186044416)(w:Ba)(hA:LAt w w.heap.size A xs)(hB:LAt w w.heap.size B ys) :
  An Al 176 #[I A xs.length ca,I B ys.length cb] w fun e w'=>e=Ak (Ah (decide (xs=ys)))/\∃n,w'=w.drewN n:=by
 have HXL:=zH dG;have Hj:=zH ig;have HA:=zH hA;have HB:=zH hB;have HT:Ap (∀b,(xs=ys↔b=Ar)->decide (xs=ys)=b):=fun b h=>by cases b<;>simp_all
 obtain⟨r,hr⟩:∃r,decide (xs=ys)=r:=⟨_,rfl⟩;rw[hr] at HT ⊢;go_enter func176,ntmps176
 by_cases hl:xs.length=ys.length
 case neg=>
  have hR:Ap (r=As):=HT.out As ⟨fun h=>absurd (congrArg List.length h) hl,fun h=>by cases h⟩;have e0:((xs.length:Int) != (ys.length:Int))=Ar:=by simp;omega
  go_wp2_with fail;go_ret;exact⟨ze hR.out.symm,0,rfl⟩
 case pos=>
 have HL:=zH hl;rw[<-hl] at _hy ⊢;go_wp2_with fail
 go_loopw [5] (fun i wr=>∃k n:Nat,k<=xs.length/\i=O U (k:Int)/\Ap (xs.take k=ys.take k)/\Ap (wr=w.drewN n)) (fun i _=>xs.length-(Ao i).toNat)
 case atStart=>exact⟨0,0,by omega,rfl,by rw[Ap,LI,LI],rfl⟩
 obtain⟨k,n,hk,rfl,hp,hw⟩:=hrel
 by_cases aa:k<xs.length
 case neg=>
  obtain rfl:k=xs.length:=by omega
  have hR:Ap (r=Ar):=HT.out Ar ⟨fun _=>rfl,fun _=>xQ HL.out hp.out⟩;go_wp2_with fail;go_ret;exact⟨ze hR.out.symm,n,hw.out⟩
 case pos=>
 have eq:k<ys.length:=by have:=HL.out;omega
 obtain⟨ba,oa,A1,k1,ea,_,a0,IA⟩:=(HA.out).at_ k aa;obtain⟨bb,ob,A2,k2,eb,_,b0,IB⟩:=(HB.out).at_ k eq;subst ea;subst eb;have pU:Ap (∀p,wr.cell? p=w.cell? p):=fun p=>by rw[hw.out];rfl
 rw[<-pU.out] at a0 b0;have lj:=HXL.out _ (Ld aa);have fh:=Hj.out _ (Ld eq);have hc:=fun (p:Nat)=>yL A1 A2 k1 k2 xs[k] ys[k] lj fh (wr.drewN p) (by rw[hw.out];exact IA) (by rw[hw.out];exact IB)
 by_cases he:xs[k]=ys[k]
 . have hR:=zH (yH hp.out aa eq he)
   have hz:zm xs[k] ys[k]=0:=by rw[he];exact yM _
   rw[hz] at hc;obtain⟨la,pN⟩:=Kh (xs[k].length);obtain⟨lb,oQ⟩:=Kh (ys[k].length);rw[pN] at a0 hc lj;rw[oQ] at b0 hc fh;have HC:=zH hc;go_wp2_with fail;go_quiet ((go_at_call 171;first | exact zV (HC.out _) | exact Nf (HC.out _)));go_wp2_with fail
   go_roundw
   case rel=>exact⟨k+1,n+nq,by omega,by go_num,hR,by rw[Ap,hw.out,kP]⟩
   simp[Ao];omega
 have hR:Ap (r=As):=HT.out As ⟨fun h=>absurd (by subst h;rfl) he,fun h=>by cases h⟩;have hz:zm xs[k] ys[k]≠0:=fun h=>he (xR h)
 obtain⟨z,UP⟩:=Kh (zm xs[k] ys[k]);rw[UP] at hz hc;obtain⟨la,pN⟩:=Kh (xs[k].length);obtain⟨lb,oQ⟩:=Kh (ys[k].length);rw[pN] at a0 hc lj;rw[oQ] at b0 hc fh;have HC:=zH hc;have e0:(z != 0)=Ar:=by simpa using hz
 go_wp2_with fail;go_quiet ((go_at_call 171;first | exact zV (HC.out _) | exact Nf (HC.out _)));go_wp2_with fail;go_ret;exact⟨ze hR.out.symm,n+nq,by rw[hw.out,kP]⟩
end
section
open Go.RowKit
theorem Yu(t:Tk)(A:Bb)(kc:Nat)(hf:Z9 t)(w:Ba)(hA:CAt w w.heap.size A t.cases) :
  An Al 131 #[Ai #[O U t.n,O U t.ins,O U t.outs,I A t.cases.length kc]] w fun e w'=>e=Ak (O U (zX t))/\Am w.heap.size w w':=by
 have ph:=zH (fun (i:Nat) (hi:i<t.cases.length) (w':Ba) (h:CAt w' w'.heap.size A t.cases)=>rone_any t A kc hf i hi w' h);obtain⟨dZ,dr⟩:=hf;have HA:=zH hA;have aq:=zH (@vS t);have ai:=zH (@uM t);have au:=zH (@vT t);obtain⟨E,hE⟩:=Kh (zX t);rw[hE] at aq ai au ⊢
 by_cases hr:t.n<1\/5<t.n\/t.ins<1\/8<t.ins\/t.outs<1\/8<t.outs
 . have HR:=zH (aq.out hr)
   obtain⟨cv,nH⟩:=Kh (I A t.cases.length kc);rw[nH];have HN:=zH hr;obtain⟨n,ins,outs,cases⟩:=t;dsimp only at HN ⊢;clear aq ai au nH hA dr HA hE hr ph dZ;go_enter func131,ntmps131;go_wp2_with fail
   all_goals first | (exfalso;have:=HN.out;omega) | (go_ret;exact⟨zd HR.out.symm,zN w _⟩)
 have r1:¬t.n<1:=by omega
 have r2:¬5<t.n:=by omega
 have r3:¬t.ins<1:=by omega
 have r4:¬8<t.ins:=by omega
 have r5:¬t.outs<1:=by omega
 have r6:¬8<t.outs:=by omega
 have ai:=zH (ai.out hr);have cJ:=zH (au.out hr);clear hr aq hE hA dr au
 by_cases hz:t.cases.length<1
 . have HR:=zH (ai.out hz)
   obtain⟨n,ins,outs,cases⟩:=t;dsimp only at dZ r1 r2 r3 r4 r5 r6 hz ⊢;clear ai cJ HA ph;go_enter func131,ntmps131;go_wp2_with fail
   all_goals first | (exfalso;omega) | skip
   go_ret;exact⟨zd HR.out.symm,zN w _⟩
 have bN:¬((t.cases.length:Int)<1):=by omega
 have au:=zH (cJ.out (by omega) (by omega));clear ai hz cJ;have aF:=zH (fun k h=>@un t t.cases k h);have aB:=zH (fun k h=>@gc t t.cases k h);have KU:=zH (@um t t.cases);obtain⟨cg,St⟩:∃cg:Nat->Int,(fun k=>yE t t.cases k)=cg:=⟨_,rfl⟩;have ES:∀k,yE t t.cases k=cg k:=fun k=>congrFun St k
 obtain⟨cE,Sw⟩:∃cE:(k:Nat)->k<t.cases.length->Int,(fun k h=>xB t (zw t.cases k) t.cases[k])=cE:=⟨_,rfl⟩;have EU:∀k h,xB t (zw t.cases k) t.cases[k]=cE k h:=fun k h=>congrFun (congrFun Sw k) h
 simp only[ES,EU] at aF aB KU au ph;clear St ES Sw EU;obtain⟨n,ins,outs,cs⟩:=t;dsimp only at dZ r1 r2 r3 r4 r5 r6 bN HA au ph cE aF aB KU ⊢;go_enter func131,ntmps131;go_wp2_with fail
 all_goals first | (exfalso;omega) | skip
 obtain⟨W0,ch,b0,hsz,bX⟩:∃W0,w.alloc (Ag #[O U n,O U ins,O U outs,I A cs.length kc] 24)=W0/\W0.heap[w.heap.size]?=J (Ag #[O U n,O U ins,O U outs,I A cs.length kc] 24 (0,0))/\w.heap.size+1<=W0.heap.size/\Am w.heap.size w W0:=
  ⟨_,rfl,zj _ _,by simp,zN w _⟩
 rw[ch];have dF:=zH bX;have np:=zH b0;clear ch bX b0
 go_loopw [3] (fun i wr=>∃k:Nat,k<=cs.length/\i=O U (k:Int)/\Ap (E=cg k)/\Am W0.heap.size W0 wr) (fun i _=>cs.length-(Ao i).toNat)
 case atStart=>exact⟨0,by omega,rfl,au,Ll _ _⟩
 obtain⟨k,hk,rfl,aj,az⟩:=hrel;have dv:=zH (Lc dF.out az);have HW:=zH az;have d0:=Lb az (by omega) np.out;obtain⟨q0,q1,q2,q3,_⟩:=Kb d0
 by_cases aa:k<cs.length
 . have HC:=zH (fun (w':Ba) (h:CAt w' w'.heap.size A cs)=>ph.out k aa w' h)
   have aF:=zH (aF.out k aa);have aB:=zH (aB.out k aa);obtain⟨ev,cP⟩:=Kh (cE k aa);rw[cP] at HC aF aB;have HAr:=zH ((HA.out.keep dv.out).more dv.out.size);go_wp2_with fail;refine(HC.out _ HAr.out).mono ?_;rintro e w1 ⟨rfl,aH⟩;have ed:=zH (Lc dv.out aH);have pD:=zH (Lc HW.out aH);clear aH HC
   by_cases he:ev=0
   . subst he
     have hR:=zH (aj.out.trans (aB.out (by simp)));clear aj aF aB;go_wp2_with fail
     go_roundw
     case rel=>exact⟨k+1,by omega,by go_num,hR,pD.out⟩
     simp[Ao];omega
   have hR:=zH (aj.out.trans (aF.out he));have e0:(ev != 0)=Ar:=by simpa using he
   clear aj aF aB he;go_wp2_with fail;go_ret;exact⟨zd hR.out.symm,ed.out⟩
 obtain rfl:k=cs.length:=by omega
 have HR:=zH (aj.out.trans KU.out);clear aj;go_wp2_with fail;go_ret;exact⟨zd HR.out.symm,dv.out⟩
def kL(t:Tk):Bool:=decide (t.cases.length<=30)&&t.cases.all fun c=>decide (c.inp.length<=10)&&kK c.out 30&&kK c.calm 30
theorem fewl_iff{l:List (List Int)}:kK l 30=Ar↔FewL l:=by
 unfold kK FewL;simp
theorem Xd{t:Tk}:kL t=Ar↔Z9 t:=by
 unfold kL Z9 FewC;simp only[Bool.and_eq_true,decide_eq_true_eq,List.all_eq_true,fewl_iff,and_assoc]
end
section
open Go.RowKit
attribute [local go_sem] Oper.semAt_some
def okC(c:Cs):Bool:=decide (c.inp.length<=10)&&kK c.out 30&&kK c.calm 30
theorem fewTB_eq(t:Tk):kL t=(decide (t.cases.length<=30)&&t.cases.all okC):=rfl
def LowC(c:Cs):Prop:=c.inp.length<=17592186044416/\c.out.length<=17592186044416/\c.calm.length<=17592186044416/\(∀v∈c.out,v.length<=17592186044416)/\∀v∈c.calm,v.length<=17592186044416
theorem JD(t:Tk)(A:Bb)(kc:Nat)(hl:t.cases.length<=17592186044416)(aD:∀c∈t.cases,LowC c)(w:Ba)(hA:CAt w w.heap.size A t.cases) :
  An Al 88 #[Ai #[O U t.n,O U t.ins,O U t.outs,I A t.cases.length kc]] w fun e w'=>e=Ak (Ah (kL t))/\Am w.heap.size w w':=by
 have eD:=zH aD;have H:Ap (kL t=(decide (t.cases.length<=30)&&t.cases.all okC)):=fewTB_eq t;obtain⟨r,hr⟩:=Kh (kL t);rw[hr] at H ⊢;obtain⟨w1,ac⟩:=Kh (w.alloc (Ag #[O U t.n,O U t.ins,O U t.outs,I A t.cases.length kc] 24));have aM:=zj w (Ag #[O U t.n,O U t.ins,O U t.outs,I A t.cases.length kc] 24);have al:Am w.heap.size w w1:=by rw[<-ac];exact zN w _
 have df:w1.heap.size=w.heap.size+1:=by rw[<-ac];simp
 rw[ac] at aM;have bE:=zH aM;have aZ:=zH al;have HA:=zH ((hA.keep al).more (by omega:w.heap.size<=w1.heap.size));have ah:=zH ac;have q3:=za aM 3 rfl;clear hA ac al aM aD hr;go_enter func88,ntmps88
 by_cases hc:t.cases.length<=30
 case neg=>
  have hR:Ap (r=As):=H.out.trans (by rw[Ln hc,NM]);clear H;go_wp2_with fail;rw[ah.out];go_wp2_with fail
  all_goals first | (exfalso;omega) | skip
  go_ret;exact⟨ze hR.out.symm,aZ.out⟩
 case pos=>
 have HR:Ap (r=(t.cases.drop 0).all okC):=H.out.trans (by rw[Lm hc,Nl,LT]);clear H;go_wp2_with fail;rw[ah.out];go_wp2_with fail
 all_goals first | (exfalso;omega) | skip
 clear q3 ah
 go_loopw [3] (fun i wr=>∃k:Nat,k<=t.cases.length/\i=O U (k:Int)/\Ap (r=(t.cases.drop k).all okC)/\Ap (Am w1.heap.size w1 wr)) (fun i _=>t.cases.length-(Ao i).toNat)
 case atStart=>exact⟨0,by omega,rfl,HR,Ll _ _⟩
 clear HR;obtain⟨k,hk,rfl,hp,hb⟩:=hrel;have be:=La hb.out bE.out;have q3:=za be 3 rfl;clear be
 by_cases aa:k<t.cases.length
 case neg=>
  have hR:Ap (r=Ar):=hp.out.trans (Jg (by omega));obtain rfl:k=t.cases.length:=by omega
  clear hp;go_wp2_with fail;go_ret;exact⟨ze hR.out.symm,aZ.out.trans (hb.out.mono (by omega))⟩
 case pos=>
 obtain⟨b,o,A0,c0,A1,c1,A2,c2,e',dS,d0,d1,d2,I0,I1,I2⟩:=(HA.out.keep hb.out).row k aa;subst e';have lN:=Xs (p:=okC) aa;obtain⟨l0,l1,l2,l3,l4⟩:=eD.out _ (Ld aa);have aV:=hb.out.size;have dZ:=fun (W:Ba) (hW:Am wr.heap.size wr W)=>Xc A1 c1 t.cases[k].out l1 l3 W (((I1.more aV).keep hW).more hW.size)
 have dr:=fun (W:Ba) (hW:Am wr.heap.size wr W)=>Xc A2 c2 t.cases[k].calm l2 l4 W (((I2.more aV).keep hW).more hW.size)
 unfold okC at lN;obtain⟨c,lZ⟩:=Kh (t.cases[k]);rw[lZ] at d0 d1 d2 l0 l1 l2 lN dZ dr;obtain⟨b1,aH⟩:=Kh (kK c.out 30);obtain⟨b2,af⟩:=Kh (kK c.calm 30);rw[aH] at lN dZ;rw[af] at lN dr;obtain⟨wc,nB⟩:=Kh (wr.alloc (Ag #[I A0 c.inp.length c0,I A1 c.out.length c1,I A2 c.calm.length c2] 63));have l6:=zj wr (Ag #[I A0 c.inp.length c0,I A1 c.out.length c1,I A2 c.calm.length c2] 63);have fy:Am wr.heap.size wr wc:=by rw[<-nB];exact zN wr _
 rw[nB] at l6;obtain⟨p0,p1,p2,_⟩:=Kc l6;have fg:=zH (dZ wc fy);have cG:=zH (dr wc fy);have bg:=zH (hb.out.trans (fy.mono aV));have FH:=zH nB;have cN:=zH (hp.out.trans lN);obtain⟨il,ln⟩:=Kh c.inp.length;rw[ln] at d0 l0 cN FH p0;clear hp lN dZ dr nB fy l6 aH af lZ ln I0 I1 I2
 by_cases hi:il<=10
 case neg=>
  have hR:Ap (r=As):=cN.out.trans (by rw[Ln hi];rfl);clear cN fg cG;go_wp2_with fail;rw[FH.out];go_wp2_with fail
  all_goals first | (exfalso;omega) | skip
  go_ret;exact⟨ze hR.out.symm,aZ.out.trans (bg.out.mono (by omega))⟩
 case pos=>
 have cI:Ap (r=((b1&&b2)&&(t.cases.drop (k+1)).all okC)):=cN.out.trans (by rw[Lm hi,Nl];rfl);clear cN;go_wp2_with fail;rw[FH.out];go_wp2_with fail
 all_goals first | (exfalso;omega) | skip
 refine fg.out.mono ?_;rintro e w2 ⟨rfl,rfl⟩
 cases b1 with
 | false=>
  have hR:Ap (r=As):=cI.out;go_wp2_with fail;go_ret;exact⟨ze hR.out.symm,aZ.out.trans (bg.out.mono (by omega))⟩
 | true=>
 go_wp2_with fail;refine cG.out.mono ?_;rintro e w2 ⟨rfl,cd⟩;obtain rfl:=cd.symm
 cases b2 with
 | false=>
  have hR:Ap (r=As):=cI.out;go_wp2_with fail;go_ret;exact⟨ze hR.out.symm,aZ.out.trans (bg.out.mono (by omega))⟩
 | true=>
  have hR:Ap (r=(t.cases.drop (k+1)).all okC):=cI.out;go_wp2_with fail
  go_roundw
  case rel=>exact⟨k+1,by omega,by go_num,hR,bg⟩
  case measure=>simp[Ao];omega
def LowT(t:Tk):Prop:=t.cases.length<=17592186044416/\∀c∈t.cases,LowC c
theorem tk_eq{a b:Tk}(h1:a.n=b.n)(h2:a.ins=b.ins)(h3:a.outs=b.outs)(h4:a.cases=b.cases):a=b:=by cases a;cases b;simp_all
theorem cs_eq{a b:Cs}(h1:a.inp=b.inp)(h2:a.out=b.out)(h3:a.calm=b.calm):a=b:=by cases a;cases b;simp_all
def TwoCs(w0:Ba)(c1 c2:Array Aq)(s t:Aq)(wx:Ba):Prop:=
 ∃g h:Nat,s=Aj (J ⟨g,0,Z⟩)/\t=Aj (J ⟨h,0,Z⟩)/\wx.heap[g]?=J (Ag c1 63 (0,0))/\wx.heap[h]?=J (Ag c2 63 (0,0))/\Am w0.heap.size w0 wx
theorem XH(a b:Tk)(ha:LowT a)(hb:LowT b)(A B:Bb)(ca cb:Nat)(w:Ba)(hA:CAt w w.heap.size A a.cases)(hB:CAt w w.heap.size B b.cases) :
  An Al 160 #[Ai #[O U a.n,O U a.ins,O U a.outs,I A a.cases.length ca],Ai #[O U b.n,O U b.ins,O U b.outs,I B b.cases.length cb]] w fun e w'=>e=Ak (Ah (decide (a=b)))/\Am w.heap.size w w':=by
 obtain⟨dL,iN⟩:=ha;obtain⟨aH,af⟩:=hb;have tw:=zH iN;have sr:=zH af;obtain⟨w1,ac,d0,d1,aA,bZ⟩:=yr w #[O U a.n,O U a.ins,O U a.outs,I A a.cases.length ca] #[O U b.n,O U b.ins,O U b.outs,I B b.cases.length cb] 24 24;have HA:=zH ((hA.keep bZ).more bZ.size);have HB:=zH ((hB.keep bZ).more bZ.size);have bg:=zH bZ;have bD:=zH d0;have cH:=zH d1;have ah:=zH ac;obtain⟨p0,p1,p2,p3,_⟩:=Kb d0;obtain⟨q0,q1,q2,q3,_⟩:=Kb d1;clear ac d0 d1 bZ hA hB iN af;have HT:Ap (a≠b->decide (a=b)=As):=fun h=>Ln h
 have HU:Ap (a=b->decide (a=b)=Ar):=fun h=>Lm h
 obtain⟨r,hr⟩:∃r,decide (a=b)=r:=⟨_,rfl⟩;rw[hr] at HT HU ⊢;clear hr;go_enter func160,ntmps160
 by_cases h1:a.n=b.n/\a.ins=b.ins/\a.outs=b.outs/\a.cases.length=b.cases.length
 case neg=>
  have hR:=zH (HT.out (fun h=>h1 (by rw[h];exact⟨rfl,rfl,rfl,rfl⟩)));clear HT HU
  by_cases k1:a.n=b.n
  case neg=>
   have e0:(a.n != b.n)=Ar:=by simpa using k1
   clear h1;go_wp2_with fail;rw[ah.out];go_wp2_with fail
   all_goals
    go_ret;exact⟨ze hR.out.symm,bg.out⟩
  case pos=>
  have e0:(a.n != b.n)=As:=by simpa using k1
  by_cases k2:a.ins=b.ins
  case neg=>
   have e1:(a.ins != b.ins)=Ar:=by simpa using k2
   clear h1 k1;go_wp2_with fail;rw[ah.out];go_wp2_with fail
   all_goals
    go_ret;exact⟨ze hR.out.symm,bg.out⟩
  case pos=>
  have e1:(a.ins != b.ins)=As:=by simpa using k2
  by_cases k3:a.outs=b.outs
  case neg=>
   have e2:(a.outs != b.outs)=Ar:=by simpa using k3
   clear h1 k1 k2;go_wp2_with fail;rw[ah.out];go_wp2_with fail
   all_goals
    go_ret;exact⟨ze hR.out.symm,bg.out⟩
  case pos=>
  have e2:(a.outs != b.outs)=As:=by simpa using k3
  have k4:a.cases.length≠b.cases.length:=fun h=>h1 ⟨k1,k2,k3,h⟩
  have e3:((a.cases.length:Int) != (b.cases.length:Int))=Ar:=by simp;omega
  clear h1 k1 k2 k3;go_wp2_with fail;rw[ah.out];go_wp2_with fail
  all_goals
   go_ret;exact⟨ze hR.out.symm,bg.out⟩
 case pos=>
 obtain⟨k1,k2,k3,k4⟩:=h1;have H3:Ap (a.cases=b.cases->r=Ar):=fun h=>HU.out (tk_eq k1 k2 k3 h)
 have H4:Ap (a.cases≠b.cases->r=As):=fun h=>HT.out (fun e=>h (congrArg Tk.cases e))
 have HL:=zH k4;rw[k1] at p0 ah bD ⊢;rw[k2] at p1 ah bD ⊢;rw[k3] at p2 ah bD ⊢;rw[<-k4] at q3 aH ah cH ⊢;clear k1 k2 k3 k4 HT HU;go_wp2_with fail;rw[ah.out];go_wp2_with fail;clear p0 p1 p2 p3 q0 q1 q2 q3 ah
 go_loopw [5] (fun i wr=>∃k:Nat,k<=a.cases.length/\i=O U (k:Int)/\Ap (a.cases.take k=b.cases.take k)/\Ap (Am w1.heap.size w1 wr)) (fun i _=>a.cases.length-(Ao i).toNat)
 case atStart=>exact⟨0,by omega,rfl,by rw[Ap,LI,LI],Ll _ _⟩
 obtain⟨k,hk,rfl,hp,az⟩:=hrel;have p3:=za (La az.out bD.out) 3 rfl;have q3:=za (La az.out cH.out) 3 rfl;have Og:=HL.out
 by_cases aa:k<a.cases.length
 case neg=>
  obtain rfl:k=a.cases.length:=by omega
  have hR:=zH (H3.out (xQ HL.out hp.out));clear H3 H4 hp;go_wp2_with fail;go_ret;exact⟨ze hR.out.symm,Lc bg.out az.out⟩
 case pos=>
 have eq:k<b.cases.length:=by omega
 clear Og;obtain⟨ba,oa,A0,m0,A1,m1,A2,m2,ea,GP,a0,a1,a2,MS,FD,FC⟩:=(HA.out.keep az.out).row k aa;obtain⟨bb,ob,B0,n0,B1,n1,B2,n2,eb,aM,b0,b1,b2,MR,FB,FA⟩:=(HB.out.keep az.out).row k eq;subst ea;subst eb;have lj:=zH (tw.out _ (Ld aa));have fh:=zH (sr.out _ (Ld eq));have h0:Ap (a.cases[k]=b.cases[k]->a.cases.take (k+1)=b.cases.take (k+1)):=fun he=>yH hp.out aa eq he
 have hN:Ap (a.cases[k]≠b.cases[k]->r=As):=fun he=>H4.out (fun h=>he (by simp only[h]))
 obtain⟨X,hX⟩:=Kh (a.cases[k]);obtain⟨Y,hY⟩:=Kh (b.cases[k]);rw[hX] at a0 a1 a2 MS FD FC lj h0 hN;rw[hY] at b0 b1 b2 MR FB FA fh h0 hN;clear hX hY hp;have fw:=az.out.size;have HI:=zH (fun (W:Ba) (hW:Am wr.heap.size wr W)=>(⟨((MS.more fw).keep hW).more hW.size,((FD.more fw).keep hW).more hW.size,((FC.more fw).keep hW).more hW.size⟩:IAt W W.heap.size A0 X.inp/\LAt W W.heap.size A1 X.out/\LAt W W.heap.size A2 X.calm));have HJ:=zH (fun (W:Ba) (hW:Am wr.heap.size wr W)=>(⟨((MR.more fw).keep hW).more hW.size,((FB.more fw).keep hW).more hW.size,((FA.more fw).keep hW).more hW.size⟩:IAt W W.heap.size B0 Y.inp/\LAt W W.heap.size B1 Y.out/\LAt W W.heap.size B2 Y.calm));clear MS FD FC MR FB FA;have pO:w.heap.size<wr.heap.size:=by have:=zc bD.out;omega
 have iu:w.heap.size+1<wr.heap.size:=by have:=zc cH.out;omega
 have Bj:ba<wr.heap.size:=by omega
 have Bi:bb<wr.heap.size:=by omega
 have eK:Ap (∀W,Am wr.heap.size wr W->W.cell? ⟨w.heap.size,3,Z⟩=J (I (J ⟨ba,oa,Z⟩) a.cases.length ca)/\W.cell? ⟨w.heap.size+1,3,Z⟩=J (I (J ⟨bb,ob,Z⟩) a.cases.length cb) /\
   W.cell? ⟨ba,oa+k*3,Z⟩=J (I A0 X.inp.length m0)/\W.cell? ⟨ba,oa+k*3+1,Z⟩=J (I A1 X.out.length m1)/\W.cell? ⟨ba,oa+k*3+2,Z⟩=J (I A2 X.calm.length m2) /\
   W.cell? ⟨bb,ob+k*3,Z⟩=J (I B0 Y.inp.length n0)/\W.cell? ⟨bb,ob+k*3+1,Z⟩=J (I B1 Y.out.length n1)/\W.cell? ⟨bb,ob+k*3+2,Z⟩=J (I B2 Y.calm.length n2)):=fun W hW=>
  ⟨(hW.cell (p:=⟨_,_,Z⟩) pO).trans p3,(hW.cell (p:=⟨_,_,Z⟩) iu).trans q3,(hW.cell (p:=⟨_,_,Z⟩) Bj).trans a0,(hW.cell (p:=⟨_,_,Z⟩) Bj).trans a1,(hW.cell (p:=⟨_,_,Z⟩) Bj).trans a2,
   (hW.cell (p:=⟨_,_,Z⟩) Bi).trans b0,(hW.cell (p:=⟨_,_,Z⟩) Bi).trans b1,(hW.cell (p:=⟨_,_,Z⟩) Bi).trans b2⟩
 have cA:(0:Int)<=(k:Int):=by omega
 have bC:(k:Int)<(a.cases.length:Int):=by omega
 go_wp2_with fail
 go_cut [6,7] (fun s6 s7 wx=>TwoCs wr #[I A0 X.inp.length m0,I A1 X.out.length m1,I A2 X.calm.length m2] #[I B0 Y.inp.length n0,I B1 Y.out.length n1,I B2 Y.calm.length n2] s6 s7 wx)
 case first=>
  go_region_held3 (fun W=>W.cell? ⟨w.heap.size,3,Z⟩=J (I (J ⟨ba,oa,Z⟩) a.cases.length ca)/\W.cell? ⟨w.heap.size+1,3,Z⟩=J (I (J ⟨bb,ob,Z⟩) a.cases.length cb) /\
   W.cell? ⟨ba,oa+k*3,Z⟩=J (I A0 X.inp.length m0)/\W.cell? ⟨ba,oa+k*3+1,Z⟩=J (I A1 X.out.length m1)/\W.cell? ⟨ba,oa+k*3+2,Z⟩=J (I A2 X.calm.length m2) /\
   W.cell? ⟨bb,ob+k*3,Z⟩=J (I B0 Y.inp.length n0)/\W.cell? ⟨bb,ob+k*3+1,Z⟩=J (I B1 Y.out.length n1)/\W.cell? ⟨bb,ob+k*3+2,Z⟩=J (I B2 Y.calm.length n2))
   (first | exact⟨p3,q3,a0,a1,a2,b0,b1,b2⟩ | exact eK.out _ (by first | exact(zN wr _).drew | exact zN wr _ | exact(qt wr _ _).drew | exact qt wr _ _))
   (fail)
  all_goals
   go_wp2_with fail
   go_meet
  . exact⟨_,_,rfl,rfl,yo (zj wr _) _,(by have:=zj (wr.alloc (Ag #[I A0 X.inp.length m0,I A1 X.out.length m1,I A2 X.calm.length m2] 63)) (Ag #[I B0 Y.inp.length n0,I B1 Y.out.length n1,I B2 Y.calm.length n2] 63);rwa[Nm] at this),by first | exact qt wr _ _ | exact(qt wr _ _).drew⟩
  exact⟨_,_,rfl,rfl,(by have:=zj (wr.alloc (Ag #[I B0 Y.inp.length n0,I B1 Y.out.length n1,I B2 Y.calm.length n2] 63)) (Ag #[I A0 X.inp.length m0,I A1 X.out.length m1,I A2 X.calm.length m2] 63);rwa[Nm] at this),yo (zj wr _) _,by first | exact qt wr _ _ | exact(qt wr _ _).drew⟩
 obtain⟨g,h,rfl,rfl,G,H,aV⟩:=hcut;obtain⟨g0,g1,g2,_⟩:=Kc G;obtain⟨j0,j1,j2,_⟩:=Kc H;have bj:=zH (az.out.trans (aV.mono fw));have HO:=zH (yL A0 B0 m0 n0 X.inp Y.inp lj.out.1 fh.out.1 wc (HI.out wc aV).1 (HJ.out wc aV).1);have HV1:=zH (fun m=>jp A1 B1 m1 n1 X.out Y.out lj.out.2.1 fh.out.2.1 lj.out.2.2.2.1 fh.out.2.2.2.1 (wc.drewN m) (HI.out wc aV).2.1 (HJ.out wc aV).2.1);have FL:=zH (fun m=>jp A2 B2 m2 n2 X.calm Y.calm lj.out.2.2.1 fh.out.2.2.1 lj.out.2.2.2.2 fh.out.2.2.2.2 (wc.drewN m) (HI.out wc aV).2.2 (HJ.out wc aV).2.2);have Dd:X.inp≠Y.inp->Ap (r=As):=fun h=>hN.out (fun e=>h (by rw[e]))
 have iP:X.out≠Y.out->Ap (r=As):=fun h=>hN.out (fun e=>h (by rw[e]))
 have WQ:X.calm≠Y.calm->Ap (r=As):=fun h=>hN.out (fun e=>h (by rw[e]))
 have WP:X.inp=Y.inp->X.out=Y.out->X.calm=Y.calm->Ap (a.cases.take (k+1)=b.cases.take (k+1)):=fun p q s=>h0.out (cs_eq p q s)
 have aq:=zH Dd;have ai:=zH iP;have au:=zH WQ;have cJ:=zH WP;have HZ:=zH (@xR X.inp Y.inp);have HS:=zH (fun e:X.inp=Y.inp=>show zm X.inp Y.inp=0 by rw[e];exact yM _);obtain⟨o,ho⟩:=Kh (zm X.inp Y.inp);rw[ho] at HO HZ HS;go_wp2_with fail;refine HO.out.mono ?_;rintro e w2 ⟨rfl,z,rfl⟩
 by_cases t1:X.inp=Y.inp
 case neg=>
  have hR:=zH (aq.out t1).out;have e0:(o != 0)=Ar:=by simpa using fun h=>t1 (HZ.out h)
  go_wp2_with fail
  all_goals
   go_ret;exact⟨ze hR.out.symm,zO (Lc bg.out bj.out) _⟩
 case pos=>
 have e0:(o != 0)=As:=by simpa using HS.out t1
 have fL:=zH (cJ.out t1);go_wp2_with fail;refine(HV1.out z).mono ?_;rintro e w2 ⟨rfl,z2,rfl⟩
 by_cases t2:X.out=Y.out
 case neg=>
  have hR:=zH (ai.out t2).out;rw[Ln t2];clear ai au fL FL t2;go_wp2_with fail
  all_goals
   go_ret;exact⟨ze hR.out.symm,by repeat (first | exact Lc bg.out bj.out | refine zO ?_ _)⟩
 case pos=>
 have OA:=zH (fL.out t2);rw[Lm t2];clear ai fL t2;go_wp2_with fail;refine(FL.out (z+z2)).mono ?_;rintro e w2 ⟨rfl,z3,rfl⟩;clear FL
 by_cases t3:X.calm=Y.calm
 case neg=>
  have hR:=zH (au.out t3).out;rw[Ln t3];clear au OA t3;go_wp2_with fail
  all_goals
   go_ret;exact⟨ze hR.out.symm,by repeat (first | exact Lc bg.out bj.out | refine zO ?_ _)⟩
 have hR:=zH (OA.out t3).out;rw[Lm t3];clear au OA t3;go_wp2_with fail
 go_roundw
 case rel=>exact⟨k+1,by omega,by go_num,hR,by repeat (first | exact bj.out | refine zO ?_ _)⟩
 simp[Ao];omega
end
section
open Go.RowKit
def FewA(a:Ad):Prop:=a.sts.length<=8/\a.mvs.length<=40
theorem FewA.each{a:Ad}(h:FewA a){l:List Mv}(hl:l∈a.sts):l.length<=40:=by
 refine LE ?_ h.2;unfold Ad.mvs;obtain⟨i,hi,rfl⟩:=NL.1 hl;exact(List.sublist_flatten_of_mem (Ld hi)).length_le
theorem ud{a:Ad}{p:Option Mv}{m:Mv}(h:zS m.r≠0):xd a p m=zS m.r:=Lo h
theorem QV{a:Ad}{p:Option Mv}{m:Mv}(h:zS m.r=0)(h2:m.r.n≠a.n):xd a p m=22:=by unfold xd;rw[Li (by simpa using h),Lo h2]
theorem ue{a:Ad}{p:Option Mv}{m:Mv}(h:zS m.r=0)(h2:m.r.n=a.n)(h3:gM p m=Ar):xd a p m=14:=by unfold xd;rw[Li (by simpa using h),Li (by simpa using h2),Lo h3]
theorem YV{a:Ad}{p:Option Mv}{m:Mv}(h:zS m.r=0)(h2:m.r.n=a.n)(h3:gM p m=As)(h4:m.to<0\/(a.sts.length:Int)<=m.to):xd a p m=2:=by unfold xd;rw[Li (by simpa using h),Li (by simpa using h2),Li (by rw[h3];decide),Lo h4]
theorem YW{a:Ad}{p:Option Mv}{m:Mv}(h:zS m.r=0)(h2:m.r.n=a.n)(h3:gM p m=As)(h4:¬(m.to<0\/(a.sts.length:Int)<=m.to)):xd a p m=0:=by unfold xd;rw[Li (by simpa using h),Li (by simpa using h2),Li (by rw[h3];decide),Li h4]
theorem vU{a:Ad}{l:List Mv}(h:l.length=0):xF a l=19:=Lo h
theorem uP{a:Ad}{l:List Mv}(h:l.length≠0):xF a l=yZ a l 0:=Li h
theorem Js(a:Ad)(SV:Bb)(ks:Nat)(_hsl:a.sts.length<=8)(A:Bb)(k0:Nat)(l:List Mv)(hl:l.length<=40)(w:Ba)(hA:MAt w w.heap.size A l) :
  An Al 153 #[Ai #[O U a.n,I SV a.sts.length ks],I A l.length k0] w fun e w'=>e=Ak (O U (xF a l))/\Am w.heap.size w w':=by
 have HA:=zH hA;have aq:=zH (@vU a l);have ai:=zH (@uP a l);obtain⟨E,hE⟩:=Kh (xF a l);rw[hE] at aq ai ⊢
 by_cases hz:l.length=0
 . have hR:=zH (aq.out hz)
   have e0:((l.length:Int)==0)=Ar:=by simp[hz]
   clear aq ai hz;go_enter func153,ntmps153;go_wp2_with fail;go_ret;exact⟨zd hR.out.symm,zN w _⟩
 have HE:=zH (ai.out hz);have e0:((l.length:Int)==0)=As:=beq_eq_false_iff_ne.2 (by omega);clear aq ai hz;go_enter func153,ntmps153;go_wp2_with fail
 obtain⟨W0,ch,b0,hsz,bX⟩:∃W0,w.alloc (Ag #[O U a.n,I SV a.sts.length ks] 27)=W0/\W0.heap[w.heap.size]?=J (Ag #[O U a.n,I SV a.sts.length ks] 27 (0,0))/\w.heap.size+1<=W0.heap.size/\Am w.heap.size w W0:=
  ⟨_,rfl,zj _ _,by simp,zN w _⟩
 rw[ch];have dF:=zH bX;have np:=zH b0;clear ch bX b0 e0
 go_loopw [13] (fun i wr=>∃k:Nat,k<=l.length/\i=O U (k:Int)/\Ap (E=yZ a l k)/\Am W0.heap.size W0 wr) (fun i _=>l.length-(Ao i).toNat)
 case atStart=>exact⟨0,by omega,rfl,HE,Ll _ _⟩
 obtain⟨k,hk,rfl,aj,az⟩:=hrel;clear HE;have dv:=zH (Lc dF.out az);have HW:=zH az;clear az
 by_cases aa:k<l.length
 . obtain⟨b,o,rfl,dS,c0,c1,c2,c3,c4,c5,c6,c7⟩:=(HA.out.keep dv.out).row k aa
   have aF:=zH (@uc a l k aa);have aB:=zH (@wC a l k aa);have hb:=dv.out.size;have IG:w.heap.size<wr.heap.size:=by have:=HW.out.size;omega
   obtain⟨bo,ck⟩:=Kh (gM (zw l k) l[k]);have bL:=zH ck;have m1:=zH (@ud a (zw l k) l[k]);have m2:=zH (@QV a (zw l k) l[k]);have m3:=zH (@ue a (zw l k) l[k]);have m4:=zH (@YV a (zw l k) l[k]);have m5:=zH (@YW a (zw l k) l[k]);rw[ck] at m3 m4 m5;obtain⟨m,hm⟩:=Kh (l[k]);have HX:=zH hm;obtain⟨mE,Ev⟩:=Kh (xd a (zw l k) l[k]);rw[Ev] at aF aB m1 m2 m3 m4 m5;rw[hm] at c0 c1 c2 c3 c4 c5 c6 c7 m1 m2 m3 m4 m5;have HR:=zH (fun w'=>we m.r w');obtain⟨rE,Ec⟩:=Kh (zS m.r);rw[Ec] at m1 m2 m3 m4 m5 HR;unfold Rd.cells at HR;clear ck hm Ev Ec;go_wp2_with fail
   obtain⟨W1,cV,b1,aA,aG⟩:∃W1,wr.alloc (Ag #[O U m.r.n,O U m.r.h0,O U m.r.h1,O U m.r.h2,O U m.r.h3,O U m.r.h4,O U m.r.f,O U m.to] 70)=W1/\W1.heap[wr.heap.size]?=J (Ag #[O U m.r.n,O U m.r.h0,O U m.r.h1,O U m.r.h2,O U m.r.h3,O U m.r.h4,O U m.r.f,O U m.to] 70 (0,0))/\wr.heap.size+1<=W1.heap.size/\Am wr.heap.size wr W1:=
    ⟨_,rfl,zj _ _,by simp,zN wr _⟩
   rw[cV];refine(HR.out W1).mono ?_;rintro e w1 ⟨rfl,aH⟩;have ed:=zH ((dv.out.trans (aG.mono hb)).trans (aH.mono (by have:=aG.size;omega)));have pD:=zH ((Lc HW.out aG).trans (aH.mono (by have:=aG.size;have:=HW.out.size;omega)));have d0:=Lb pD.out (by omega) np.out;have d1:=Lb aH (by omega) b1;have cH:=zH d1;have bD:=zH d0;obtain⟨q0,q1,_⟩:=Ka d0;obtain⟨p0,p1,p2,p3,p4,p5,p6,p7,_⟩:=Ke d1;have Gv:=zc d1;clear cV b1 aG aH d0 d1 c0 c1 c2 c3 c4 c5 c6 c7 HR
   by_cases hr:rE=0
   case neg=>
    have he:=m1.out hr;have hR:=zH (aj.out.trans ((aF.out (by rw[he];exact hr)).trans he));have e0:(rE != 0)=Ar:=by simpa using hr
    clear aF aB m1 m2 m3 m4 m5 he hr aj bL HX;go_wp2_with fail;go_ret;exact⟨zd hR.out.symm,ed.out⟩
   case pos=>
   subst hr;clear m1
   by_cases hn:m.r.n=a.n
   case neg=>
    have he:=m2.out (by simp) hn;have hR:=zH (aj.out.trans ((aF.out (by rw[he];decide)).trans he));have e0:(m.r.n != a.n)=Ar:=by simpa using hn
    clear aF aB m2 m3 m4 m5 he hn aj bL HX;go_wp2_with fail;go_ret;exact⟨zd hR.out.symm,ed.out⟩
   case pos=>
   have e0:(m.r.n != a.n)=As:=by simpa using hn
   have n3:=zH (m3.out (by simp) hn);have n4:=zH (m4.out (by simp) hn);have n5:=zH (m5.out (by simp) hn);clear m2 hn m3 m4 m5
   cases k with
   | zero=>
    obtain rfl:bo=As:=by rw[<-bL.out];rfl
    have g0:decide ((0:Int)<0)=As:=by decide
    clear bL HX n3;go_wp2_with fail;go_quiet (fail)
    by_cases ht:m.to<0\/(a.sts.length:Int)<=m.to
    . have he:=n4.out (by simp) ht
      have hR:=zH (aj.out.trans ((aF.out (by rw[he];decide)).trans he));clear aF aB n4 n5 he aj
      by_cases tX:m.to<0
      . clear ht
        go_wp2_with fail;go_ret;exact⟨zd hR.out.symm,zO ed.out _⟩
      . have tW:(a.sts.length:Int)<=m.to:=by omega
        clear ht;go_wp2_with fail
        all_goals first | (exfalso;omega) | skip
        go_ret;exact⟨zd hR.out.symm,zO ed.out _⟩
    . have hR:=zH (aj.out.trans (aB.out (n5.out (by simp) ht)))
      have tX:¬m.to<0:=by omega
      have tW:¬(a.sts.length:Int)<=m.to:=by omega
      clear aF aB n4 n5 aj ht;go_wp2_with fail
      all_goals first | (exfalso;omega) | skip
      go_roundw
      case rel=>exact⟨0+1,by omega,by go_num,hR,zO pD.out _⟩
      case measure=>simp[Ao];omega
   | succ j=>
    have hj:j<l.length:=by omega
    have cq:gM (zw l (j+1)) l[j+1]=decide (0<=zm l[j].r.l l[j+1].r.l):=by rw[ya l j hj];rfl
    rw[HX.out] at cq;rw[show gM (zw l (j+1)) m=bo by have:=bL.out;rwa[HX.out] at this] at cq;obtain⟨b',o',e',_,u0,u1,u2,u3,u4,u5,u6,u7⟩:=(HA.out.keep ed.out).row j hj
    cases e'
    have hc:=fun w'=>gC l[j].r m.r w'
    obtain⟨mj,Es⟩:=Kh (l[j]);rw[Es] at cq hc u0 u1 u2 u3 u4 u5 u6 u7;obtain⟨r,hr⟩:=Kh (zm mj.r.l m.r.l);rw[hr] at cq hc;unfold Rd.cells at hc;have dh:=zH cq;have HC:=zH hc;have g1:((j:Int)+1).toNat=j+1:=by omega
    have g3:IntKind.i64.wrap ((j:Int)+1-1)=(j:Int):=by rw[Lv];omega
    have g5:IntKind.i64.wrap ((j:Int)+1)=(j:Int)+1:=by rw[Lv];omega
    have g6:decide ((0:Int)<(j:Int)+1)=Ar:=Lm (by omega);have g7:IntKind.i64.wrap (j:Int)=(j:Int):=by rw[Lv];omega
    have g8:(0:Int)<=(j:Int):=by omega
    have g9:(j:Int)<(l.length:Int):=by omega
    clear cq hc hr Es bL HX;go_wp2_with fail
    go_still_tail 11,(by kernel_rfl)
    change wpList _ _ _ _ _ w1.drew;obtain⟨w2,cd⟩:∃w2,w2=w1.drew:=⟨_,rfl⟩;have CE:Ap (Am w.heap.size w w2):=by rw[cd];exact ed.out.drew
    have Gm:Ap (Am W0.heap.size W0 w2):=by rw[cd];exact pD.out.drew
    have aq:Ap (w2.heap[wr.heap.size]?=J (Ag #[O U m.r.n,O U m.r.h0,O U m.r.h1,O U m.r.h2,O U m.r.h3,O U m.r.h4,O U m.r.f,O U m.to] 70 (0,0))):=by rw[cd];exact cH.out
    have dN:Ap (w2.heap[w.heap.size]?=J (Ag #[O U a.n,I SV a.sts.length ks] 27 (0,0))):=by rw[cd];exact bD.out
    rw[<-cd];clear bD cH cd q1 p1 p2 p3 p4 p5 p6 p7 u0 u1 u2 u3 u4 u5 u6 u7 g1 g3 g5 g7 g8 g9;go_wp2_with fail;refine(HC.out w2).mono ?_;rintro e w3 ⟨rfl,am⟩;have mT:=zH (Lc CE.out am);have BW3:=zH (Lc Gm.out am);have d0:=La am dN.out;have d1:=La am aq.out;have q1:=za d0 1 rfl;have p7:=za d1 7 rfl
    cases bo with
    | true=>
     have MH:0<=r:=Lw dh.out.symm;have he:=n3.out (by simp);have hR:=zH (aj.out.trans ((aF.out (by rw[he];decide)).trans he));go_wp2_with fail
     all_goals first | (exfalso;omega) | skip
     go_ret;exact⟨zd hR.out.symm,mT.out⟩
    | false=>
     have MH:¬0<=r:=NH dh.out.symm
     by_cases ht:m.to<0\/(a.sts.length:Int)<=m.to
     . have he:=n4.out (by simp) ht
       have hR:=zH (aj.out.trans ((aF.out (by rw[he];decide)).trans he))
       by_cases tX:m.to<0
       . clear ht
         go_wp2_with fail
         all_goals first | (exfalso;omega) | skip
         go_ret;exact⟨zd hR.out.symm,mT.out⟩
       . have tW:(a.sts.length:Int)<=m.to:=by omega
         go_wp2_with fail
         all_goals first | (exfalso;omega) | skip
         go_ret;exact⟨zd hR.out.symm,mT.out⟩
     . have hR:=zH (aj.out.trans (aB.out (n5.out (by simp) ht)))
       have tX:¬m.to<0:=by omega
       have tW:¬(a.sts.length:Int)<=m.to:=by omega
       go_wp2_with fail
       all_goals first | (exfalso;omega) | skip
       go_roundw
       case rel=>exact⟨j+1+1,by omega,by go_num,hR,BW3.out⟩
       case measure=>simp[Ao];omega
 obtain rfl:k=l.length:=by omega
 have hR:=zH (aj.out.trans ub);go_wp2_with fail;go_ret;exact⟨zd hR.out.symm,dv.out⟩
end
section
open Go.RowKit Go.Shelf
structure KeepB(K:Nat->Prop)(W W':Ba):Prop where
 size:W.heap.size<=W'.heap.size
 same:∀k,K k->k<W.heap.size->W'.heap[k]?=W.heap[k]?
theorem KeepB.trans{K:Nat->Prop}{A B C:Ba}(h:KeepB K A B)(k:KeepB K B C):KeepB K A C:=
 ⟨LE h.size k.size,fun i hi hl=>(k.same i hi (Lx hl h.size)).trans (h.same i hi hl)⟩
theorem KeepB.drew(K:Nat->Prop)(W:Ba):KeepB K W W.drew:=⟨Lh _,fun _ _ _=>rfl⟩
theorem KeepB.alloc(K:Nat->Prop)(W:Ba)(o:Obj):KeepB K W (W.alloc o):=⟨by simp,fun k _ hk=>N1 W o k hk⟩
theorem KeepB.setCell{K:Nat->Prop}{W:Ba}{a:Addr}(h:¬K a.block)(v:Aq):KeepB K W (W.setCell a v):=
 ⟨by simp[World.setCell],fun k hk _=>Lg W a v k (fun e=>h (e▸hk))⟩
theorem KeepB.of_below{K:Nat->Prop}{W W':Ba}{B:Nat}(h:Am B W W')(hK:∀k,K k->k<B):KeepB K W W':=
 ⟨h.size,fun k hk _=>h.block k (hK k hk)⟩
theorem KeepB.of_grown{K:Nat->Prop}{W W':Ba}{row:Option Nat}(h:W.grownBy W' row)(hK:∀k,row=J k->¬K k):KeepB K W W':=
 ⟨h.size,fun k hk hl=>h.block k hl (fun e=>hK k e.symm hk)⟩
theorem KeepB.mono{K K':Nat->Prop}{W W':Ba}(h:KeepB K W W')(hK:∀k,K' k->K k):KeepB K' W W':=⟨h.size,fun k hk=>h.same k (hK k hk)⟩
theorem KeepB.putObj{K:Nat->Prop}{W:Ba}{l:Nat}(h:¬K l)(o:Obj):KeepB K W (W.putObj l o):=
 ⟨by simp,fun k hk _=>NZ (fun e=>h (e▸hk))⟩
def Iter{β:Type}(P:Program)(g:Nat)(lb:Array Aq)(iD:β->Array Aq)(K:Nat->Prop)(xs:List β)(w:Ba):Prop:=
 ∀n,1<=n->SeqStopsK Fence.wide n P g lb (fun x:{ x:β // x∈xs }=>iD x.1) (KeepB K) (fun ys=>ys.map (·.1)=xs) (fun pre=>pre.map (·.1) <+: xs) xs.length w
section
variable {P:Program}
theorem Ye{β:Type}{g:Operand}{ps:Array Tmp}{assign body:Code}{Q:Exit->Act->Ba->Prop}{a:Act}{w:Ba}
  {gf:Nat} {lb:Array Aq} (hg:a.eval g=.func (.func gf) #[] lb) (eg:Enters P gf)
  {iD:β->Array Aq} {K:Nat->Prop} {xs:List β} (t':Iter P gf lb iD K xs w) (hK:∀k,K k->k<w.heap.size) (oH:∀x,(iD x).size=ps.size)
  (Ac:List { x:β // x∈xs }->Ba->Prop) (Ix:Code->List { x:β // x∈xs }->Ba->Prop) (hI:OwnFrom w.heap.size Ac) (Ms:∀c,OwnFrom w.heap.size (Ix c)) (h0:Ac [] w) (a₁:{ x:β // x∈xs }->Act)
  (iy:∀(l:Nat) (x:{ x:β // x∈xs }) (W:Ba) (K:Act->Ba->Prop),K (a₁ x) W ->
   assign.wpIn (Fence.wide.inRound l) 7 P (Exit.then K (fun _ _ _=>False)) { tmps:=(ps.zip (iD x.1)).foldl (fun t (p,v)=>t.setIfInBounds p v) a.tmps,defers:=[] } W)
  (oX:∀(l:Nat) (pre:List { x:β // x∈xs }) (x:{ x:β // x∈xs }) (W:Ba),Ac pre W->pre.length<xs.length->body.wpIn (Fence.wide.inRound l) 7 P (ownPostG w.heap.size (KeepB K) Ac Ix (pre++[x]) W) (a₁ x) W)
  (oV:∀(D:Nat) (ys:List { x:β // x∈xs }) (W:Ba),w.heap.size<=D->ys.map (·.1)=xs->Ac ys W->W.heap[D]?=J (.deferred (J []))->Q .normal { a with defers:={ target:=.collected D,args:=#[] }::a.defers } W)
  (oA:∀(D:Nat) (c:Code) (pre:List { x:β // x∈xs }) (W:Ba),w.heap.size<=D->pre.map (·.1) <+: xs->Ix c pre W->W.heap[D]?=J (.deferred (J []))->c.wp P Q { a with defers:={ target:=.collected D,args:=#[] }::a.defers } W) :
  (Code.rangeFunc g ps assign body).wp P Q a w:=
 (RB (n:=9)).1 (wpIn_rangeFunc_ownG (F:=Fence.wide) (n:=9) rfl (by omega) hg trivial eg (t' 8 (by omega)) KeepB.trans
  (fun W l o o' hl _ _ _=>KeepB.putObj (fun hk=>by have:=hK l hk;omega) o') (Ll _ _) (fun x=>oH x.1) Ac Ix hI Ms h0 a₁ iy oX oV
  (fun D c pre W hD hS hc hk=>RB.2 (oA D c pre W hD hS hc hk)))
def Marks(B:Nat)(ds:List Deferred)(w:Ba):Prop:=
 ∃rs:List Nat,ds=rs.map (fun r=>{ target:=.collected r,args:=#[] })/\rs.Nodup/\∀r∈rs,B<=r/\w.heap[r]?=J (.deferred (J []))
theorem Marks.nil(B:Nat)(w:Ba):Marks B [] w:=⟨[],rfl,List.nodup_nil,fun _ h=>by cases h⟩
structure Shut(B:Nat)(w w':Ba):Prop where
 below:Am B w w'
 same:∀(k:Nat) (o:Obj),w.heap[k]?=J o->o.isCells=Ar->w'.heap[k]?=J o
theorem Shut.refl(B:Nat)(w:Ba):Shut B w w:=⟨Ll _ _,fun _ _ h _=>h⟩
theorem Shut.own{B:Nat}{w w':Ba}(h:Shut B w w'){base:Nat}{e:TypeId}{size:Nat}{v:Aq}{k:Nat}{xs:List Aq}(hr:w.ownsRow base e size v k xs):w'.ownsRow base e size v k xs:=by
 refine⟨hr.1,?_⟩;rcases hr.2 with hn | ⟨g,cap,cur,hv,hb,hg,rest⟩
 . exact .inl hn
 exact .inr ⟨g,cap,cur,hv,hb,h.same g _ hg rfl,rest⟩
theorem Shut.cell{B:Nat}{w w':Ba}(h:Shut B w w'){a:Addr}{v:Aq}(hc:w.cell? a=J v):w'.cell? a=J v:=by
 obtain⟨o,ho,dR⟩:=Rj hc;rw[LR ((h.same _ _ ho dR).trans ho.symm)];exact hc
theorem j6{fn:Func}{tmps:Array Aq}{R:Ending->Ba->Prop}{B n:Nat}{v:Aq}(aY:∀W,(results fn tmps).run P W=.ok v W) :
  ∀(rs:List Nat) (w:Ba),rs.Nodup->(∀r∈rs,B<=r/\w.heap[r]?=J (.deferred (J [])))->(∀W,Shut B w W->R (Ak v) W) ->
   LeavesInM Fence.wide n P fn tmps R (rs.map (fun r=>{ target:=.collected r,args:=#[] })) .returning w
 | [],w,_,_,hR=>⟨v,aY w,hR w (Shut.refl _ _)⟩
 | r::rs,w,hn,hm,hR=>by
  obtain⟨hr,Kn⟩:=P7.1 hn;obtain⟨hB,hk⟩:=hm r (by simp);refine⟨by simp,.inl ⟨r,_,rfl,run_takeDeferred hk,?_⟩⟩;refine j6 aY rs _ Kn (fun r' nD=>⟨(hm r' (by simp[nD])).1,?_⟩) (fun W hW=>hR W ?_)
  . rw[NZ (by rintro rfl;exact hr nD)]
    exact(hm r' (by simp[nD])).2
  . refine⟨((Ll B w).grown (grownBy_putObj' w r (.deferred Z)) (by have:=(Lq.1 hk).1;omega) (fun k e=>by cases e;exact hB)).trans hW.below,fun k o ho hc=>?_⟩
    refine hW.same k o ?_ hc
    by_cases e:k=r
    . subst e;rw[hk] at ho;cases ho;cases hc
    . exact(NZ e).trans ho
theorem yA{f:FuncId}{fn:Func}{c:Code}{args:Array Aq}{w:Ba}{R:Ending->Ba->Prop}
  (hf:P.funcs[f]?=J fn) (hb:fn.body=J c)
  (h:c.wp P (bodyPostM Fence.wide 9 P fn R) { tmps:=args++Array.replicate (fn.ntmps-args.size) undef,defers:=[] } w):An P f args w R:=
 (callsIn_wide (n:=9)).1 (callsIn_of_wp_marks hf hb trivial (RB.2 h))
theorem yR{fn:Func}{R:Ending->Ba->Prop}{a:Act}{w:Ba}{B:Nat}{v:Aq}(hm:Marks B a.defers w)(aY:∀W,(results fn a.tmps).run P W=.ok v W)
  (hR:∀W,Shut B w W->R (Ak v) W):bodyPostM Fence.wide 9 P fn R .ret a w:=by
 obtain⟨rs,hd,hn,hk⟩:=hm;show LeavesInM Fence.wide 9 P fn a.tmps R a.defers .returning w;rw[hd];exact j6 aY rs w hn hk hR
theorem Marks.cons{B D:Nat}{ds:List Deferred}{w w':Ba}(h:Marks B ds w)(hs:∀(k:Nat),w.heap[k]?=J (Obj.deferred (J []))->w'.heap[k]?=J (Obj.deferred (J [])))
  (hB:B<=w.heap.size) (hD:w.heap.size<=D) (hk:w'.heap[D]?=J (.deferred (J []))):Marks B ({ target:=.collected D,args:=#[] }::ds) w':=by
 obtain⟨rs,rfl,hn,hr⟩:=h;refine⟨D::rs,rfl,P7.2 ⟨fun WU=>?_,hn⟩,fun r nD=>?_⟩
 . have:=(Lq.1 (hr D WU).2).1;omega
 rcases L9.1 nD with rfl | nD
 . exact⟨by omega,hk⟩
 exact⟨(hr r nD).1,hs r (hr r nD).2⟩
end
end
section
open Go.RowKit Go.Shelf
attribute [local go_sem] Oper.semAt_some
def zD:Nat->List (List Mv)->List (Int×Mv)
 | _,[]=>[]
 | s,l::r=>l.map (fun m=>((s:Int),m))++zD (s+1) r
theorem ZW{xss:List (List Mv)}{s:Nat}(h:s<xss.length):zD s (xss.drop s)=(xss[s]).map (fun m=>((s:Int),m))++zD (s+1) (xss.drop (s+1)):=by
 rw[Lz h];rfl
theorem qy:∀(s:Nat) (xss:List (List Mv)),(zD s xss).map Prod.snd=xss.flatten
 | _,[]=>rfl
 | s,l::r=>by
  rw[zD,LF,qy (s+1) r,P6,PW]
  congr 1
  exact List.map_id' l
theorem YT(a:Ad):(zD 0 a.sts).length=a.mvs.length:=by
 rw[<-LJ (f:=Prod.snd),qy];rfl
theorem gq{B:Nat}{w w':Ba}(hs:w.heap.size<=w'.heap.size)(h:∀k,k<B->w'.heap[k]?=w.heap[k]?):Am B w { w' with os:=w.os,tape:=w.tape,output:=w.output }:=⟨rfl,rfl,rfl,hs,h⟩
theorem SAt.same{w w':Ba}{B:Nat}{A:Bb}{xss:List (List Mv)}(h:SAt w B A xss)(hs:w.heap.size<=w'.heap.size)(hk:∀k,k<B->w'.heap[k]?=w.heap[k]?):SAt w' B A xss:=by
 have h2:=h.keep (gq hs hk);exact h2
theorem MAt.same{w w':Ba}{B:Nat}{A:Bb}{xs:List Mv}(h:MAt w B A xs)(hs:w.heap.size<=w'.heap.size)(hk:∀k,k<B->w'.heap[k]?=w.heap[k]?):MAt w' B A xs:=by
 have h2:=h.keep (gq hs hk);exact h2
theorem vu(n:Int)(SV:Aq)(w:Ba):An Al 154 #[Ai #[O U n,SV]] w fun e w'=>
  e=Ak (.func (.func 169) #[] #[Aj (J ⟨w.heap.size,0,Z⟩)])/\w.alloc (Ag #[O U n,SV] 27)=w':=by
 go_enter func154,ntmps154;go_wp2;go_ret;exact⟨rfl,rfl⟩
theorem kG(a:Ad)(hf:FewA a)(SV:Bb)(ks B bx:Nat)(w:Ba)(hb:w.heap[bx]?=J (Ag #[O U a.n,I SV a.sts.length ks] 27))(hS:SAt w B SV a.sts)(hB:B<=w.heap.size) :
  Iter Al 169 #[Aj (J ⟨bx,0,Z⟩)] (fun x:Int×Mv=>#[O U x.1,.agg x.2.cells]) (fun k=>k<B\/k=bx) (zD 0 a.sts) w:=fun n hn l Af Jx W hW hJ Ti hY h0=>by
 have aV:bx<w.heap.size:=(Lq.1 hb).1;have ly:W.heap[bx]?=J (Ag #[O U a.n,I SV a.sts.length ks] 27):=(hW.block bx aV).trans hb;have sf:SAt W B SV a.sts:=hS.keep (hW.mono hB);have HF:=zH (fun l hl=>hf.each (l:=l) hl);have oU:=hf.1;have HY:=zH hY;have HJA:Ap (∀s X o,Af s X->Af s (X.alloc o)):=fun s X o hs=>hJ s X (X.alloc o) Z hs (World.grownBy_alloc X o Z) (fun r e=>by cases e)
 have c1:=za ly 1 rfl;have ft:=zH sf;have H0:=zH h0;have dF:=zH ly;have MD:B<=W.heap.size:=LE hB hW.size;have hbW:bx<W.heap.size:=Lx aV hW.size;obtain⟨n0,sts⟩:=a;dsimp only at dF c1 ft HF oU HY ⊢;refine callsIn_of_wp Rv rfl trivial ?_ rfl;simp only[ntmps169,List.size_toArray,List.length_cons,List.length_nil,Nat.reduceAdd,Nat.reduceSub,Array.replicate_succ,Array.replicate_zero,List.push_toArray,List.append_toArray,List.nil_append,List.cons_append];gi_wp2
 gi_loopw [10] (fun p wr=>∃s:Nat,s<=sts.length/\p=O U (s:Int)/\∃pre:List { x:Int×Mv // x∈zD 0 sts },Ap (pre.map (·.1)++zD s (sts.drop s)=zD 0 sts)/\Ap (Af pre wr)/\Ap (SAt wr B SV sts)/\Ap (wr.heap[bx]?=J (Ag #[O U n0,I SV sts.length ks] 27))/\W.heap.size<=wr.heap.size) (fun p _=>sts.length-(Ao p).toNat)
 case atStart=>exact⟨0,by omega,rfl,[],by simp[Ap],H0,ft,dF,Lh _⟩
 case round=>
  obtain⟨s,hs,rfl,pre,hp,fY,o9,aC,hsz⟩:=hrel
  by_cases aa:s<sts.length
  . obtain⟨b,o,A',k',rfl,dS,q1,hM⟩:=o9.out.at_ s aa
    have dC:=HF.out _ (Ld aa);have CY:=ZW aa;obtain⟨L,hL⟩:=Kh (sts[s]);rw[hL] at q1 hM dC CY;have HP:Ap (pre.map (·.1)++((L.drop 0).map (fun m=>((s:Int),m))++zD (s+1) (sts.drop (s+1)))=zD 0 sts):=by rw[LT,<-CY];exact hp.out
    have HM0:=zH hM;gi_wp2_with fail
    gi_loopw [17] (fun p wr=>∃j:Nat,j<=L.length/\p=O U (j:Int)/\∃pre:List { x:Int×Mv // x∈zD 0 sts },Ap (pre.map (·.1)++((L.drop j).map (fun m=>((s:Int),m))++zD (s+1) (sts.drop (s+1)))=zD 0 sts)/\Ap (Af pre wr)/\Ap (SAt wr B (J ⟨b,o,Z⟩) sts)/\Ap (wr.heap[bx]?=J (Ag #[O U n0,I (J ⟨b,o,Z⟩) sts.length ks] 27))/\Ap (MAt wr B A' L)/\W.heap.size<=wr.heap.size) (fun p _=>L.length-(Ao p).toNat)
    case atStart=>exact⟨0,by omega,rfl,pre,HP,fY,o9,aC,HM0,hsz⟩
    case round=>
     obtain⟨j,hj,rfl,pre,hp,fY,o9,aC,Tb,hsz⟩:=hrel
     by_cases bQ:j<L.length
     . obtain⟨b2,o2,rfl,af,m0,m1,m2,m3,m4,m5,m6,m7⟩:=Tb.out.row j bQ
       have Sn:L.drop j=L[j]::L.drop (j+1):=Lz bQ;obtain⟨m,hm⟩:=Kh (L[j]);rw[hm] at m0 m1 m2 m3 m4 m5 m6 m7 Sn
       have oK:pre.map (·.1)++(((s:Int),m)::((L.drop (j+1)).map (fun m=>((s:Int),m))++zD (s+1) (sts.drop (s+1))))=zD 0 sts:=by
        have:=hp.out;rw[Sn,L1,Ng] at this;exact this
       have bu:((s:Int),m)∈zD 0 sts:=by rw[<-oK];simp
       have an:pre.length<(zD 0 sts).length:=by
        have:=congrArg List.length oK;simp only[List.length_append,List.length_map,List.length_cons] at this;omega
       obtain⟨fn,tmps,assign,body,hy,hR⟩:=HY.out pre ⟨((s:Int),m),bu⟩ _ (HJA.out _ _ (Ag #[O U m.r.n,O U m.r.h0,O U m.r.h1,O U m.r.h2,O U m.r.h3,O U m.r.h4,O U m.r.f,O U m.to] 70) fY.out) an;unfold Mv.cells at hy;dsimp only at hy
       have tB:Ap ((pre++[(⟨((s:Int),m),bu⟩:{ x:Int×Mv // x∈zD 0 sts })]).map (·.1)++((L.drop (j+1)).map (fun m=>((s:Int),m))++zD (s+1) (sts.drop (s+1)))=zD 0 sts):=by
        rw[LF,L7];exact oK
       have HR:=zH hR;gi_wp2_with fail;refine HR.out.mono ?_;rintro e W3 (⟨rfl,Fr,pQ⟩ | ⟨rfl,pb⟩)
       . have aA:wr.heap.size<=W3.heap.size:=by have:=pQ.size;simp at this;omega
         have bC:∀k,(k<B\/k=bx)->k<wr.heap.size->W3.heap[k]?=wr.heap[k]?:=fun k hk aa=>(pQ.same k hk (by simp;omega)).trans (yo (RN aa) _ |>.trans (RN aa).symm)
         have S3:=zH (o9.out.same aA (fun k hk=>bC k (.inl hk) (by omega)));have M3:=zH (Tb.out.same aA (fun k hk=>bC k (.inl hk) (by omega)));have B3:=zH ((bC bx (.inr rfl) (by omega)).trans aC.out);have J3:=zH Fr;have lM:W.heap.size<=W3.heap.size:=by omega
         gi_wp2_with fail
         go_roundw
         case rel=>exact⟨j+1,by omega,by go_num,_,tB,J3,S3,B3,M3,lM⟩
         case measure=>simp[Ao];omega
       . gi_wp2_with fail
         refine L6 (Rs rfl _ _ _) rfl ?_;refine⟨⟨_,rfl⟩,.inr ⟨_,?_,pb⟩⟩;exact⟨_,tB.out⟩
     . obtain rfl:j=L.length:=by omega
       have HP:Ap (pre.map (·.1)++zD (s+1) (sts.drop (s+1))=zD 0 sts):=by have:=hp.out;rwa[Nz,NE,Nc] at this
       gi_wp2_with fail
       go_roundw
       case rel=>exact⟨s+1,by omega,by go_num,pre,HP,fY,o9,aC,hsz⟩
       case measure=>simp[Ao];omega
  . obtain rfl:s=sts.length:=by omega
    have HP:Ap (pre.map (·.1)=zD 0 sts):=by have:=hp.out;rwa[Nz,zD,L5] at this
    gi_wp2_with fail
    go_end0
    exact⟨⟨_,rfl⟩,.inl ⟨pre,HP.out,fY.out⟩⟩
theorem qD{w:Ba}{g:Nat}{v:Aq}{t:TypeId}(h:w.heap[g]?=J (Ag #[v] t (0,0)))(v':Aq) :
  (w.setCell ⟨g,0,Z⟩ v').heap[g]?=J (Ag #[v'] t (0,0))/\(w.setCell ⟨g,0,Z⟩ v').heap.size=w.heap.size/\∀k,k≠g->(w.setCell ⟨g,0,Z⟩ v').heap[k]?=w.heap[k]?:=by
 refine⟨?_,by simp[World.setCell],fun k hk=>Lg w ⟨g,0,Z⟩ v' k hk⟩;rw[World.setCell,P9,Lo rfl,h]
 rfl
theorem kH{B D:Nat}{w:Ba}(hB:B<=D)(hk:w.heap[D]?=J (.deferred (J []))):Marks B [{ target:=.collected D,args:=#[] }] w:=
 ⟨[D],rfl,by simp,fun r hr=>by simp only[List.mem_singleton] at hr;subst hr;exact⟨hB,hk⟩⟩
structure SzIn(B:Nat)(C:Array Aq)(T:TypeId)(tu:Int)(w W:Ba):Prop where
 below:Am B w W
 b0:W.heap[B]?=J (Ag C T (0,0))
 b1:W.heap[B+1]?=J (Ag #[O U tu] 3 (0,0))
theorem SzIn.turn{B:Nat}{C:Array Aq}{T:TypeId}{tu:Int}{w W W':Ba}{row:Option Nat}(h:SzIn B C T tu w W)(hg:W.grownBy W' row)(hr:∀r,row=J r->B<=r/\∃o:Obj,W.heap[r]?=J o/\o.isCells=As):SzIn B C T tu w W':=
 ⟨h.below.grown hg (by have:=(Lq.1 h.b0).1;omega) (fun k hk=>(hr k hk).1),(L4 hg (fun r e=>(hr r e).2) h.b0 rfl).trans h.b0,(L4 hg (fun r e=>(hr r e).2) h.b1 rfl).trans h.b1⟩
theorem SzIn.set{B:Nat}{C:Array Aq}{T:TypeId}{tu:Int}{w W:Ba}(h:SzIn B C T tu w W)(c':Int):SzIn B C T c' w (W.setCell ⟨B+1,0,Z⟩ (O U c')):=by
 obtain⟨x1,x2,x3⟩:=qD h.b1 (O U c');exact⟨h.below.setCell (by simp) _,(x3 B (by omega)).trans h.b0,x1⟩
theorem SzIn.keeps{B D:Nat}{C:Array Aq}{T:TypeId}{tu:Int}{w W:Ba}(h:SzIn B C T tu w W)(c':Int)(K:Nat->Prop)(hK:¬K (B+1)):KeepsFrom D W (W.setCell ⟨B+1,0,Z⟩ (O U c'))/\KeepB K W (W.setCell ⟨B+1,0,Z⟩ (O U c')):=by
 obtain⟨x1,x2,x3⟩:=qD h.b1 (O U c');refine⟨⟨by omega,fun k o _ hk ho=>?_⟩,KeepB.setCell hK _⟩;have k1:k≠B+1:=by rintro rfl;rw[h.b1] at hk;cases hk;cases ho
 exact(x3 k k1).trans hk
theorem Ju(a:Ad)(hf:FewA a)(SV:Bb)(ks:Nat)(w:Ba)(hS:SAt w w.heap.size SV a.sts) :
  An Al 152 #[Ai #[O U a.n,I SV a.sts.length ks]] w fun e w'=>e=Ak (O U (if a.sts.length<1 then 5 else 0))/\Am w.heap.size w w':=by
 have dZ:=hf.1;have dr:=hf.2;have iM:=YT a;have HI:=zH (fun (bx:Nat) (w':Ba) (hb:w'.heap[bx]?=J (Ag #[O U a.n,I SV a.sts.length ks] 27)) (h:SAt w' w.heap.size SV a.sts) (hB:w.heap.size<=w'.heap.size)=>kG a hf SV ks w.heap.size bx w' hb h hB);have HS:=zH hS;obtain⟨nl,eh⟩:=Kh ((zD 0 a.sts).length);have Cj:=zH eh;clear hS;refine yA func152 rfl ?_;simp only[ntmps152,List.size_toArray,List.length_cons,List.length_nil,Nat.reduceAdd,Nat.reduceSub,Array.replicate_succ,Array.replicate_zero,List.push_toArray,List.append_toArray,List.nil_append,List.cons_append];go_wp2_with fail;obtain⟨w2,cd,b0,b1,hsz,hB⟩:=yr w #[O U a.n,I SV a.sts.length ks] #[O U 0] 27 3;rw[cd];have cU:w2.heap.size=w.heap.size+2:=by rw[<-cd];simp
 refine(vu a.n (I SV a.sts.length ks) w2).mono ?_;rintro e W ⟨rfl,hW⟩;have bb:=zj w2 (Ag #[O U a.n,I SV a.sts.length ks] 27);have bP:Am w2.heap.size w2 W:=by rw[<-hW];exact zN _ _
 have aA:w2.heap.size<W.heap.size:=by rw[<-hW];simp
 rw[hW] at bb;have si:SzIn w.heap.size #[O U a.n,I SV a.sts.length ks] 27 0 w W:=⟨hB.trans (bP.mono (by omega)),Zx b0 bP (by omega),Zx b1 bP (by omega)⟩;have Sf:=HI.out w2.heap.size W bb ((HS.out.keep hB).keep (bP.mono (by omega))) (by omega);have H0:=zH si;have fJ:=zH Sf;have HZ:=zH cU;have bN:w.heap.size+2<=w2.heap.size:=hsz;clear cd hW bb b0 b1 hB bP si Sf cU hsz HI HS eh;go_wp2_with fail
 refine Ye rfl (NV Rv (by kernel_rfl) rfl) fJ.out (by rintro k (h | rfl)<;>omega) (fun _=>rfl)
  (fun (pre:List { x:Int×Mv // x∈zD 0 a.sts }) W=>SzIn w.heap.size #[O U a.n,I SV a.sts.length ks] 27 ((pre.length:Nat):Int) w W) (fun _ _ _=>False) (fun _ _ _ _ h hg hr=>h.turn hg (fun r e=>⟨by have:=(hr r e).1;omega,(hr r e).2⟩)) (fun _ _ _ _ _ h _ _=>h)
  H0.out ?a1 ?assign ?body ?done ?stop
 case assign=>
  intro l x W K hK;gi_wp2;exact hK
 case body=>
  intro l pre x W hI aa;have Ax:pre.length<100:=by have:=Cj.out;omega
  have c1:=za hI.b1 0 rfl;have f1:=zb hI.b1 0;have HI:=zH hI;clear hI aa;gi_wp2_with fail;have hK:¬(w.heap.size+1<w.heap.size\/w.heap.size+1=w2.heap.size):=by have:=HZ.out;omega
  refine⟨(HI.out.keeps _ (fun k=>k<w.heap.size\/k=w2.heap.size) hK).1,(HI.out.keeps (D:=0) _ (fun k=>k<w.heap.size\/k=w2.heap.size) hK).2,?_⟩;have:=HI.out.set ((pre.length:Int)+1);dsimp only;rw[show(((pre++[x]).length:Nat):Int)=(pre.length:Int)+1 by simp];exact this
 case done=>
  intro D ys W hD iS hI fG;have an:ys.length=(zD 0 a.sts).length:=by have:=congrArg List.length iS;rwa[LJ] at this
  have ig:ys.length<=40:=by omega
  obtain⟨q0,q1,_⟩:=Ka hI.b0;have c1:=za hI.b1 0 rfl;have HI:=zH hI;have HD:=zH fG
  by_cases hz:a.sts.length<1
  . clear hI fG an iS
    go_wp2_with fail
    all_goals first | (exfalso;omega) | skip
    refine yR (B:=w.heap.size) (kH (by omega) HD.out) (v:=O U 5) (fun W=>by kernel_rfl) ?_;intro W hS;exact⟨by first | rfl | rw[Lo hz],HI.out.below.trans hS.below⟩
  have bN:¬((a.sts.length:Int)<1):=by omega
  clear hI fG an iS;go_wp2_with fail
  all_goals first | (exfalso;omega) | skip
  refine yR (B:=w.heap.size) (kH (by omega) HD.out) (v:=O U 0) (fun W=>by kernel_rfl) ?_;intro W hS;exact⟨by first | rfl | rw[Li hz],HI.out.below.trans hS.below⟩
 intro D c pre W _ _ h;exact h.elim
theorem jN{a:Ad}(h:a.n<1\/5<a.n):xy a=2:=Lo h
theorem vK{a:Ad}(h:¬(a.n<1\/5<a.n))(h2:a.sts.length<1):xy a=5:=by unfold xy;rw[Li h,Lo (.inl h2)]
theorem jM{a:Ad}(h:¬(a.n<1\/5<a.n))(h2:1<=a.sts.length)(hf:FewA a)(h3:zB a a.sts≠0):xy a=zB a a.sts:=by
 unfold xy;rw[Li h,Li (by have:=hf.1;have:=hf.2;omega),Lo h3]
theorem jO{a:Ad}(h:¬(a.n<1\/5<a.n))(h2:1<=a.sts.length)(hf:FewA a)(h3:zB a a.sts=0):xy a=if yU a=Ar then 0 else 21:=by
 unfold xy;rw[Li h,Li (by have:=hf.1;have:=hf.2;omega),Li (by simpa using h3)]
theorem jr{a:Ad}:∀ {p:Option Mv} {l:List Mv},qP a p l=0->∀m∈l,zS m.r=0/\m.r.n=a.n/\0<=m.to/\m.to<a.sts.length
 | _,[],_,m,hm=>by cases hm
 | p,x::r,h,m,hm=>by
  rw[qP] at h
  split at h
  . rename_i h1;exact absurd h h1
  . rename_i h1
    have h1:xd a p x=0:=by simpa using h1
    rcases L9.1 hm with rfl | hm
    . unfold xd at h1
      split at h1
      . rename_i h2;exact absurd h1 h2
      . split at h1
        . cases h1
        . split at h1
          . cases h1
          . split at h1
            . cases h1
            . rename_i h2 h3 h4 h5
              exact⟨by simpa using h2,by simpa using h3,by omega,by omega⟩
    . exact jr h m hm
theorem kA{a:Ad}:∀ {xs:List (List Mv)},zB a xs=0->∀l∈xs,l.length≠0/\∀m∈l,zS m.r=0/\m.r.n=a.n/\0<=m.to/\m.to<a.sts.length
 | [],_,l,hl=>by cases hl
 | x::r,h,l,hl=>by
  rw[zB] at h
  split at h
  . rename_i h1;exact absurd h h1
  . rename_i h1
    have h1:xF a x=0:=by simpa using h1
    rcases L9.1 hl with rfl | hl
    . unfold xF at h1
      split at h1
      . cases h1
      . rename_i h2
        exact⟨h2,fun m hm=>jr (p:=zw l 0) (l:=l) (by have:=h1;unfold yZ at this;rwa[LT] at this) m hm⟩
    . exact kA h l hl
theorem xI{r:Rd}(h:zS r=0):1<=r.n/\r.n<=5/\yn r=0/\yS r.n r.f=0:=by
 unfold zS at h
 split at h
 . rename_i h1;exact absurd h h1
 rename_i h1;have h1:yn r=0:=by simpa using h1
 refine⟨?_,?_,h1,h⟩
 . unfold yn at h1
   split at h1
   . cases h1
   omega
 unfold yn at h1
 split at h1
 . cases h1
 omega
theorem yY{a:Ad}(h:zB a a.sts=0):∀m∈a.mvs,zS m.r=0/\m.r.n=a.n/\0<=m.to/\m.to<a.sts.length:=fun m hm=>by
 obtain⟨l,hl,iM⟩:=Nq.1 hm;exact(kA h l hl).2 m iM
theorem xr{m:Mv}(h:zS m.r=0):∃f:Nat,m.r.f=(f:Int)/\f<32:=by
 obtain⟨_,k,_,e,_,_,_,hk⟩:=check_ok (xI h).2.2.2;exact⟨k,e,hk⟩
theorem Xr{s x:Nat}(hs:s<32)(hx:x<32):(bits BinOp.andNot U (x:Int) (s:Int)=0)↔(x &&& s=x):=by
 have h1:=xp (p:=fun s=>ja fun x=>decide ((bits BinOp.andNot U (x:Int) (s:Int)=0)↔(x &&& s=x))) (by decide +kernel) hs;have h2:=xp h1 hx;simpa using h2
theorem ZV{a:Ad}{x:Int×Mv}(h:x∈zD 0 a.sts):x.2∈a.mvs:=by
 have:x.2∈(zD 0 a.sts).map Prod.snd:=LO.2 ⟨x,h,rfl⟩;rwa[qy] at this
end
section
open Go.RowKit
theorem flat_step{xss:List (List Mv)}{k:Nat}(h:k<xss.length):((xss.take (k+1)).flatten).length=((xss.take k).flatten).length+xss[k].length:=by
 rw[Ls h,List.flatten_append,Lu];simp
theorem flat_le{xss:List (List Mv)}{k:Nat}:((xss.take k).flatten).length<=xss.flatten.length:=by
 conv=>rhs;rw[<-Pp k xss]
 rw[List.flatten_append,Lu];omega
theorem wh(a:Ad)(SV:Bb)(ks:Nat)(hl:a.sts.length<=17592186044416)(hm:a.mvs.length<=4611686018427387904)(aD:∀l∈a.sts,l.length<=17592186044416)(w:Ba)(hS:SAt w w.heap.size SV a.sts) :
  An Al 130 #[Ai #[O U a.n,I SV a.sts.length ks]] w fun e w'=>e=Ak (O U (a.mvs.length:Nat))/\w'=w.alloc (Ag #[O U a.n,I SV a.sts.length ks] 27):=by
 have HS:=zH (hS.keep (zN w (Ag #[O U a.n,I SV a.sts.length ks] 27)));have eD:=zH aD;obtain⟨n0,sts⟩:=a;unfold Ad.mvs at hm ⊢;dsimp only at hl hm eD HS ⊢;go_enter func130,ntmps130;go_wp2_with fail
 go_loop [3,4] (fun v i=>∃k c:Nat,k<=sts.length/\i=O U (k:Int)/\v=O U (c:Int)/\Ap (c=((sts.take k).flatten).length)) (fun _ i=>sts.length-(Ao i).toNat)
 case atStart=>exact⟨0,0,by omega,rfl,rfl,rfl⟩
 obtain⟨k,c,hk,rfl,rfl,hc⟩:=hrel
 by_cases aa:k<sts.length
 . obtain⟨b,o,A',k',rfl,dS,c1,_⟩:=HS.out.at_ k aa
   have ep:=eD.out _ (Ld aa);have lN:=flat_step aa;have dQ:=flat_le (xss:=sts) (k:=k+1);obtain⟨ll,aD⟩:=Kh (sts[k].length);rw[aD] at c1 ep lN;have lZ:c+ll=((sts.take (k+1)).flatten).length:=by rw[lN,hc.out]
   have hb:c+ll<=4611686018427387904:=by omega
   have HC:=zH lZ;go_wp2_with fail
   go_round
   case rel=>exact⟨k+1,c+ll,by omega,by go_num,by go_num,HC.out⟩
   simp[Ao];omega
 obtain rfl:k=sts.length:=by omega
 have lZ:c=sts.flatten.length:=by rw[hc.out,LC]
 subst lZ;go_wp2_with fail;go_ret;exact⟨rfl,rfl⟩
theorem mvs_le{a:Ad}(h8:a.sts.length<=8)(aD:∀l∈a.sts,l.length<=17592186044416):a.mvs.length<=4611686018427387904:=by
 have h:∀(xs:List (List Mv)),(∀l∈xs,l.length<=17592186044416)->xs.flatten.length<=xs.length*17592186044416:=by
  intro xs
  induction xs with
  | nil=>intro _;simp
  | cons x xs ih=>
   intro hx;have h1:=ih fun l hl=>hx l (Rf _ hl)
   have h2:=hx x (Ro ..);rw[PW,Lu,LD,P5];omega
 have h1:=h a.sts aD;unfold Ad.mvs;omega
theorem JE(a:Ad)(SV:Bb)(ks:Nat)(hl:a.sts.length<=17592186044416)(aD:∀l∈a.sts,l.length<=17592186044416)(w:Ba)(hS:SAt w w.heap.size SV a.sts) :
  An Al 89 #[Ai #[O U a.n,I SV a.sts.length ks]] w fun e w'=>e=Ak (Ah (decide (a.sts.length<=8)&&decide (a.mvs.length<=40)))/\Am w.heap.size w w':=by
 have HC:=zH (fun (hm:a.mvs.length<=4611686018427387904)=>wh a SV ks hl hm aD (w.alloc (Ag #[O U a.n,I SV a.sts.length ks] 27)) ((hS.keep (zN w _)).more (by simp)));have Kq:=zH (fun (h8:a.sts.length<=8)=>mvs_le h8 aD);obtain⟨q,hq⟩:=Kh a.mvs.length;rw[hq] at HC Kq ⊢;obtain⟨sl,mz⟩:=Kh a.sts.length;rw[mz] at HC Kq hl ⊢;go_enter func89,ntmps89
 by_cases h1:sl<=8
 . have hm:=Kq.out h1
   go_wp2_with fail
   all_goals first | (exfalso;omega) | skip
   refine(HC.out hm).mono ?_;rintro e w1 ⟨rfl,rfl⟩;go_wp2_with fail;go_ret;exact⟨ze (by first | (rw[Lm h1,Nl];exact Z3 (by omega)) | exact Z3 (by omega)),qt w _ _⟩
 go_wp2_with fail
 all_goals first | (exfalso;omega) | skip
 go_ret;exact⟨ze (by first | rfl | rw[Ln h1,NM]),zN w _⟩
theorem YU{a:Ad}(hf:FewA a):(∀l∈a.sts,l.length<=17592186044416)/\a.sts.length<=17592186044416/\a.mvs.length<=4611686018427387904:=
 ⟨fun l hl=>by have:=hf.each hl;omega,by have:=hf.1;omega,by have:=hf.2;omega⟩
theorem Jz(a:Ad)(SV:Bb)(ks:Nat)(_hsl:a.sts.length<=8)(A:Bb)(k0:Nat)(l:List Mv)(hl:l.length<=40)(k:Nat)(aa:k<l.length)(w:Ba)(hA:MAt w w.heap.size A l) :
  An Al 157 #[Ai #[O U a.n,I SV a.sts.length ks],I A l.length k0,O U k] w fun e w'=>e=Ak (O U (xd a (zw l k) l[k]))/\Am w.heap.size w w':=by
 have HA:=zH hA;obtain⟨b,o,rfl,dS,c0,c1,c2,c3,c4,c5,c6,c7⟩:=hA.row k aa;obtain⟨bo,ck⟩:=Kh (gM (zw l k) l[k]);have bL:=zH ck;have m1:=zH (@ud a (zw l k) l[k]);have m2:=zH (@QV a (zw l k) l[k]);have m3:=zH (@ue a (zw l k) l[k]);have m4:=zH (@YV a (zw l k) l[k]);have m5:=zH (@YW a (zw l k) l[k]);rw[ck] at m3 m4 m5;obtain⟨m,hm⟩:=Kh (l[k]);have HX:=zH hm;obtain⟨mE,Ev⟩:=Kh (xd a (zw l k) l[k]);rw[Ev] at m1 m2 m3 m4 m5 ⊢;rw[hm] at c0 c1 c2 c3 c4 c5 c6 c7 m1 m2 m3 m4 m5;have HR:=zH (fun w'=>ut m.r w');obtain⟨rE,Ec⟩:=Kh (zS m.r);rw[Ec] at m1 m2 m3 m4 m5 HR;unfold Rd.cells at HR;clear ck hm Ev Ec hA;go_enter func157,ntmps157;go_wp2_with fail;obtain⟨W1,cV,b0,b1,aA,aG⟩:=yr w #[O U a.n,I SV a.sts.length ks] #[O U m.r.n,O U m.r.h0,O U m.r.h1,O U m.r.h2,O U m.r.h3,O U m.r.h4,O U m.r.f] 27 68;rw[cV];refine(HR.out W1).mono ?_;rintro e w1 ⟨rfl,aH⟩;have ed:=zH (aG.trans (aH.mono (by omega)));have d0:=Lb aH (by omega) b0;have d1:=Lb aH (by omega) b1;have cH:=zH d1;have bD:=zH d0;obtain⟨q0,q1,_⟩:=Ka d0;obtain⟨p0,p1,p2,p3,p4,p5,p6,_⟩:=Kf d1;have Gv:=zc d1;obtain⟨_,_,e7,_,_,_,_,_,_,_,_,p7⟩:=(HA.out.keep ed.out).row k aa
 cases e7
 rw[HX.out] at p7;clear cV b0 b1 aG aH d0 d1 c0 c1 c2 c3 c4 c5 c6 c7 HR
 by_cases hr:rE=0
 case neg=>
  have he:=zH (m1.out hr);have e0:(rE != 0)=Ar:=by simpa using hr
  clear m1 m2 m3 m4 m5 hr bL HX;go_wp2_with fail;go_ret;exact⟨zd he.out.symm,ed.out⟩
 case pos=>
 subst hr;clear m1
 by_cases hn:m.r.n=a.n
 case neg=>
  have he:=zH (m2.out (by simp) hn);have e0:(m.r.n != a.n)=Ar:=by simpa using hn
  clear m2 m3 m4 m5 hn bL HX;go_wp2_with fail;go_ret;exact⟨zd he.out.symm,ed.out⟩
 case pos=>
 have e0:(m.r.n != a.n)=As:=by simpa using hn
 have n3:=zH (m3.out (by simp) hn);have n4:=zH (m4.out (by simp) hn);have n5:=zH (m5.out (by simp) hn);clear m2 hn m3 m4 m5
 cases k with
 | zero=>
  obtain rfl:bo=As:=by rw[<-bL.out];rfl
  have g0:decide ((0:Int)<0)=As:=by decide
  rw[Rw,Pc] at p7;clear bL HX n3;go_wp2_with fail;go_quiet (fail)
  by_cases ht:m.to<0\/(a.sts.length:Int)<=m.to
  . have he:=zH (n4.out (by simp) ht)
    clear n4 n5
    by_cases tX:m.to<0
    . clear ht
      go_wp2_with fail;go_quiet (fail);go_wp2_with fail;go_ret;exact⟨zd he.out.symm,by repeat (first | exact ed.out | refine zO ?_ _)⟩
    . have tW:(a.sts.length:Int)<=m.to:=by omega
      clear ht;go_wp2_with fail;go_quiet (fail);go_wp2_with fail;go_ret;exact⟨zd he.out.symm,by repeat (first | exact ed.out | refine zO ?_ _)⟩
  . have he:=zH (n5.out (by simp) ht)
    have tX:¬m.to<0:=by omega
    have tW:¬(a.sts.length:Int)<=m.to:=by omega
    clear n4 n5 ht;go_wp2_with fail;go_quiet (fail);go_wp2_with fail;go_ret;exact⟨zd he.out.symm,by repeat (first | exact ed.out | refine zO ?_ _)⟩
 | succ j=>
  have hj:j<l.length:=by omega
  have cq:gM (zw l (j+1)) l[j+1]=decide (0<=zm l[j].r.l l[j+1].r.l):=by rw[ya l j hj];rfl
  rw[HX.out] at cq;rw[show gM (zw l (j+1)) m=bo by have:=bL.out;rwa[HX.out] at this] at cq;obtain⟨b',o',e',_,u0,u1,u2,u3,u4,u5,u6,u7⟩:=(HA.out.keep ed.out).row j hj
  cases e'
  have hc:=fun w'=>uW l[j].r m.r w'
  obtain⟨mj,Es⟩:=Kh (l[j]);rw[Es] at cq hc u0 u1 u2 u3 u4 u5 u6 u7;obtain⟨r,hr⟩:=Kh (zm mj.r.l m.r.l);rw[hr] at cq hc;unfold Rd.cells at hc;have dh:=zH cq;have HC:=zH hc;have g1:((j:Int)+1).toNat=j+1:=by omega
  have g3:IntKind.i64.wrap ((j:Int)+1-1)=(j:Int):=by rw[Lv];omega
  have g5:IntKind.i64.wrap ((j:Int)+1)=(j:Int)+1:=by rw[Lv];omega
  have g6:decide ((0:Int)<(j:Int)+1)=Ar:=Lm (by omega);have g7:IntKind.i64.wrap (j:Int)=(j:Int):=by rw[Lv];omega
  have g8:(0:Int)<=(j:Int):=by omega
  have g9:(j:Int)<(l.length:Int):=by omega
  clear cq hc hr Es bL;go_wp2_with fail
  go_still_tail 10,(by kernel_rfl)
  change wpList _ _ _ _ _ w1.drew;obtain⟨w2,cd⟩:∃w2,w2=w1.drew:=⟨_,rfl⟩;have CE:Ap (Am w.heap.size w w2):=by rw[cd];exact ed.out.drew
  have aq:Ap (w2.heap[w.heap.size]?=J (Ag #[O U a.n,I SV a.sts.length ks] 27 (0,0))):=by rw[cd];exact bD.out
  rw[<-cd];clear bD cH cd q0 q1 p0 p1 p2 p3 p4 p5 p6 p7 u0 u1 u2 u3 u4 u5 u6 u7 g3 g7 g8 g9;go_wp2_with fail;refine(HC.out w2).mono ?_;rintro e w3 ⟨rfl,am⟩;have mT:=zH (Lc CE.out am);have d0:=La am aq.out;obtain⟨q0,q1,_⟩:=Ka d0;obtain⟨_,_,e7,_,_,_,_,_,_,_,_,p7⟩:=(HA.out.keep mT.out).row (j+1) aa
  cases e7
  rw[HX.out] at p7;have i1:(0:Int)<=(j:Int)+1:=by omega
  have i2:(j:Int)+1<(l.length:Int):=by omega
  clear d0 am HC HX
  cases bo with
  | true=>
   have MH:0<=r:=Lw dh.out.symm;have he:=zH (n3.out (by simp));clear n3 n4 n5 dh;go_wp2_with fail
   all_goals first | (exfalso;omega) | skip
   go_ret;exact⟨zd he.out.symm,mT.out⟩
  | false=>
   have MH:¬0<=r:=NH dh.out.symm;clear n3 dh
   by_cases ht:m.to<0\/(a.sts.length:Int)<=m.to
   . have he:=zH (n4.out (by simp) ht)
     clear n4 n5
     by_cases tX:m.to<0
     . clear ht
       go_wp2_with fail
       all_goals first | (exfalso;omega) | skip
       go_quiet (fail);go_wp2_with fail;go_ret;exact⟨zd he.out.symm,by repeat (first | exact mT.out | refine zO ?_ _)⟩
     . have tW:(a.sts.length:Int)<=m.to:=by omega
       clear ht;go_wp2_with fail
       all_goals first | (exfalso;omega) | skip
       go_quiet (fail);go_wp2_with fail;go_ret;exact⟨zd he.out.symm,by repeat (first | exact mT.out | refine zO ?_ _)⟩
   . have he:=zH (n5.out (by simp) ht)
     have tX:¬m.to<0:=by omega
     have tW:¬(a.sts.length:Int)<=m.to:=by omega
     clear n4 n5 ht;go_wp2_with fail
     all_goals first | (exfalso;omega) | skip
     go_quiet (fail);go_wp2_with fail;go_ret;exact⟨zd he.out.symm,by repeat (first | exact mT.out | refine zO ?_ _)⟩
end
section
open Go.RowKit
attribute [local go_sem] Oper.semAt_some
def okB(a:Ad)(m:Mv):Bool:=(a.at_ m.to).all fun k=>qj m k
theorem J4{a:Ad}(h:∀t (ht:t<a.sts.length),∀m∈a.sts[t],okB a m=Ar):yU a=Ar:=by
 unfold yU;rw[LP];intro m hm;obtain⟨l,hl,iM⟩:=Nq.1 hm;obtain⟨t,ht,rfl⟩:=NL.1 hl;exact h t ht m iM
theorem Qk{a:Ad}{m k:Mv}(hm:m∈a.mvs)(hk:k∈a.at_ m.to)(h:qj m k=As):yU a=As:=by
 rw[Bool.eq_false_iff];intro hg;unfold yU at hg;have:=LP.1 (LP.1 hg m hm) k hk;rw[this] at h
 cases h
theorem at_get{a:Ad}{t:Nat}(h:t<a.sts.length){x:Int}(hx:x=(t:Int)):a.at_ x=a.sts[t]:=by
 subst hx;unfold Ad.at_;rw[Lj,Le,Lf h];rfl
theorem XM(a:Ad)(hf:FewA a)(hz:zB a a.sts=0)(SV:Bb)(ks:Nat)(w:Ba)(hS:SAt w w.heap.size SV a.sts) :
  An Al 158 #[Ai #[O U a.n,I SV a.sts.length ks]] w fun e w'=>e=Ak (Ah (yU a))/\Am w.heap.size w w':=by
 have dZ:=hf.1;have mu:=zH (fun l hl=>hf.each (l:=l) hl);have HZ:=zH (@yY a hz);have Uo:=zH (@J4 a);have H8:=zH (fun m k hm hk h=>@Qk a m k hm hk h);obtain⟨G,hG⟩:=Kh (yU a);rw[hG] at Uo ⊢;simp only[hG] at H8;go_enter func158,ntmps158;go_wp2_with fail;obtain⟨w1,ac⟩:=Kh (w.alloc (Ag #[O U a.n,I SV a.sts.length ks] 27));have aM:=zj w (Ag #[O U a.n,I SV a.sts.length ks] 27);have al:Am w.heap.size w w1:=by rw[<-ac];exact zN w _
 have df:w1.heap.size=w.heap.size+1:=by rw[<-ac];simp
 rw[ac] at aM ⊢;have bE:=zH aM;have aZ:=zH al;have HS:=zH ((hS.keep al).more (by omega:w.heap.size<=w1.heap.size))
 go_loopw [3] (fun i wr=>∃s:Nat,s<=a.sts.length/\i=O U (s:Int)/\Ap (∀t (ht:t<a.sts.length),t<s->∀m∈a.sts[t],okB a m=Ar)/\Ap (Am w1.heap.size w1 wr)) (fun i _=>a.sts.length-(Ao i).toNat)
 case atStart=>exact⟨0,by omega,rfl,(fun t ht h0=>by omega),Ll _ _⟩
 obtain⟨s,hs,rfl,oH,bh⟩:=hrel;have be:=La bh.out bE.out;have q1:=za be 1 rfl
 by_cases aa:s<a.sts.length
 case neg=>
  obtain rfl:s=a.sts.length:=by omega
  have hg:=zH (Uo.out (fun t ht=>oH.out t ht ht));go_wp2_with fail;go_ret;exact⟨ze hg.out.symm,aZ.out.trans (bh.out.mono (by omega))⟩
 case pos=>
 obtain⟨b,o,A',k',rfl,dS,c1,hM⟩:=(HS.out.keep bh.out).at_ s aa;have dC:=mu.out _ (Ld aa);have F1:Ap (∀m∈a.sts[s],m∈a.mvs):=fun m hm=>Nq.2 ⟨_,Ld aa,hm⟩
 have lg:Ap ((∀m∈a.sts[s],okB a m=Ar)->∀t (ht:t<a.sts.length),t<s+1->∀m∈a.sts[t],okB a m=Ar):=fun h t ht h2 m hm=>by
  by_cases e:t=s
  . subst e;exact h m hm
  . exact oH.out t ht (by omega) m hm
 have lC:Ap (∀wr:Ba,Am w1.heap.size w1 wr->wr.cell? ⟨b,o+s,Z⟩=J (.slice A' (a.sts[s]).length k')/\MAt wr w1.heap.size A' a.sts[s]):=fun OS dn=>
  ⟨((dn.cell (p:=⟨b,_,Z⟩) dS).trans ((bh.out.cell (p:=⟨b,_,Z⟩) dS).symm)).trans c1,(by
   obtain⟨b2,o2,A2,k2,e2,bP,c2,tp⟩:=(HS.out.keep dn).at_ s aa
   cases e2
   have:=(((dn.cell (p:=⟨b,o+s,Z⟩) dS).trans ((bh.out.cell (p:=⟨b,o+s,Z⟩) dS).symm)).trans c1).symm.trans c2
   cases this
   exact tp)⟩
 obtain⟨L,hL⟩:=Kh (a.sts[s]);rw[hL] at c1 dC F1 lg lC;go_wp2_with fail
 go_loopw [4] (fun i wr=>∃j:Nat,j<=L.length/\i=O U (j:Int)/\Ap (∀u (hu:u<L.length),u<j->okB a L[u]=Ar)/\Ap (Am w1.heap.size w1 wr)) (fun i _=>L.length-(Ao i).toNat)
 case atStart=>exact⟨0,by omega,rfl,(fun u hu h0=>by omega),bh⟩
 obtain⟨j,hj,rfl,sW,bh⟩:=hrel;have be:=La bh.out bE.out;have q1:=za be 1 rfl;obtain⟨c1,hM⟩:=lC.out _ bh.out
 by_cases bQ:j<L.length
 case neg=>
  obtain rfl:j=L.length:=by omega
  have hg:=zH (lg.out (fun m hm=>by
   obtain⟨u,hu,rfl⟩:=NL.1 hm
   exact sW.out u hu hu))
  go_wp2_with fail
  go_roundw
  case rel=>exact⟨s+1,by omega,by go_num,hg,bh⟩
  simp[Ao];omega
 case pos=>
 obtain⟨b',o',e',Wp,d0,d1,d2,d3,d4,d5,d6,d7⟩:=hM.row j bQ
 cases e'
 have Oh:Ap (L[j]∈a.mvs):=F1.out _ (Ld bQ)
 have Hy:Ap (okB a L[j]=Ar->∀u (hu:u<L.length),u<j+1->okB a L[u]=Ar):=fun h u hu h2=>by
  by_cases e:u=j
  . subst e;exact h
  . exact sW.out u hu (by omega)
 obtain⟨m,hm⟩:=Kh (L[j]);rw[hm] at d0 d1 d2 d3 d4 d5 d6 d7 Oh Hy;obtain⟨z1,z2,z3,z4⟩:=HZ.out m Oh.out;obtain⟨f1,Fv,Ip⟩:=xr z1;obtain⟨t,et⟩:=Lr z3;have my:t<a.sts.length:=by omega
 have bK:=at_get my et;have Uh:Ap (∀y∈a.at_ m.to,y∈a.mvs):=by rw[bK];exact fun y hy=>Nq.2 ⟨_,Ld my,hy⟩
 have Ez:=mu.out _ (Ld my)
 have ri:Ap (∀wr:Ba,Am w1.heap.size w1 wr->∃A' c,wr.cell? ⟨b,o+t,Z⟩=J (.slice A' (a.at_ m.to).length c)/\MAt wr w1.heap.size A' (a.at_ m.to)):=fun OS dn=>by
  rw[bK];obtain⟨b2,o2,A2,k2,e2,bP,c2,tp⟩:=(HS.out.keep dn).at_ t my
  cases e2
  exact⟨A2,k2,c2,tp⟩
 rw[<-bK] at Ez;have tC:Ap ((∀y∈a.at_ m.to,qj m y=Ar)->okB a m=Ar):=fun h=>LP.2 h
 obtain⟨L2,eH⟩:=Kh (a.at_ m.to)
 have pm:Ap (∀y∈L2,qj m y=As->G=As):=by
  rw[<-eH];exact fun y hy h=>H8.out m y Oh.out hy h
 rw[eH] at Uh Ez ri tC;have aq:=zH Fv;have HET:=zH et;rw[et] at d7;clear hM hm z1 z2 z3 z4 et Fv bK eH sW;go_wp2_with fail;obtain⟨wm,lJ⟩:=Kh (wr.alloc (Ag m.cells 70));have mF:=zj wr (Ag m.cells 70);have Vo:Am w1.heap.size w1 wm:=by rw[<-lJ];exact bh.out.trans ((zN wr _).mono bh.out.size)
 have dH:wm.heap.size=wr.heap.size+1:=by rw[<-lJ];simp
 have rL:=bh.out.size;rw[lJ] at mF;unfold Mv.cells at lJ mF;rw[HET.out] at lJ mF;rw[lJ];obtain⟨g,hg⟩:=Kh wr.heap.size;rw[hg] at mF dH rL ⊢;have Hu:=zH mF;have HMW:=zH Vo
 go_loopw [6] (fun i wx=>∃q:Nat,q<=L2.length/\i=O U (q:Int)/\Ap (∀u (hu:u<L2.length),u<q->qj m L2[u]=Ar)/\Ap (Am wm.heap.size wm wx)) (fun i _=>L2.length-(Ao i).toNat)
 case atStart=>exact⟨0,by omega,rfl,(fun u hu h0=>by omega),Ll _ _⟩
 obtain⟨q,hq,rfl,Gz,aV⟩:=hrel;have cB:=HMW.out.trans (aV.out.mono (by omega));have be:=La cB bE.out;have q1:=za be 1 rfl;have fA:=Lb aV.out (by omega) Hu.out;have p6:=za fA 6 rfl;have p7:=za fA 7 rfl;obtain⟨A2,k2,c2,tp⟩:=ri.out _ cB;have bg:=zH cB
 by_cases Eh:q<L2.length
 case neg=>
  obtain rfl:q=L2.length:=by omega
  have hg:=zH (Hy.out (tC.out (fun y hy=>by
   obtain⟨u,hu,rfl⟩:=NL.1 hy
   exact Gz.out u hu hu)))
  go_wp2_with fail
  go_roundw
  case rel=>exact⟨j+1,by omega,by go_num,hg,bg⟩
  simp[Ao];omega
 case pos=>
 obtain⟨b3,o3,e3,cW,_,_,_,_,_,_,c6,_⟩:=tp.row q Eh;subst e3;have bu:=Ld Eh;obtain⟨f2,sn,Io⟩:=xr (HZ.out _ (Uh.out _ bu)).1;have Cl:=zH (pm.out _ bu)
 have T7:Ap (qj m L2[q]=Ar->∀u (hu:u<L2.length),u<q+1->qj m L2[u]=Ar):=fun h u hu h2=>by
  by_cases e:u=q
  . subst e;exact h
  . exact Gz.out u hu (by omega)
 have pP:qj m L2[q]=(f1 &&& f2==f1):=by unfold qj;rw[aq.out,sn,Lj,Lj]
 have HC:=zH (fun w'=>Qh f1 f2 Ip Io w');obtain⟨y,hy⟩:=Kh (L2[q]);rw[hy] at c6 Cl T7 pP sn;obtain⟨bo,ck⟩:∃bo,(f1 &&& f2==f1)=bo:=⟨_,rfl⟩;rw[ck] at pP HC;have Cn:=zH pP;have V7:=aq.out;rw[V7] at p6;rw[sn] at c6
 cases bo with
 | true=>
  have hg:=zH (T7.out Cn.out);go_wp2_with fail;go_quiet ((go_at_call 175;exact(HC.out _).mono fun e w' h=>⟨h.1,_,h.2.symm⟩));go_wp2_with fail
  go_roundw
  case rel=>exact⟨q+1,by omega,by go_num,hg,zO aV.out _⟩
  case measure=>simp[Ao];omega
 | false=>
  have hg:=zH (Cl.out Cn.out);go_wp2_with fail;go_quiet ((go_at_call 175;exact(HC.out _).mono fun e w' h=>⟨h.1,_,h.2.symm⟩));go_wp2_with fail;go_ret;exact⟨ze hg.out.symm,zO (aZ.out.trans (bg.out.mono (by omega))) _⟩
theorem YF(a:Ad)(hf:FewA a)(SV:Bb)(ks:Nat)(w:Ba)(hS:SAt w w.heap.size SV a.sts) :
  An Al 132 #[Ai #[O U a.n,I SV a.sts.length ks]] w fun e w'=>e=Ak (O U (xy a))/\Am w.heap.size w w':=by
 have dZ:=hf.1;have dr:=hf.2;obtain⟨iM,Vk,lU⟩:=YU hf;have Hs:=zH (fun (w':Ba) (h:SAt w' w'.heap.size SV a.sts)=>wh a SV ks Vk lU iM w' h);have Ga:=zH (fun hz (w':Ba) (h:SAt w' w'.heap.size SV a.sts)=>XM a hf hz SV ks w' h);have Dp:=zH (fun (A:Bb) (k0:Nat) (l:List Mv) (hl:l.length<=40) (k:Nat) (aa:k<l.length) (w':Ba) (h:MAt w' w'.heap.size A l)=>Jz a SV ks dZ A k0 l hl k aa w' h);have mu:=zH (fun l hl=>hf.each (l:=l) hl);have aq:=zH (@jN a);have ai:=zH (@vK a);have au:=zH (fun h h2=>@jM a h h2 hf);have cJ:=zH (fun h h2=>@jO a h h2 hf);obtain⟨E,hE⟩:=Kh (xy a);rw[hE] at aq ai au cJ ⊢;obtain⟨ml,Er⟩:=Kh a.mvs.length;rw[Er] at Hs dr;go_enter func132,ntmps132
 by_cases hr:a.n<1\/5<a.n
 . have hR:=zH (aq.out hr)
   have HN:=zH hr;go_wp2_with fail
   all_goals first | (exfalso;have:=HN.out;omega) | skip
   all_goals
    go_ret;exact⟨zd hR.out.symm,zN w _⟩
 have r1:¬a.n<1:=by omega
 have r2:¬5<a.n:=by omega
 have ai:=zH (ai.out hr);have au:=zH (au.out hr);have cJ:=zH (cJ.out hr);obtain⟨w1,ac⟩:=Kh (w.alloc (Ag #[O U a.n,I SV a.sts.length ks] 27));have aM:=zj w (Ag #[O U a.n,I SV a.sts.length ks] 27);have al:Am w.heap.size w w1:=by rw[<-ac];exact zN w _
 have df:w1.heap.size=w.heap.size+1:=by rw[<-ac];simp
 rw[ac] at aM;have bE:=zH aM;have aZ:=zH al;have HS:=zH ((hS.keep al).more (by omega:w.heap.size<=w1.heap.size));have ah:=zH ac;clear hS ac al;obtain⟨q0,q1,_⟩:=Ka aM
 by_cases hz:a.sts.length<1
 . have hR:=zH (ai.out hz)
   clear ai au cJ Hs Ga Dp mu;go_wp2_with fail;rw[ah.out];go_wp2_with fail;go_ret;exact⟨zd hR.out.symm,aZ.out⟩
 have bN:1<=a.sts.length:=by omega
 have G3:=zH (au.out bN);have G4:=zH (cJ.out bN);clear ai hz au cJ;obtain⟨F,hF⟩:=Kh (zB a a.sts);have HF:Ap (F=zB a (a.sts.drop 0)):=by rw[LT];exact hF.symm
 rw[hF] at G3 G4 Ga;clear hF;have g1:=zH (fun k h=>@jo a a.sts k h);have g2:=zH (fun k h=>@jS a a.sts k h);have g3:=zH (fun k h=>@jn a a.sts k h);go_wp2_with fail;rw[ah.out];refine(Hs.out w1 HS.out).mono ?_;rintro e w2 ⟨rfl,cd⟩;have af:Am w1.heap.size w1 w2:=by rw[cd];exact zN w1 _
 have aP:=zH af;have be:=La af bE.out;have q1:=za be 1 rfl;clear cd af be aM Hs ah;go_wp2_with fail
 all_goals first | (exfalso;omega) | skip
 clear q1
 go_loopw [3] (fun i wr=>∃s:Nat,s<=a.sts.length/\i=O U (s:Int)/\Ap (F=zB a (a.sts.drop s))/\Ap (Am w1.heap.size w1 wr)) (fun i _=>a.sts.length-(Ao i).toNat)
 case atStart=>exact⟨0,by omega,rfl,HF,aP⟩
 obtain⟨s,hs,rfl,aj,bh⟩:=hrel;have be:=La bh.out bE.out;obtain⟨q0,q1,_⟩:=Ka be
 by_cases aa:s<a.sts.length
 case neg=>
  obtain rfl:s=a.sts.length:=by omega
  have BE:F=0:=aj.out.trans (g3.out _ rfl);have hR:=zH (G4.out BE);have HG:=zH (Ga.out BE wr ((HS.out.keep bh.out).more bh.out.size));obtain⟨gb,eQ⟩:=Kh (yU a);rw[eQ] at hR HG;clear G3 G4 g1 g2 g3 aj eQ BE Ga Dp mu be;go_wp2_with fail;refine HG.out.mono ?_;rintro e w3 ⟨rfl,am⟩;have bk:=zH (aZ.out.trans ((Lc bh.out am).mono (by omega)));clear HG am q1
  cases gb with
  | true=>
   go_wp2_with fail;go_ret;exact⟨zd hR.out.symm,bk.out⟩
  | false=>
   go_wp2_with fail;go_ret;exact⟨zd hR.out.symm,bk.out⟩
 case pos=>
 have aF:=zH (g1.out s aa);have aB:=zH (g2.out s aa);obtain⟨b,o,A',k',e',dS,c1,hM⟩:=(HS.out.keep bh.out).at_ s aa;subst e';have dC:=mu.out _ (Ld aa)
 have lC:Ap (∀wr:Ba,Am w1.heap.size w1 wr->wr.cell? ⟨b,o+s,Z⟩=J (.slice A' (a.sts[s]).length k')/\MAt wr w1.heap.size A' a.sts[s]):=fun OS dn=>
  ⟨((dn.cell (p:=⟨b,_,Z⟩) dS).trans ((bh.out.cell (p:=⟨b,_,Z⟩) dS).symm)).trans c1,(by
   obtain⟨b2,o2,A2,k2,e2,bP,c2,tp⟩:=(HS.out.keep dn).at_ s aa
   cases e2
   have:=(((dn.cell (p:=⟨b,o+s,Z⟩) dS).trans ((bh.out.cell (p:=⟨b,o+s,Z⟩) dS).symm)).trans c1).symm.trans c2
   cases this
   exact tp)⟩
 obtain⟨L,hL⟩:=Kh (a.sts[s]);rw[hL] at c1 dC lC aF aB;clear hM hL g1 g2 g3 be mu Ga
 by_cases pO:L.length=0
 . have he:=vU (a:=a) pO
   rw[he] at aF;have ra:=aj.out.trans (aF.out (by decide));have hR:=zH ((G3.out (by rw[ra];decide)).trans ra);rw[pO] at c1;clear G3 G4 aF aB aj he ra pO dC lC Dp;go_wp2_with fail;go_ret;exact⟨zd hR.out.symm,aZ.out.trans (bh.out.mono (by omega))⟩
 have nu:=zH (uP (a:=a) pO);have e0:(((L.length:Nat):Int)==0)=As:=by simpa using pO
 have e1:¬((L.length:Nat):Int)=0:=by omega
 have b1:=zH (fun k h=>@uc a L k h);have b2:=zH (fun k h=>@wC a L k h);have b3:=zH (@ub a L);obtain⟨V,hV⟩:=Kh (xF a L);rw[hV] at nu aF aB;clear hV pO;go_wp2_with fail;clear q1 c1
 go_loopw [4] (fun i wr=>∃j:Nat,j<=L.length/\i=O U (j:Int)/\Ap (V=yZ a L j)/\Ap (Am w1.heap.size w1 wr)) (fun i _=>L.length-(Ao i).toNat)
 case atStart=>exact⟨0,by omega,rfl,nu,bh⟩
 clear bh nu;obtain⟨j,hj,rfl,sW,bh⟩:=hrel;have be:=La bh.out bE.out;obtain⟨q0,q1,_⟩:=Ka be;obtain⟨c1,hM⟩:=lC.out _ bh.out
 by_cases bQ:j<L.length
 case neg=>
  obtain rfl:j=L.length:=by omega
  have SX:V=0:=sW.out.trans b3.out;have hR:=zH (aj.out.trans (aB.out SX));clear sW hM b1 b2 b3 aF aB aj SX be lC Dp G3 G4;go_wp2_with fail
  go_roundw
  case rel=>exact⟨s+1,by omega,by go_num,hR,bh⟩
  simp[Ao];omega
 case pos=>
 have hC:=Dp.out A' k' L dC j bQ;have x1:=b1.out j bQ;have x2:=b2.out j bQ;obtain⟨ev,cP⟩:=Kh (xd a (zw L j) L[j]);rw[cP] at hC x1 x2;have HC:=zH hC;have X1:=zH x1;have X2:=zH x2;have nS:=zH hM;have HBK:=zH be;have i1:(0:Int)<=(s:Int):=by omega
 have i2:(s:Int)<(a.sts.length:Int):=by omega
 clear hC x1 x2 cP hM be b1 b2 b3 Dp;go_wp2_with fail
 go_still_tail 7,(by kernel_rfl)
 change wpList _ _ _ _ _ wr.drew;obtain⟨wd,rI⟩:∃wd,wd=wr.drew:=⟨_,rfl⟩;have BLd:Ap (Am w1.heap.size w1 wd):=by rw[rI];exact bh.out.drew
 have HMd:Ap (MAt wd wd.heap.size A' L):=by rw[rI];exact(nS.out.keep (Ll _ wr).drew).more bh.out.size
 rw[<-rI];clear rI nS q1 c1 HBK;go_wp2_with fail;refine(HC.out wd HMd.out).mono ?_;rintro e w3 ⟨rfl,am⟩;have mT:=zH (Lc BLd.out am)
 by_cases he:ev=0
 . subst he
   have hR:=zH (sW.out.trans (X2.out (by simp)));go_wp2_with fail
   go_roundw
   case rel=>exact⟨j+1,by omega,by go_num,hR,mT⟩
   simp[Ao];omega
 have ST:=sW.out.trans (X1.out he);have ra:=(aj.out.trans (aF.out (by rw[ST];exact he))).trans ST;have hR:=zH ((G3.out (by rw[ra];exact he)).trans ra);have e2:(ev != 0)=Ar:=by simpa using he
 go_wp2_with fail;go_ret;exact⟨zd hR.out.symm,aZ.out.trans (mT.out.mono (by omega))⟩
end
section
open Go.RowKit Go.Shelf
section
variable {P:Program}
theorem ju{fn:Func}{tmps:Array Aq}{R:Ending->Ba->Prop}{B n:Nat} :
  ∀(rs:List Nat) (w:Ba),rs.Nodup->(∀r∈rs,B<=r/\w.heap[r]?=J (.deferred (J [])))->(∀W,Shut B w W->∃v,(results fn tmps).run P W=.ok v W/\R (Ak v) W) ->
   LeavesInM Fence.wide n P fn tmps R (rs.map (fun r=>{ target:=.collected r,args:=#[] })) .returning w
 | [],w,_,_,hR=>hR w (Shut.refl _ _)
 | r::rs,w,hn,hm,hR=>by
  obtain⟨hr,Kn⟩:=P7.1 hn;obtain⟨hB,hk⟩:=hm r (by simp);refine⟨by simp,.inl ⟨r,_,rfl,run_takeDeferred hk,?_⟩⟩;refine ju rs _ Kn (fun r' nD=>⟨(hm r' (by simp[nD])).1,?_⟩) (fun W hW=>hR W ?_)
  . rw[NZ (by rintro rfl;exact hr nD)]
    exact(hm r' (by simp[nD])).2
  . refine⟨((Ll B w).grown (grownBy_putObj' w r (.deferred Z)) (by have:=(Lq.1 hk).1;omega) (fun k e=>by cases e;exact hB)).trans hW.below,fun k o ho hc=>?_⟩
    refine hW.same k o ?_ hc
    by_cases e:k=r
    . subst e;rw[hk] at ho;cases ho;cases hc
    . exact(NZ e).trans ho
theorem yD{fn:Func}{R:Ending->Ba->Prop}{a:Act}{w:Ba}{B:Nat}(hm:Marks B a.defers w)
  (hR:∀W,Shut B w W->∃v,(results fn a.tmps).run P W=.ok v W/\R (Ak v) W):bodyPostM Fence.wide 9 P fn R .ret a w:=by
 obtain⟨rs,hd,hn,hk⟩:=hm;show LeavesInM Fence.wide 9 P fn a.tmps R a.defers .returning w;rw[hd];exact ju rs w hn hk hR
theorem kQ{β:Type}{g:Operand}{ps:Array Tmp}{assign body:Code}{Q:Exit->Act->Ba->Prop}{a:Act}{w:Ba}
  {gf:Nat} {lb:Array Aq} (hg:a.eval g=.func (.func gf) #[] lb) (eg:Enters P gf)
  {iD:β->Array Aq} {K:Nat->Prop} {xs:List β} (t':Iter P gf lb iD K xs w) (hK:∀k,K k->k<w.heap.size) (oH:∀x,(iD x).size=ps.size)
  (Ac:List { x:β // x∈xs }->Ba->Prop) (Ix:Code->List { x:β // x∈xs }->Ba->Prop) (hI:OwnFrom w.heap.size Ac) (Ms:∀c,OwnFrom w.heap.size (Ix c)) (h0:Ac [] w)
  (C:β->Array Aq) (T:TypeId) (a₁:{ x:β // x∈xs }->Nat->Act)
  (iy:∀(l:Nat) (pre:List { x:β // x∈xs }) (x:{ x:β // x∈xs }) (W:Ba) (K':Act->Ba->Prop),Ac pre W->(∀g,g=W.heap.size->Ac pre (W.alloc (Ag (C x.1) T))->K' (a₁ x g) (W.alloc (Ag (C x.1) T))) ->
   assign.wpIn (Fence.wide.inRound l) 7 P (Exit.then K' (fun _ _ _=>False)) { tmps:=(ps.zip (iD x.1)).foldl (fun t (p,v)=>t.setIfInBounds p v) a.tmps,defers:=[] } W)
  (oX:∀(l:Nat) (pre:List { x:β // x∈xs }) (x:{ x:β // x∈xs }) (g:Nat) (W:Ba),w.heap.size<=g->W.heap[g]?=J (Ag (C x.1) T (0,0))->Ac pre W->pre.length<xs.length->body.wpIn (Fence.wide.inRound l) 7 P (ownPostG w.heap.size (KeepB K) Ac Ix (pre++[x]) W) (a₁ x g) W)
  (oV:∀(D:Nat) (ys:List { x:β // x∈xs }) (W:Ba),w.heap.size<=D->ys.map (·.1)=xs->Ac ys W->W.heap[D]?=J (.deferred (J []))->Q .normal { a with defers:={ target:=.collected D,args:=#[] }::a.defers } W)
  (oA:∀(D:Nat) (c:Code) (pre:List { x:β // x∈xs }) (W:Ba),w.heap.size<=D->pre.map (·.1) <+: xs->Ix c pre W->W.heap[D]?=J (.deferred (J []))->c.wp P Q { a with defers:={ target:=.collected D,args:=#[] }::a.defers } W)
  (hbig:∀pre W,Ac pre W->w.heap.size<=W.heap.size) :
  (Code.rangeFunc g ps assign body).wp P Q a w:=
 (RB (n:=9)).1 (wpIn_rangeFunc_ownH (F:=Fence.wide) (n:=9) rfl (by omega) hg trivial eg (t' 8 (by omega)) KeepB.trans
  (fun W l o o' hl _ _ _=>KeepB.putObj (fun hk=>by have:=hK l hk;omega) o') (Ll _ _) (fun x=>oH x.1) Ac Ix hI Ms h0
  (fun x a' W=>∃g,a'=a₁ x g/\w.heap.size<=g/\W.heap[g]?=J (Ag (C x.1) T (0,0)))
  (fun x a' _ W W' row ⟨g,e,EK,hc⟩ lp hr=>⟨g,e,EK,(L4 lp (fun r e=>(hr r e).2) hc rfl).trans hc⟩)
  (fun l pre x W K' hi ae=>iy l pre x W K' hi fun g GK CV=>by
   refine ae _ _ ?_ ?_ CV ⟨g,rfl,by rw[GK];exact hbig _ _ hi,by rw[GK];exact zj _ _⟩
   . exact⟨by simp,fun k o _ hk ho=>(N1 W _ k (Lq.1 hk).1).trans hk⟩
   . exact KeepB.alloc _ _ _)
  (fun l pre x a' W _ _ hi ⟨g,e,EK,hc⟩ hl=>by subst e;exact oX l pre x g W EK hc hi hl) oV
  (fun D c pre W hD hS hc hk=>RB.2 (oA D c pre W hD hS hc hk)))
end
structure RsIn(B:Nat)(C:Array Aq)(T:TypeId)(r:Int)(w W:Ba):Prop where
 below:Am B w W
 b0:W.heap[B]?=J (Ag C T (0,0))
 b1:W.heap[B+1]?=J (Ag #[O U r] 42 (0,0))
theorem RsIn.turn{B:Nat}{C:Array Aq}{T:TypeId}{r:Int}{w W W':Ba}{row:Option Nat}(h:RsIn B C T r w W)(hg:W.grownBy W' row)(hr:∀r,row=J r->B<=r/\∃o:Obj,W.heap[r]?=J o/\o.isCells=As):RsIn B C T r w W':=
 ⟨h.below.grown hg (by have:=(Lq.1 h.b0).1;omega) (fun k hk=>(hr k hk).1),(L4 hg (fun r e=>(hr r e).2) h.b0 rfl).trans h.b0,(L4 hg (fun r e=>(hr r e).2) h.b1 rfl).trans h.b1⟩
theorem RsIn.on{B D:Nat}{C:Array Aq}{T:TypeId}{r:Int}{w W W':Ba}(h:RsIn B C T r w W)(hb:Am D W W')(hD:B+2<=D):RsIn B C T r w W':=
 ⟨h.below.trans (hb.mono (by omega)),Lb hb (by omega) h.b0,Lb hb (by omega) h.b1⟩
theorem RsIn.set{B:Nat}{C:Array Aq}{T:TypeId}{r:Int}{w W:Ba}(h:RsIn B C T r w W)(r':Int):RsIn B C T r' w (W.setCell ⟨B+1,0,Z⟩ (O U r')):=by
 obtain⟨x1,x2,x3⟩:=qD h.b1 (O U r');exact⟨h.below.setCell (by simp) _,(x3 B (by omega)).trans h.b0,x1⟩
theorem RsIn.keeps{B D:Nat}{C:Array Aq}{T:TypeId}{r:Int}{w W:Ba}(h:RsIn B C T r w W)(r':Int):KeepsFrom D W (W.setCell ⟨B+1,0,Z⟩ (O U r')):=by
 obtain⟨x1,x2,x3⟩:=qD h.b1 (O U r');refine⟨by omega,fun k o _ hk ho=>?_⟩;have k1:k≠B+1:=by rintro rfl;rw[h.b1] at hk;cases hk;cases ho
 exact(x3 k k1).trans hk
theorem qz{D:Nat}{W W':Ba}(h:Am W.heap.size W W'):KeepsFrom D W W':=⟨h.size,fun k _ _ hk _=>(h.block k (Lq.1 hk).1).trans hk⟩
theorem RsIn.cell{B:Nat}{C:Array Aq}{T:TypeId}{r:Int}{w W X:Ba}(h:RsIn B C T r w W)(hS:Shut B W X):X.cell? ⟨B+1,0,Z⟩=J (O U r):=hS.cell (za h.b1 0 rfl)
end
section
open Go.RowKit Go.Shelf
attribute [local go_sem] Oper.semAt_some
theorem gt(a:Ad)(hf:FewA a)(SV:Bb)(ks:Nat)(w:Ba)(hS:SAt w w.heap.size SV a.sts) :
  An Al 127 #[Ai #[O U a.n,I SV a.sts.length ks]] w fun e w'=>e=Ak (O U (xy a))/\Am w.heap.size w w':=by
 have dZ:=hf.1;have BS:=zH (fun (w':Ba) (h:SAt w' w'.heap.size SV a.sts)=>Ju a hf SV ks w' h);have cN:=zH (fun (A:Bb) (k0:Nat) (l:List Mv) (hl:l.length<=40) (w':Ba) (h:MAt w' w'.heap.size A l)=>Js a SV ks dZ A k0 l hl w' h);have HI:=zH (fun (bx:Nat) (w':Ba) (hb:w'.heap[bx]?=J (Ag #[O U a.n,I SV a.sts.length ks] 27)) (h:SAt w' w.heap.size SV a.sts) (hB:w.heap.size<=w'.heap.size)=>kG a hf SV ks w.heap.size bx w' hb h hB);have mu:=zH (fun l hl=>hf.each (l:=l) hl);have aq:=zH (@jN a);have ai:=zH (@vK a);have au:=zH (fun h h2=>@jM a h h2 hf);have cJ:=zH (fun h h2=>@jO a h h2 hf);obtain⟨E,hE⟩:=Kh (xy a);rw[hE] at aq ai au cJ ⊢;have HS:=zH hS;clear hS hE hf;refine yA func127 rfl ?_;simp only[ntmps127,List.size_toArray,List.length_cons,List.length_nil,Nat.reduceAdd,Nat.reduceSub,Array.replicate_succ,Array.replicate_zero,List.push_toArray,List.append_toArray,List.nil_append,List.cons_append]
 by_cases hr:a.n<1\/5<a.n
 . have hR:=zH (aq.out hr)
   have HN:=zH hr;clear aq ai au cJ hr BS cN HI mu;go_wp2_with fail
   all_goals first | (exfalso;have:=HN.out;omega) | skip
   all_goals
    refine yD (B:=w.heap.size) (Marks.nil _ _) ?_;intro W hX;have c1:=hX.cell (za (zj (w.alloc (Ag #[O U a.n,I SV a.sts.length ks] 27)) (Ag #[O U 2] 42)) 0 rfl);rw[Nm] at c1;refine⟨O U 2,?_,zd hR.out.symm,(qt _ _ _).trans hX.below⟩;clear hX hR HN;simp[results,results127,go_sem,c1]
 have r1:¬a.n<1:=by omega
 have r2:¬5<a.n:=by omega
 have ai:=zH (ai.out hr);have au:=zH (au.out hr);have cJ:=zH (cJ.out hr);clear hr aq;go_wp2_with fail
 all_goals first | (exfalso;omega) | skip
 obtain⟨w2,cd,b0,b1,hsz,hB⟩:=yr w #[O U a.n,I SV a.sts.length ks] #[O U 0] 27 42;rw[cd];have H0:Ap (RsIn w.heap.size #[O U a.n,I SV a.sts.length ks] 27 0 w w2):=⟨hB,b0,b1⟩;have TV:=zH ((HS.out.keep hB).more hB.size);clear cd b0 b1 hB;refine(BS.out w2 TV.out).mono ?_;rintro e w3 ⟨rfl,hb⟩;have H1:=zH (H0.out.on hb hsz);have ij:w.heap.size+2<=w3.heap.size:=by have:=hb.size;omega
 obtain⟨q0,q1,_⟩:=Ka H1.out.b0;have p0:=za H1.out.b1 0 rfl;have f0:=zb H1.out.b1 0;clear hb TV H0 BS
 by_cases hz:a.sts.length<1
 . have hR:=zH (ai.out hz)
   rw[Lo hz];clear ai au cJ cN HI mu;go_wp2_with fail;refine yD (B:=w.heap.size) (Marks.nil _ _) ?_;intro W hX;have hI:=H1.out.set 5;have c1:=hI.cell hX;refine⟨O U 5,?_,zd hR.out.symm,hI.below.trans hX.below⟩;clear hX hR hI;simp[results,results127,go_sem,c1]
 have bN:1<=a.sts.length:=by omega
 rw[Li hz];have G3:=zH (au.out bN);have G4:=zH (cJ.out bN);clear ai hz au cJ;obtain⟨F,hF⟩:=Kh (zB a a.sts);have HF:Ap (F=zB a (a.sts.drop 0)):=by rw[LT];exact hF.symm
 have BQ:=zH (fun h=>@yY a (hF.trans h));rw[hF] at G3 G4;clear hF;have g1:=zH (fun k h=>@jo a a.sts k h);have g2:=zH (fun k h=>@jS a a.sts k h);have g3:=zH (fun k h=>@jn a a.sts k h);go_wp2_with fail
 all_goals first | (exfalso;omega) | skip
 clear q0 q1 p0 f0
 go_loopw [27] (fun i wr=>∃k:Nat,k<=a.sts.length/\i=O U (k:Int)/\Ap (F=zB a (a.sts.drop k))/\Ap (RsIn w.heap.size #[O U a.n,I SV a.sts.length ks] 27 0 w wr)/\w.heap.size+2<=wr.heap.size) (fun i _=>a.sts.length-(Ao i).toNat)
 case atStart=>exact⟨0,by omega,rfl,HF,H1,ij⟩
 obtain⟨k,hk,rfl,aj,pZ,rL⟩:=hrel;clear HF;obtain⟨q0,q1,_⟩:=Ka pZ.out.b0;have p0:=za pZ.out.b1 0 rfl;have f0:=zb pZ.out.b1 0
 by_cases aa:k<a.sts.length
 . have aF:=zH (g1.out k aa)
   have aB:=zH (g2.out k aa);obtain⟨b,o,A',k',e',dS,c1,hM⟩:=(HS.out.keep pZ.out.below).at_ k aa;have dC:=mu.out _ (Ld aa);have HC:=zH (cN.out A' k' (a.sts[k]'aa) dC);have Ub:=zH (hM.more pZ.out.below.size);obtain⟨L,hL⟩:=Kh (a.sts[k]);rw[hL] at c1 dC HC Ub aF aB;obtain⟨ev,cP⟩:=Kh (xF a L);rw[cP] at HC aF aB;subst e';clear hM hL cP g1 g2 g3 cN HI mu BQ;go_wp2_with fail;refine(HC.out _ Ub.out).mono ?_;rintro e w4 ⟨rfl,hb⟩;have H4:=zH (pZ.out.on hb rL);have mC:w.heap.size+2<=w4.heap.size:=by have:=hb.size;omega
   obtain⟨q0,q1,_⟩:=Ka H4.out.b0;have p0:=za H4.out.b1 0 rfl;have f0:=zb H4.out.b1 0;clear hb HC
   by_cases he:ev=0
   . subst he
     have hR:=zH (aj.out.trans (aB.out (by simp)));clear aF aB aj;go_wp2_with fail
     go_roundw
     case rel=>exact⟨k+1,by omega,by go_num,hR,H4,mC⟩
     simp[Ao];omega
   have ra:=aj.out.trans (aF.out he);have hR:=zH ((G3.out (by rw[ra];exact he)).trans ra);have e0:(ev != 0)=Ar:=by simpa using he
   clear aF aB aj G3 G4 ra he;go_wp2_with fail;refine yD (B:=w.heap.size) (Marks.nil _ _) ?_;intro W hX;have hI:=H4.out.set ev;have c1:=hI.cell hX;refine⟨O U ev,?_,zd hR.out.symm,hI.below.trans hX.below⟩;clear hX hR hI;simp[results,results127,go_sem,c1]
 obtain rfl:k=a.sts.length:=by omega
 have BE:F=0:=aj.out.trans (g3.out _ rfl);have hR:=zH (G4.out BE);have HZ:=zH (BQ.out BE);clear G3 G4 aj g1 g2 g3 cN BQ BE;go_wp2_with fail;refine(vu a.n (I SV a.sts.length ks) wr).mono ?_;rintro e W ⟨rfl,hW⟩;have bb:=zj wr (Ag #[O U a.n,I SV a.sts.length ks] 27);have bP:Am wr.heap.size wr W:=by rw[<-hW];exact zN _ _
 have aA:wr.heap.size<W.heap.size:=by rw[<-hW];simp
 rw[hW] at bb;have HW:=zH (pZ.out.on bP rL);have fJ:=zH (HI.out wr.heap.size W bb (HS.out.keep HW.out.below) (by omega));clear hW bb bP HI q0 q1 p0 f0;go_wp2_with fail
 refine kQ rfl (NV Rv (by kernel_rfl) rfl) fJ.out (by rintro k (h | rfl)<;>omega) (fun _=>rfl)
  (fun (pre:List { x:Int×Mv // x∈zD 0 a.sts }) X=>RsIn w.heap.size #[O U a.n,I SV a.sts.length ks] 27 0 w X/\(∀x∈pre,((a.at_ x.1.2.to).all fun k=>qj x.1.2 k)=Ar)/\W.heap.size<=X.heap.size)
  (fun c _ W=>c=.ret/\RsIn w.heap.size #[O U a.n,I SV a.sts.length ks] 27 21 w W/\yU a=As)
  (fun _ _ _ _ h hg hr=>⟨h.1.turn hg (fun r e=>⟨by have:=(hr r e).1;omega,(hr r e).2⟩),h.2.1,LE h.2.2 hg.size⟩) (fun _ _ _ _ _ ⟨h1,h2,h3⟩ hg hr=>⟨h1,h2.turn hg (fun r e=>⟨by have:=(hr r e).1;omega,(hr r e).2⟩),h3⟩)
  ⟨HW.out,(fun x hx=>by cases hx),Lh _⟩ (fun x=>x.2.cells) 70 ?a1 ?assign ?body ?done ?stop (fun _ _ h=>h.2.2)
 case assign=>
  intro l pre x X K hI hK;obtain⟨g,hg⟩:∃g,g=X.heap.size:=⟨_,rfl⟩;have HK:=zH (hK g hg ⟨hI.1.on (zN X _) (zc hI.1.b1),hI.2.1,by have:=hI.2.2;simp;omega⟩);have HG:=zH hg;unfold Mv.cells at HK ⊢;dsimp only at HK ⊢;clear hK hg hI;gi_wp2;rw[<-HG.out];exact HK.out
 case body=>
  intro l pre x g W1 hg eQ hI aa;obtain⟨iB,sh,iA⟩:=hI;obtain⟨z1,z2,z3,z4⟩:=HZ.out x.1.2 (ZV x.2);obtain⟨m,hm⟩:=Kh x.1.2;have HM:=zH hm;rw[hm] at z1 z2 z3 z4 eQ;obtain⟨f1,Fv,Ip⟩:=xr z1;obtain⟨t,et⟩:=Lr z3;have my:t<a.sts.length:=by omega
  have bK:a.at_ m.to=a.sts[t]:=by unfold Ad.at_;rw[et,Lj,Le,Lf my];rfl
  obtain⟨b,o,A',k',e',dS,c1,BA⟩:=(HS.out.keep iB.below).at_ t my;have dC:=mu.out _ (Ld my);have Ud:Ap (∀y∈a.sts[t],zS y.r=0):=fun y hy=>(HZ.out y (Nq.2 ⟨_,Ld my,hy⟩)).1
  obtain⟨L,hL⟩:=Kh (a.sts[t]);rw[hL] at c1 BA dC Ud bK;have lC:=zH bK;have tH:=zH iB;have F9:=zH sh;have HGB:=zH eQ;have sx:=zH (BA.more iB.below.size);obtain⟨q0,q1,_⟩:=Ka iB.b0;have u7:=za eQ 7 (u:=O U m.to) rfl;have u6:=za eQ 6 (u:=O U m.r.f) rfl;rw[et] at u7;have dx:=zc eQ;have aG:=zc iB.b1;have aq:=zH Fv;subst e';clear hm z1 z2 z3 z4 et Fv bK hL BA iB sh eQ aa;gi_wp2_with fail
  gi_loopw [49] (fun i wr=>∃j:Nat,j<=L.length/\i=O U (j:Int)/\Ap (∀k (h:k<L.length),k<j->qj m L[k]=Ar)/\Ap (Am W1.heap.size W1 wr)) (fun i _=>L.length-(Ao i).toNat)
  case atStart=>exact⟨0,by omega,rfl,(fun k h h0=>by omega),Ll _ _⟩
  obtain⟨j,hj,rfl,GG,az⟩:=hrel;clear q0 q1 u6 u7 c1
  by_cases bQ:j<L.length
  . obtain⟨b2,o2,rfl,af,m0,m1,m2,m3,m4,m5,m6,m7⟩:=(sx.out.keep az.out).row j bQ
    obtain⟨f2,sn,Io⟩:=xr (Ud.out _ (Ld bQ));have pP:qj m L[j]=decide (f1 &&& f2=f1):=by unfold qj;rw[aq.out,sn,Lj,Lj];rw[NG];simp
    have bu:L[j]∈L:=Ld bQ;obtain⟨y,hy⟩:=Kh (L[j]);have TQ:=zH hy;rw[hy] at m0 m1 m2 m3 m4 m5 m6 m7 pP sn bu;have HEF:=zH sn;have oS:=(az.out.block g dx).trans HGB.out;have u6:=za oS 6 (u:=O U m.r.f) rfl;have de:=tH.out.on az.out (by omega);have p0:=za de.b1 0 rfl;have f0:=zb de.b1 0;have CW:=zc oS;have bh:=zc de.b1;have T0:=zH de;have Cn:=zH pP;rw[sn] at m6;rw[aq.out] at u6;have GR:=zH (@Xr f2 f1 Io Ip);clear hy sn oS de pP bu
    by_cases hk:f1 &&& f2=f1
    . have hz:=GR.out.2 hk
      have GF:Ap (qj m y=Ar):=Cn.out.trans (Lm hk);clear GR Cn hk;gi_wp2_with fail
      go_roundw
      case rel=>
       refine⟨j+1,by omega,by go_num,fun k h h1=>?_,?_⟩
       . by_cases e:k=j
         . subst e;rw[TQ.out];exact GF.out
         exact GG.out k h (by omega)
       exact az.out.alloc az.out.size _
      simp[Ao];omega
    have hz:¬(bits BinOp.andNot U (f1:Int) (f2:Int)=0):=fun h=>hk (GR.out.1 h)
    have e0:(bits BinOp.andNot U (f1:Int) (f2:Int) != 0)=Ar:=by simpa using hz
    have KM:Ap (yU a=As):=by
     unfold yU Ap;rw[List.all_eq_false];refine⟨m,by rw[<-HM.out];exact ZV x.2,?_⟩;rw[lC.out];intro aT;have h1:=LP.1 aT y (by rw[<-TQ.out];exact Ld bQ);rw[Cn.out,Ln hk] at h1
     cases h1
    clear GR Cn hk hz;gi_wp2_with fail;have dO:=T0.out.set 21;refine⟨((qz az.out).trans (T0.out.keeps 21)).trans (qz (zN _ _)),rfl,dO.on (zN _ _) (zc dO.b1),KM.out⟩
  obtain rfl:j=L.length:=by omega
  gi_wp2_with fail;refine⟨qz az.out,KeepB.of_below az.out (by rintro k (h | rfl)<;>omega),tH.out.on az.out (by omega),?_,LE iA az.out.size⟩;intro y hy;rcases L8.1 hy with hy | hy
  . exact F9.out y hy
  simp only[List.mem_singleton] at hy;subst hy;rw[HM.out,lC.out,LP];intro z hz;obtain⟨k,hk,rfl⟩:=NL.1 hz;exact GG.out k hk hk
 case done=>
  intro D ys W1 hD iS hI fG
  have lp:yU a=Ar:=by
   unfold yU;rw[LP];intro m hm;have fT:m∈(zD 0 a.sts).map Prod.snd:=by rw[qy];exact hm
   obtain⟨x,hx,rfl⟩:=LO.1 fT;rw[<-iS] at hx;obtain⟨y,hy,rfl⟩:=LO.1 hx;exact hI.2.1 y hy
  have hE:=zH (hR.out.trans (Lo lp));have HI:=zH hI.1;have p0:=za HI.out.b1 0 rfl;have f0:=zb HI.out.b1 0;have HD:=zH fG;clear hI iS lp fG hR fJ HW;go_wp2_with fail;refine yD (B:=w.heap.size) (kH (by omega) ((HI.out.keeps (D:=D) 0).same D _ (Lh _) HD.out rfl)) ?_;intro X hX;have hI:=HI.out.set 0;have c1:=hI.cell hX;refine⟨O U 0,?_,zd hE.out.symm,hI.below.trans hX.below⟩;simp[results,results127,go_sem,c1]
 intro D c pre W1 hD IZ hI fG;obtain⟨rfl,hI,lp⟩:=hI;have hE:=zH (hR.out.trans (Li (by rw[lp];decide)));have HI:=zH hI;have HD:=zH fG;clear hI lp fG hR fJ HW IZ;go_wp2_with fail;refine yD (B:=w.heap.size) (kH (by omega) HD.out) ?_;intro X hX;have c1:=HI.out.cell hX;refine⟨O U 21,?_,zd hE.out.symm,HI.out.below.trans hX.below⟩;clear hX hE;simp[results,results127,go_sem,c1]
end
section
open Go.RowKit
attribute [local go_sem] Oper.semAt_some
def Pb.vs(p:Pb)(A:Bb)(kc:Nat)(SV:Bb)(ks:Nat):Array Aq:=#[O U p.t.n,O U p.t.ins,O U p.t.outs,I A p.t.cases.length kc,O U p.a.n,I SV p.a.sts.length ks,O U p.k]
theorem jC{p:Pb}(h:zX p.t≠0):zL p=zX p.t:=Lo h
theorem vm{p:Pb}(h:zX p.t=0)(h2:xy p.a≠0):zL p=xy p.a:=by unfold zL;rw[Li (by simpa using h),Lo h2]
theorem ZM{p:Pb}(h:zX p.t=0)(h2:xy p.a=0)(h3:p.t.n≠p.a.n):zL p=22:=by unfold zL;rw[Li (by simpa using h),Li (by simpa using h2),Lo h3]
theorem ZN{p:Pb}(h:zX p.t=0)(h2:xy p.a=0)(h3:p.t.n=p.a.n)(h4:p.k<0\/6<p.k):zL p=2:=by unfold zL;rw[Li (by simpa using h),Li (by simpa using h2),Li (by simpa using h3),Lo h4]
theorem YJ{p:Pb}(h:zX p.t=0)(h2:xy p.a=0)(h3:p.t.n=p.a.n)(h4:¬(p.k<0\/6<p.k)):zL p=0:=by unfold zL;rw[Li (by simpa using h),Li (by simpa using h2),Li (by simpa using h3),Li h4]
def Ya(p:Pb):Prop:=Z9 p.t/\FewA p.a
theorem XU(p:Pb)(hf:Ya p)(A:Bb)(kc:Nat)(SV:Bb)(ks:Nat)(w:Ba)(hA:CAt w w.heap.size A p.t.cases)(hS:SAt w w.heap.size SV p.a.sts) :
  An Al 76 #[.agg (p.vs A kc SV ks)] w fun e w'=>e=Ak (O U (zL p))/\Am w.heap.size w w':=by
 have HT:=zH (fun (w':Ba) (h:CAt w' w'.heap.size A p.t.cases)=>jx p.t A kc hf.1 w' h);have HD:=zH (fun (w':Ba) (h:SAt w' w'.heap.size SV p.a.sts)=>gt p.a hf.2 SV ks w' h);have aq:=zH (@jC p);have ai:=zH (@vm p);have au:=zH (@ZM p);have cJ:=zH (@ZN p);have fL:=zH (@YJ p);obtain⟨E,hE⟩:=Kh (zL p);rw[hE] at aq ai au cJ fL ⊢;obtain⟨tE,IQ⟩:=Kh (zX p.t);rw[IQ] at aq ai au cJ fL HT;obtain⟨aE,L'⟩:=Kh (xy p.a);rw[L'] at ai au cJ fL HD;unfold Pb.vs;obtain⟨w1,ac⟩:=Kh (w.alloc (Ag (p.vs A kc SV ks) 29));have aM:=zj w (Ag (p.vs A kc SV ks) 29);have al:Am w.heap.size w w1:=by rw[<-ac];exact zN w _
 have df:w1.heap.size=w.heap.size+1:=by rw[<-ac];simp
 rw[ac] at aM;unfold Pb.vs at ac aM;have bE:=zH aM;have aZ:=zH al;have HA:=zH ((hA.keep al).more (by omega:w.heap.size<=w1.heap.size));have HS:=zH ((hS.keep al).more (by omega:w.heap.size<=w1.heap.size));have ah:=zH ac;have q0:=za aM 0 rfl;clear hA hS ac al aM;go_enter func76,ntmps76;go_wp2_with fail;rw[ah.out];go_wp2_with fail;refine(HT.out w1 HA.out).mono ?_;rintro e w2 ⟨rfl,af⟩;have B2:=zH (aZ.out.trans (af.mono (by omega)));have cI:=zH ((HS.out.keep af).more af.size);have be:=La af bE.out;have aP:=zH be;have ef:=af.size;have q4:=za be 4 rfl;have q5:=za be 5 rfl
 by_cases h1:tE=0
 case neg=>
  have hR:=zH (aq.out h1);go_wp2_with fail;go_ret;exact⟨zd hR.out.symm,B2.out⟩
 case pos=>
 subst h1;have F2:=zH (ai.out (by simp));have F3:=zH (au.out (by simp));have F4:=zH (cJ.out (by simp));have F5:=zH (fL.out (by simp));go_wp2_with fail;refine(HD.out w2 cI.out).mono ?_;rintro e w3 ⟨rfl,am⟩;have B3:=zH (B2.out.trans (am.mono (by omega)));have be:=La am aP.out;have q0:=za be 0 rfl;have q4:=za be 4 rfl;have q6:=za be 6 rfl;clear am be HD q5
 by_cases h2:aE=0
 case neg=>
  have hR:=zH (F2.out h2);have e0:(aE != 0)=Ar:=by simpa using h2
  clear F2 F3 F4 F5 h2;go_wp2_with fail;go_ret;exact⟨zd hR.out.symm,B3.out⟩
 case pos=>
 subst h2;clear F2;have G3:=zH (F3.out (by simp));have G4:=zH (F4.out (by simp));have G5:=zH (F5.out (by simp));clear F3 F4 F5
 by_cases h3:p.t.n=p.a.n
 case neg=>
  have hR:=zH (G3.out h3);have e0:(p.t.n != p.a.n)=Ar:=by simpa using h3
  clear G3 G4 G5;go_wp2_with fail
  all_goals
   go_ret;exact⟨zd hR.out.symm,B3.out⟩
 case pos=>
 have K4:=zH (G4.out h3);have K5:=zH (G5.out h3);rw[h3] at q0
 by_cases h4:p.k<0\/6<p.k
 . have hR:=zH (K4.out h4)
   by_cases h5:p.k<0
   . clear h4
     go_wp2_with fail
     all_goals first | (exfalso;omega) | skip
     go_ret;exact⟨zd hR.out.symm,B3.out⟩
   have h6:6<p.k:=by omega
   go_wp2_with fail
   all_goals first | (exfalso;omega) | skip
   go_ret;exact⟨zd hR.out.symm,B3.out⟩
 have hR:=zH (K5.out h4);have h5:¬p.k<0:=by omega
 have h6:¬6<p.k:=by omega
 go_wp2_with fail
 all_goals first | (exfalso;omega) | skip
 go_ret;exact⟨zd hR.out.symm,B3.out⟩
theorem vW(p:Pb)(hf:Ya p)(A:Bb)(kc:Nat)(SV:Bb)(ks:Nat)(w:Ba)(hA:CAt w w.heap.size A p.t.cases)(hS:SAt w w.heap.size SV p.a.sts) :
  An Al 90 #[.agg (p.vs A kc SV ks)] w fun e w'=>e=Ak (O U (zL p))/\Am w.heap.size w w':=by
 have HT:=zH (fun (w':Ba) (h:CAt w' w'.heap.size A p.t.cases)=>Yu p.t A kc hf.1 w' h);have HD:=zH (fun (w':Ba) (h:SAt w' w'.heap.size SV p.a.sts)=>YF p.a hf.2 SV ks w' h);have aq:=zH (@jC p);have ai:=zH (@vm p);have au:=zH (@ZM p);have cJ:=zH (@ZN p);have fL:=zH (@YJ p);obtain⟨E,hE⟩:=Kh (zL p);rw[hE] at aq ai au cJ fL ⊢;obtain⟨tE,IQ⟩:=Kh (zX p.t);rw[IQ] at aq ai au cJ fL HT;obtain⟨aE,L'⟩:=Kh (xy p.a);rw[L'] at ai au cJ fL HD;unfold Pb.vs;obtain⟨w1,ac⟩:=Kh (w.alloc (Ag (p.vs A kc SV ks) 29));have aM:=zj w (Ag (p.vs A kc SV ks) 29);have al:Am w.heap.size w w1:=by rw[<-ac];exact zN w _
 have df:w1.heap.size=w.heap.size+1:=by rw[<-ac];simp
 rw[ac] at aM;unfold Pb.vs at ac aM;have bE:=zH aM;have aZ:=zH al;have HA:=zH ((hA.keep al).more (by omega:w.heap.size<=w1.heap.size));have HS:=zH ((hS.keep al).more (by omega:w.heap.size<=w1.heap.size));have ah:=zH ac;have q0:=za aM 0 rfl;clear hA hS ac al aM;go_enter func90,ntmps90;go_wp2_with fail;rw[ah.out];go_wp2_with fail;refine(HT.out w1 HA.out).mono ?_;rintro e w2 ⟨rfl,af⟩;have B2:=zH (aZ.out.trans (af.mono (by omega)));have cI:=zH ((HS.out.keep af).more af.size);have be:=La af bE.out;have aP:=zH be;have ef:=af.size;have q4:=za be 4 rfl;have q5:=za be 5 rfl
 by_cases h1:tE=0
 case neg=>
  have hR:=zH (aq.out h1);go_wp2_with fail;go_ret;exact⟨zd hR.out.symm,B2.out⟩
 case pos=>
 subst h1;have F2:=zH (ai.out (by simp));have F3:=zH (au.out (by simp));have F4:=zH (cJ.out (by simp));have F5:=zH (fL.out (by simp));go_wp2_with fail;refine(HD.out w2 cI.out).mono ?_;rintro e w3 ⟨rfl,am⟩;have B3:=zH (B2.out.trans (am.mono (by omega)));have be:=La am aP.out;have q0:=za be 0 rfl;have q4:=za be 4 rfl;have q6:=za be 6 rfl;clear am be HD q5
 by_cases h2:aE=0
 case neg=>
  have hR:=zH (F2.out h2);have e0:(aE != 0)=Ar:=by simpa using h2
  clear F2 F3 F4 F5 h2;go_wp2_with fail;go_ret;exact⟨zd hR.out.symm,B3.out⟩
 case pos=>
 subst h2;clear F2;have G3:=zH (F3.out (by simp));have G4:=zH (F4.out (by simp));have G5:=zH (F5.out (by simp));clear F3 F4 F5
 by_cases h3:p.t.n=p.a.n
 case neg=>
  have hR:=zH (G3.out h3);have e0:(p.t.n != p.a.n)=Ar:=by simpa using h3
  clear G3 G4 G5;go_wp2_with fail
  all_goals
   go_ret;exact⟨zd hR.out.symm,B3.out⟩
 case pos=>
 have K4:=zH (G4.out h3);have K5:=zH (G5.out h3);rw[h3] at q0
 by_cases h4:p.k<0\/6<p.k
 . have hR:=zH (K4.out h4)
   by_cases h5:p.k<0
   . clear h4
     go_wp2_with fail
     all_goals first | (exfalso;omega) | skip
     go_ret;exact⟨zd hR.out.symm,B3.out⟩
   have h6:6<p.k:=by omega
   go_wp2_with fail
   all_goals first | (exfalso;omega) | skip
   go_ret;exact⟨zd hR.out.symm,B3.out⟩
 have hR:=zH (K5.out h4);have h5:¬p.k<0:=by omega
 have h6:¬6<p.k:=by omega
 go_wp2_with fail
 all_goals first | (exfalso;omega) | skip
 go_ret;exact⟨zd hR.out.symm,B3.out⟩
def gu(p:Pb):Prop:=LowT p.t/\LowA p.a
theorem pb_eq{a b:Pb}(h1:a.t=b.t)(h2:a.a=b.a)(h3:a.k=b.k):a=b:=by cases a;cases b;simp_all
theorem XJ(a b:Pb)(ha:gu a)(hb:gu b)(A B SA SB:Bb)(ca cb sa sb:Nat)(w:Ba)(hA:CAt w w.heap.size A a.t.cases)(hB:CAt w w.heap.size B b.t.cases)(Bu:SAt w w.heap.size SA a.a.sts)(SZ:SAt w w.heap.size SB b.a.sts) :
  An Al 138 #[.agg (a.vs A ca SA sa),.agg (b.vs B cb SB sb)] w fun e w'=>e=Ak (Ah (decide (a=b)))/\Am w.heap.size w w':=by
 obtain⟨w1,ac,d0,d1,aA,bZ⟩:=yr w (a.vs A ca SA sa) (b.vs B cb SB sb) 29 29;have ri:=zH (XH a.t b.t ha.1 hb.1 A B ca cb w1 ((hA.keep bZ).more bZ.size) ((hB.keep bZ).more bZ.size));have OK:=zH (fun (W:Ba) (hW:Am w1.heap.size w1 W)=>XK a.a b.a ha.2 hb.2 SA SB sa sb W ((((Bu.keep bZ).more bZ.size).keep hW).more hW.size) ((((SZ.keep bZ).more bZ.size).keep hW).more hW.size));unfold Pb.vs at ac d0 d1 ⊢;have bg:=zH bZ;have bD:=zH d0;have cH:=zH d1;have ah:=zH ac;have q2:=za d1 2 rfl;have q3:=za d1 3 rfl;have q6:=za d1 6 rfl;clear ac d0 d1 bZ hA hB Bu SZ ha hb;have HT:Ap (a≠b->decide (a=b)=As):=fun h=>Ln h
 have HU:Ap (a=b->decide (a=b)=Ar):=fun h=>Lm h
 obtain⟨r,hr⟩:∃r,decide (a=b)=r:=⟨_,rfl⟩;rw[hr] at HT HU ⊢;clear hr;have HE:=zH (@pb_eq a b);go_enter func138,ntmps138
 by_cases h1:a.k=b.k
 case neg=>
  have hR:=zH (HT.out (fun h=>h1 (congrArg Pb.k h)));have e0:(a.k==b.k)=As:=by simpa using h1
  clear HT HU HE h1 ri OK;go_wp2_with fail;rw[ah.out];go_wp2_with fail
  all_goals
   go_ret;exact⟨ze hR.out.symm,bg.out⟩
 case pos=>
 have e0:(a.k==b.k)=Ar:=by simpa using h1
 have ai:Ap (a.t=b.t->a.a=b.a->a=b):=fun x y=>HE.out x y h1
 clear HE h1;have h1:=ri
 by_cases h2:a.t=b.t
 case neg=>
  have hR:=zH (HT.out (fun h=>h2 (congrArg Pb.t h)));rw[Ln h2] at h1;clear HT HU ai h2 ri OK;go_wp2_with fail;rw[ah.out];go_wp2_with fail;refine h1.out.mono ?_;rintro e w2 ⟨rfl,af⟩;go_wp2_with fail;go_ret;exact⟨ze hR.out.symm,Lc bg.out af⟩
 case pos=>
 rw[Lm h2] at h1;have au:Ap (a.a=b.a->a=b):=fun y=>ai.out h2 y
 clear ai ri h2;go_wp2_with fail;rw[ah.out];go_wp2_with fail;refine h1.out.mono ?_;rintro e w2 ⟨rfl,af⟩;have d0:=La af bD.out;have d1:=La af cH.out;have p4:=za d0 4 rfl;have p5:=za d0 5 rfl;have q4:=za d1 4 rfl;have q5:=za d1 5 rfl;have HC:=zH (OK.out w2 af);have aP:=zH (Lc bg.out af);go_wp2_with fail;refine HC.out.mono ?_;rintro e w3 ⟨rfl,am⟩;have bk:=zH (Lc aP.out am)
 have hR:Ap (decide (a.a=b.a)=r):=by
  by_cases h3:a.a=b.a
  . show _=_;rw[Lm h3,HU.out (au.out h3)]
  show _=_;rw[Ln h3,HT.out (fun h=>h3 (congrArg Pb.a h))]
 go_wp2_with fail;go_ret;exact⟨ze hR.out,bk.out⟩
def QG(x:Exn):Prop:=x.word.length<=17592186044416/\x.views.length<=17592186044416/\∀v∈x.views,v.length<=17592186044416
theorem exn_eq{x y:Exn}(h1:x.c=y.c)(h2:x.word=y.word)(h3:x.views=y.views):x=y:=by cases x;cases y;simp_all
theorem XG(x y:Exn)(hx:QG x)(hy:QG y)(A1 A2 B1 B2:Bb)(a1 a2 b1 b2:Nat)(w:Ba)(lB:RAt w w.heap.size A1 x.word)(Fu:LAt w w.heap.size A2 x.views)(aG:RAt w w.heap.size B1 y.word)(bP:LAt w w.heap.size B2 y.views) :
  An Al 140 #[Ai #[O U x.c,I A1 x.word.length a1,I A2 x.views.length a2],Ai #[O U y.c,I B1 y.word.length b1,I B2 y.views.length b2]] w fun e w'=>e=Ak (Ah (decide (x=y)))/\Am w.heap.size w w':=by
 obtain⟨oo,Gr,O'⟩:=hx;obtain⟨IC,DJ,O6⟩:=hy;have tw:=zH O';have sr:=zH O6;obtain⟨w1,ac,d0,d1,aA,hB⟩:=yr w #[O U x.c,I A1 x.word.length a1,I A2 x.views.length a2] #[O U y.c,I B1 y.word.length b1,I B2 y.views.length b2] 49 49;have HS:=zH (ur A1 B1 a1 b1 x.word y.word oo IC w1 ((lB.keep hB).more hB.size) ((aG.keep hB).more hB.size));have lg:=zH ((Fu.keep hB).more hB.size);have sy:=zH ((bP.keep hB).more hB.size);have bg:=zH hB;have bD:=zH d0;have cH:=zH d1;have ah:=zH ac;have p0:=za d0 0 rfl;have p2:=za d0 2 rfl;have q1:=za d1 1 rfl;have q2:=za d1 2 rfl;clear ac d0 d1 hB lB Fu aG bP O' O6;have HT:Ap (x≠y->decide (x=y)=As):=fun h=>Ln h
 have HU:Ap (x=y->decide (x=y)=Ar):=fun h=>Lm h
 obtain⟨r,hr⟩:∃r,decide (x=y)=r:=⟨_,rfl⟩;rw[hr] at HT HU ⊢;clear hr;go_enter func140,ntmps140
 by_cases h1:x.c=y.c
 case neg=>
  have hR:=zH (HT.out (fun h=>h1 (congrArg Exn.c h)));have e0:(x.c != y.c)=Ar:=by simpa using h1
  clear HT HU HS;go_wp2_with fail;rw[ah.out];go_wp2_with fail
  all_goals
   go_ret;exact⟨ze hR.out.symm,bg.out⟩
 case pos=>
 have H1:=zH h1;rw[h1] at p0 ah bD;clear h1;go_wp2_with fail;rw[ah.out];go_wp2_with fail;refine HS.out.mono ?_;rintro e w2 ⟨rfl,m,cd⟩;have af:Am w1.heap.size w1 w2:=by rw[cd];exact zO (Ll _ _) m
 have aP:=zH af;have p2:=za (La af bD.out) 2 rfl;have q2:=za (La af cH.out) 2 rfl;clear af cd HS ah q1 p0
 by_cases h2:x.word=y.word
 case neg=>
  have hR:=zH (HT.out (fun h=>h2 (congrArg Exn.word h)));rw[Ln h2];clear HT HU;go_wp2_with fail;go_ret;exact⟨ze hR.out.symm,Lc bg.out aP.out⟩
 case pos=>
 have H2:=zH h2;rw[Lm h2];clear h2
 by_cases h3:x.views.length=y.views.length
 case neg=>
  have hR:=zH (HT.out (fun h=>h3 (by rw[h])));have e0:((x.views.length:Int) != (y.views.length:Int))=Ar:=by simp;omega
  have e1:¬((x.views.length:Int)=(y.views.length:Int)):=by omega
  clear HT HU h3;go_wp2_with fail;go_ret;exact⟨ze hR.out.symm,Lc bg.out aP.out⟩
 case pos=>
 have HL:=zH h3;have H3:Ap (x.views=y.views->r=Ar):=fun h=>HU.out (exn_eq H1.out H2.out h)
 have H4:Ap (x.views≠y.views->r=As):=fun h=>HT.out (fun e=>h (congrArg Exn.views e))
 rw[<-h3] at q2 DJ;clear HT HU h3;go_wp2_with fail;clear p2 q2
 go_loopw [5] (fun i wr=>∃k:Nat,k<=x.views.length/\i=O U (k:Int)/\Ap (x.views.take k=y.views.take k)/\Ap (Am w1.heap.size w1 wr)) (fun i _=>x.views.length-(Ao i).toNat)
 case atStart=>exact⟨0,by omega,rfl,by rw[Ap,LI,LI],aP⟩
 obtain⟨k,hk,rfl,hp,hb⟩:=hrel;have p2:=za (La hb.out bD.out) 2 rfl;have q2:=za (La hb.out cH.out) 2 rfl;have Og:=HL.out;rw[<-HL.out] at q2
 by_cases aa:k<x.views.length
 case neg=>
  obtain rfl:k=x.views.length:=by omega
  have hR:=zH (H3.out (xQ HL.out hp.out));go_wp2_with fail;go_ret;exact⟨ze hR.out.symm,Lc bg.out hb.out⟩
 case pos=>
 have eq:k<y.views.length:=by omega
 obtain⟨ba,oa,A',k1,ea,_,a0,IA⟩:=(lg.out.keep hb.out).at_ k aa;obtain⟨bb,ob,B',k2,eb,_,b0,IB⟩:=(sy.out.keep hb.out).at_ k eq;subst ea;subst eb;have lj:=tw.out _ (Ld aa);have fh:=sr.out _ (Ld eq);have hc:=fun (p:Nat)=>gB A' B' k1 k2 x.views[k] y.views[k] lj fh (wr.drewN p) (IA.more hb.out.size) (IB.more hb.out.size)
 have h0:Ap (x.views[k]=y.views[k]->x.views.take (k+1)=y.views.take (k+1)):=fun he=>yH hp.out aa eq he
 have hN:Ap (x.views[k]≠y.views[k]->r=As):=fun he=>H4.out (fun h=>he (by simp only[h]))
 by_cases he:x.views[k]=y.views[k]
 . have hR:=zH (h0.out he)
   rw[Lm he] at hc;obtain⟨la,pN⟩:=Kh (x.views[k].length);obtain⟨lb,oQ⟩:=Kh (y.views[k].length);rw[pN] at a0 hc lj;rw[oQ] at b0 hc fh;have HC:=zH hc;go_wp2_with fail;go_quiet ((go_at_call 163;first | exact zV (HC.out _) | exact Nf (HC.out _)));go_wp2_with fail
   go_roundw
   case rel=>exact⟨k+1,by omega,by go_num,hR,zO hb.out _⟩
   simp[Ao];omega
 have hR:=zH (hN.out he);rw[Ln he] at hc;obtain⟨la,pN⟩:=Kh (x.views[k].length);obtain⟨lb,oQ⟩:=Kh (y.views[k].length);rw[pN] at a0 hc lj;rw[oQ] at b0 hc fh;have HC:=zH hc;go_wp2_with fail;go_quiet ((go_at_call 163;first | exact zV (HC.out _) | exact Nf (HC.out _)));go_wp2_with fail;go_ret;exact⟨ze hR.out.symm,zO (Lc bg.out hb.out) _⟩
end
section
def qs(f:Nat->Int):Nat->Int
 | 0=>0
 | k+1=>if qs f k=0 then f k else qs f k
theorem vD{f:Nat->Int}{k:Nat}(h:qs f k=0):qs f (k+1)=f k:=by simp[qs,h]
theorem J8{f:Nat->Int}{k:Nat}(h:qs f k≠0):∀m,k<=m->qs f m=qs f k:=by
 intro m hm
 induction m with
 | zero => obtain rfl : k = 0 := by omega
           rfl
 | succ m ih=>
  by_cases e:k=m+1
  . subst e;rfl
  . have:=ih (by omega)
    simp only[qs];rw[Li (by rw[this];exact h),this]
theorem Y7{f:Nat->Int}{k m:Nat}(h:qs f k=0)(hf:f k≠0)(hm:k<m):qs f m=f k:=by
 have h1:=vD h;rw[J8 (k:=k+1) (by rw[h1];exact hf) m (by omega),h1]
theorem Zl{f:Nat->Int}:∀ {m:Nat},qs f m=0↔∀k,k<m->f k=0
 | 0=>by simp[qs]
 | m+1=>by
  have ih:=Zl (f:=f) (m:=m);simp only[qs];constructor
  . intro h k hk
    by_cases e:qs f m=0
    . rw[Lo e] at h
      by_cases ek:k=m
      . subst ek;exact h
      . exact ih.1 e k (by omega)
    . rw[Li e] at h;exact absurd h e
  . intro h
    have e:qs f m=0:=ih.2 fun k hk=>h k (by omega)
    rw[Lo e];exact h m (by omega)
def Y6(vs:List Vw)(i:Nat):Vw:=vs.getD i default
theorem Z1{vs:List Vw}{i:Nat}(h:i<vs.length):Y6 vs i=vs[i]:=by simp[Y6,h]
end
section
open Go.RowKit
def qr(vs:List Vw)(v:Vw):Int:=if v∈vs then (vs.idxOf v:Int) else -1
theorem Y3{vs:List Vw}{v:Vw}{k:Nat}(hk:k<vs.length)(hv:vs[k]=v)(hn:v∉vs.take k):qr vs v=k:=by
 have hm:v∈vs:=hv▸Ld hk;unfold qr;rw[Lo hm];have h1:vs=vs.take k++vs.drop k:=(Pp k vs).symm;rw[h1,NY,Li hn];have h2:vs.drop k=v::vs.drop (k+1):=by rw[<-hv];exact Lz hk
 rw[h2,List.idxOf_cons_self];simp;omega
theorem JX{vs:List Vw}{v:Vw}(hn:v∉vs):qr vs v=-1:=by unfold qr;rw[Li hn]
theorem Y1{vs:List Vw}{v:Vw}(hv:v∈vs):0<=qr vs v:=by unfold qr;rw[Lo hv];omega
theorem ZT{vs:List Vw}{v:Vw}{k:Nat}(hk:k<vs.length)(hv:vs[k]≠v)(hn:v∉vs.take k):v∉vs.take (k+1):=by
 rw[Ls hk,L8,not_or];exact⟨hn,by simpa using fun e=>hv e.symm⟩
theorem JV(n:Int)(A:Bb)(cap:Nat)(vs:List Vw)(v:Vw)(w:Ba)(B:Nat)(hB:B<=w.heap.size)(hA:VAt w B A vs)(hl:vs.length<=2199023255552) :
  An Al 159 #[Ai #[O U n,I A vs.length cap],.agg v.cells] w fun e w'=>e=Ak (O U (qr vs v))/\Am w.heap.size w w':=by
 have HB:=qt w;have HE:Ap (∀k (hk:k<vs.length) (X:Ba),(binOp .eql 144 (.agg vs[k].cells) (.agg v.cells)).run Al X=.ok (Ah (decide (vs[k]=v))) X):=fun k hk X=>eql_view vs[k] v X
 unfold Vw.cells at HE ⊢;go_enter func159,ntmps159;go_wp2
 go_loopw [5] (fun i wr=>∃k m:Nat,k<=vs.length/\i=O U k/\wr=((w.alloc (Ag #[O U n,I A vs.length cap] 36)).alloc (Ag #[O U v.p,O U v.r,O U v.i,O U v.h0,O U v.h1,O U v.h2,O U v.h3,O U v.h4] 144)).drewN m/\Ap (v∉vs.take k)) (fun i _=>vs.length-(Ao i).toNat)
 case atStart=>exact⟨0,0,by omega,rfl,rfl,by show v∉vs.take 0;simp⟩
 obtain⟨k,m,hk,rfl,rfl,aT⟩:=hrel
 by_cases aa:k<vs.length
 . obtain⟨b,off,rfl,aH,c0,c1,c2,c3,c4,c5,c6,c7⟩:=hA.row k aa
   have af:b<w.heap.size:=by omega
   have iZ:=HE.out k aa
   by_cases hv:vs[k]=v
   . have lW:∀X:Ba,_:=fun X=>(iZ X).trans (by rw[Lm hv])
     have hz:Ap (qr vs v=k):=Y3 aa hv aT.out;clear iZ hv;go_wp2;go_quiet (fail);go_wp2;go_ret;exact⟨zd hz.out.symm,by repeat (first | exact HB _ _ | refine zO ?_ _)⟩
   have lW:∀X:Ba,_:=fun X=>(iZ X).trans (by rw[Ln hv])
   have hz:Ap (v∉vs.take (k+1)):=ZT aa hv aT.out;go_wp2;go_quiet (fail);go_wp2
   go_roundw
   case rel=>exact⟨k+1,_,by omega,by go_num,rfl,hz⟩
   simp[Ao];omega
 have hz:Ap (qr vs v=-1):=JX (by have:=aT.out;rwa[NB (by omega)] at this);go_wp2;go_ret;exact⟨zd hz.out.symm,by repeat (first | exact HB _ _ | refine zO ?_ _)⟩
theorem qi{α:Type}{vs us:List α}{k:Nat}(hk:k<vs.length)(dw:k<us.length)(h:vs[k]≠us[k]):vs≠us:=by
 rintro rfl;exact h rfl
theorem qn{α:Type}{vs us:List α}(hl:vs.length=us.length)(h:vs.take vs.length=us.take vs.length):vs=us:=by
 rw[LC] at h;rw[h,hl,LC]
theorem vd{α:Type}{vs us:List α}{k:Nat}(hk:k<vs.length)(dw:k<us.length)(h:vs.take k=us.take k)(he:vs[k]=us[k]):vs.take (k+1)=us.take (k+1):=by
 rw[Ls hk,Ls dw,h,he]
theorem same_any(n n':Int)(A A':Bb)(cap cap':Nat)(vs us:List Vw)(w:Ba)(B:Nat)(hB:B<=w.heap.size)(hA:VAt w B A vs)(mf:VAt w B A' us)(hl:vs.length<=2199023255552)(EA:us.length<=2199023255552) :
  An Al 139 #[Ai #[O U n,I A vs.length cap],Ai #[O U n',I A' us.length cap']] w fun e w'=>e=Ak (Ah (decide (n=n'/\vs=us)))/\Am w.heap.size w w':=by
 have HB:=qt w;have HE:Ap (∀k (hk:k<vs.length) (dw:k<us.length) (X:Ba),(binOp .neq 144 (.agg vs[k].cells) (.agg us[k].cells)).run Al X=.ok (Ah (decide (vs[k]≠us[k]))) X):=fun k hk dw X=>YS vs[k] us[k] X
 unfold Vw.cells at HE
 by_cases hn:n=n'
 . by_cases aD:vs.length=us.length
   . have H:Ap (decide (n=n'/\vs=us)=decide (vs=us)):=by show decide (n=n'/\vs=us)=_;simp[hn]
     have HL:=zH aD;rw[H.out];have en:(n != n')=As:=by simp[hn]
     have iu:((vs.length:Int) != (us.length:Int))=As:=by simp[aD]
     clear hn aD H;go_enter func139,ntmps139;go_wp2
     go_loopw [5] (fun i wr=>∃k m:Nat,k<=vs.length/\i=O U k/\wr=((w.alloc (Ag #[O U n,I A vs.length cap] 36)).alloc (Ag #[O U n',I A' us.length cap'] 36)).drewN m/\Ap (vs.take k=us.take k)) (fun i _=>vs.length-(Ao i).toNat)
     case atStart=>exact⟨0,0,by omega,rfl,rfl,by show vs.take 0=us.take 0;simp⟩
     obtain⟨k,m,hk,rfl,rfl,aT⟩:=hrel;have dQ:k<=us.length:=by have:=HL.out;omega
     by_cases aa:k<vs.length
     . have cp:k<us.length:=by have:=HL.out;omega
       obtain⟨b,off,rfl,aH,c0,c1,c2,c3,c4,c5,c6,c7⟩:=hA.row k aa;have af:b<w.heap.size:=by omega
       obtain⟨b',ie,rfl,rZ,d0,d1,d2,d3,d4,d5,d6,d7⟩:=mf.row k cp;have Wq:b'<w.heap.size:=by omega
       have iZ:=HE.out k aa cp
       by_cases hv:vs[k]=us[k]
       . have lW:∀X:Ba,_:=fun X=>(iZ X).trans (by rw[Ln (by simpa using hv)])
         have hz:Ap (vs.take (k+1)=us.take (k+1)):=vd aa cp aT.out hv;clear iZ hv;go_wp2;go_quiet (fail);go_wp2
         go_roundw
         case rel=>exact⟨k+1,_,by omega,by go_num,rfl,hz⟩
         simp[Ao];omega
       have lW:∀X:Ba,_:=fun X=>(iZ X).trans (by rw[Lm hv])
       have hz:Ap (decide (vs=us)=As):=Ln (qi aa cp hv);go_wp2;go_quiet (fail);go_wp2;go_ret;exact⟨ze hz.out.symm,by repeat (first | exact HB _ _ | refine zO ?_ _)⟩
     obtain rfl:k=vs.length:=by omega
     have hz:Ap (decide (vs=us)=Ar):=Lm (qn HL.out aT.out);go_wp2;go_ret;exact⟨ze hz.out.symm,by repeat (first | exact HB _ _ | refine zO ?_ _)⟩
   have hz:Ap (decide (n=n'/\vs=us)=As):=Ln (by rintro⟨_,rfl⟩;exact aD rfl);have en:(n != n')=As:=by simp[hn]
   have iu:((vs.length:Int) != (us.length:Int))=Ar:=by simp;omega
   go_enter func139,ntmps139;go_wp2;go_ret;exact⟨ze hz.out.symm,by repeat (first | exact HB _ _ | refine zO ?_ _)⟩
 have hz:Ap (decide (n=n'/\vs=us)=As):=Ln (by rintro⟨h,_⟩;exact hn h);have en:(n != n')=Ar:=by simpa using hn
 go_enter func139,ntmps139;go_wp2;go_ret;exact⟨ze hz.out.symm,by repeat (first | exact HB _ _ | refine zO ?_ _)⟩
end
section
open Go.RowKit
attribute [local go_sem] Oper.semAt_some
def Sy.vs_(s:Sy)(A:Bb)(kc:Nat)(SV:Bb)(ks:Nat)(AV:Bb)(kv:Nat)(AX:Bb)(kx:Nat):Array Aq:=
 #[O U s.p.t.n,O U s.p.t.ins,O U s.p.t.outs,I A s.p.t.cases.length kc,O U s.p.a.n,I SV s.p.a.sts.length ks,O U s.p.k,O U s.n,I AV s.vs.length kv,I AX s.xs.length kx]
structure LowS(s:Sy):Prop where
 fp:gu s.p
 fv:s.vs.length<=2199023255552
 fx:s.xs.length<=2199023255552
 fe:∀x∈s.xs,QG x
structure SyAt(w:Ba)(B:Nat)(A SV AV AX:Bb)(s:Sy):Prop where
 fc:CAt w B A s.p.t.cases
 fs:SAt w B SV s.p.a.sts
 fv:VAt w B AV s.vs
 fx:XAt w B AX s.xs
theorem SyAt.keep{w w':Ba}{B:Nat}{A SV AV AX:Bb}{s:Sy}(h:SyAt w B A SV AV AX s)(hb:Am B w w'):SyAt w' B A SV AV AX s:=⟨h.fc.keep hb,h.fs.keep hb,h.fv.keep hb,h.fx.keep hb⟩
theorem SyAt.more{w:Ba}{B B':Nat}{A SV AV AX:Bb}{s:Sy}(h:SyAt w B A SV AV AX s)(hB:B<=B'):SyAt w B' A SV AV AX s:=⟨h.fc.more hB,h.fs.more hB,h.fv.more hB,h.fx.more hB⟩
theorem SyAt.up{w w':Ba}{A SV AV AX:Bb}{s:Sy}(h:SyAt w w.heap.size A SV AV AX s)(hb:Am w.heap.size w w'):SyAt w' w'.heap.size A SV AV AX s:=(h.keep hb).more hb.size
theorem sy_eq{a b:Sy}(h1:a.p=b.p)(h2:a.n=b.n/\a.vs=b.vs)(h3:a.xs=b.xs):a=b:=by cases a;cases b;simp_all
theorem XI(a b:Sy)(ha:LowS a)(hb:LowS b)(A SA AV AX B SB BV BX:Bb)(ca sa av ax cb sb bv bx:Nat)(w:Ba)(hA:SyAt w w.heap.size A SA AV AX a)(hB:SyAt w w.heap.size B SB BV BX b) :
  An Al 93 #[.agg (a.vs_ A ca SA sa AV av AX ax),.agg (b.vs_ B cb SB sb BV bv BX bx)] w fun e w'=>e=Ak (Ah (decide (a=b)))/\Am w.heap.size w w':=by
 obtain⟨w1,ac,d0,d1,aA,bZ⟩:=yr w (a.vs_ A ca SA sa AV av AX ax) (b.vs_ B cb SB sb BV bv BX bx) 39 39;have lB:=hA.up bZ;have aG:=hB.up bZ;have T8:=zH (XJ a.p b.p ha.fp hb.fp A B SA SB ca cb sa sb w1 lB.fc aG.fc lB.fs aG.fs);have tz:=zH (fun (W:Ba) (hW:Am w1.heap.size w1 W)=>same_any a.n b.n AV BV av bv a.vs b.vs W W.heap.size (Lh _) (lB.up hW).fv (aG.up hW).fv ha.fv hb.fv);have tw:=zH ha.fe;have sr:=zH hb.fe;have hax:=ha.fx;have aV:=hb.fx;have HA:=zH lB.fx;have HB:=zH aG.fx;unfold Pb.vs at T8;unfold Sy.vs_ at ac d0 d1 ⊢;have bg:=zH bZ;have bD:=zH d0;have cH:=zH d1;have ah:=zH ac;have q6:=za d1 6 rfl;clear ac d0 d1 bZ hA hB lB aG ha hb;have HT:Ap (a≠b->decide (a=b)=As):=fun h=>Ln h
 have HU:Ap (a=b->decide (a=b)=Ar):=fun h=>Lm h
 obtain⟨r,hr⟩:∃r,decide (a=b)=r:=⟨_,rfl⟩;rw[hr] at HT HU ⊢;clear hr;have HE:=zH (@sy_eq a b);go_enter func93,ntmps93;go_wp2_with fail;rw[ah.out];go_wp2_with fail;refine T8.out.mono ?_;rintro e w2 ⟨rfl,af⟩;have d0:=La af bD.out;have d1:=La af cH.out;have aP:=zH af
 by_cases h1:a.p=b.p
 case neg=>
  have hR:=zH (HT.out (fun h=>h1 (congrArg Sy.p h)));rw[Ln h1];go_wp2_with fail
  all_goals
   go_ret;exact⟨ze hR.out.symm,Lc bg.out aP.out⟩
 case pos=>
 have ai:=zH (HE.out h1);rw[Lm h1];have p7:=za d0 7 rfl;have p8:=za d0 8 rfl;have q7:=za d1 7 rfl;have q8:=za d1 8 rfl;go_wp2_with fail;refine(tz.out w2 aP.out).mono ?_;rintro e w3 ⟨rfl,am⟩;have bk:=zH (Lc aP.out am);have d0:=La bk.out bD.out;have d1:=La bk.out cH.out
 by_cases h1:a.n=b.n/\a.vs=b.vs
 case neg=>
  have hR:=zH (HT.out (fun h=>h1 ⟨congrArg Sy.n h,congrArg Sy.vs h⟩));rw[Ln h1];go_wp2_with fail
  all_goals
   go_ret;exact⟨ze hR.out.symm,Lc bg.out bk.out⟩
 case pos=>
 have H3:Ap (a.xs=b.xs->r=Ar):=fun h=>HU.out (ai.out h1 h)
 have H4:Ap (a.xs≠b.xs->r=As):=fun h=>HT.out (fun e=>h (congrArg Sy.xs e))
 rw[Lm h1];have p9:=za d0 9 rfl;have q9:=za d1 9 rfl
 by_cases h3:a.xs.length=b.xs.length
 case neg=>
  have hR:=zH (H4.out (fun h=>h3 (by rw[h])));have e0:((a.xs.length:Int) != (b.xs.length:Int))=Ar:=by simp;omega
  go_wp2_with fail
  all_goals
   go_ret;exact⟨ze hR.out.symm,Lc bg.out bk.out⟩
 case pos=>
 have HL:=zH h3;rw[<-h3] at q9 aV cH ⊢;go_wp2_with fail
 go_loopw [5] (fun i wr=>∃k:Nat,k<=a.xs.length/\i=O U (k:Int)/\Ap (a.xs.take k=b.xs.take k)/\Ap (Am w1.heap.size w1 wr)) (fun i _=>a.xs.length-(Ao i).toNat)
 case atStart=>exact⟨0,by omega,rfl,by rw[Ap,LI,LI],bk.out⟩
 obtain⟨k,hk,rfl,hp,az⟩:=hrel;have p9:=za (La az.out bD.out) 9 rfl;have q9:=za (La az.out cH.out) 9 rfl
 by_cases aa:k<a.xs.length
 case neg=>
  obtain rfl:k=a.xs.length:=by omega
  have hR:=zH (H3.out (xQ HL.out hp.out));go_wp2_with fail;go_ret;exact⟨ze hR.out.symm,Lc bg.out az.out⟩
 case pos=>
 have eq:k<b.xs.length:=by have:=HL.out;omega
 have fw:=az.out.size;obtain⟨ba,oa,A1,c1,A2,c2,ea,GP,a0,a1,a2,FD,FC⟩:=(HA.out.keep az.out).row k aa;obtain⟨bb,ob,B1,n1,B2,n2,eb,aM,b0,b1,b2,FB,FA⟩:=(HB.out.keep az.out).row k eq;subst ea;subst eb;have HC:=zH (fun (W:Ba) (hW:Am wr.heap.size wr W)=>XG a.xs[k] b.xs[k] (tw.out _ (Ld aa)) (sr.out _ (Ld eq)) A1 A2 B1 B2 c1 c2 n1 n2 W (((FD.more fw).keep hW).more hW.size) (((FC.more fw).keep hW).more hW.size) (((FB.more fw).keep hW).more hW.size) (((FA.more fw).keep hW).more hW.size));have h0:Ap (a.xs[k]=b.xs[k]->a.xs.take (k+1)=b.xs.take (k+1)):=fun he=>yH hp.out aa eq he
 have hN:Ap (a.xs[k]≠b.xs[k]->r=As):=fun he=>H4.out (fun h=>he (by simp only[h]))
 obtain⟨X,hX⟩:=Kh (a.xs[k]);obtain⟨Y,hY⟩:=Kh (b.xs[k]);rw[hX] at a0 a1 a2 h0 hN HC;rw[hY] at b0 b1 b2 h0 hN HC;have cA:(0:Int)<=(k:Int):=by omega
 have bC:(k:Int)<(a.xs.length:Int):=by omega
 go_wp2_with fail
 go_still_tail 10,(by kernel_rfl)
 change wpList _ _ _ _ _ wr.drew;obtain⟨w4,mw⟩:∃w4,w4=wr.drew:=⟨_,rfl⟩;have nz:Ap (Am wr.heap.size wr w4):=by rw[mw];exact(Ll _ _).drew
 rw[<-mw];clear mw a0 a1 a2 b0 b1 b2 p9 q9 cA bC;go_wp2_with fail;refine(HC.out w4 nz.out).mono ?_;rintro e w5 ⟨rfl,ap⟩;have aW:=zH (az.out.trans ((Lc nz.out ap).mono fw))
 by_cases t1:X=Y
 case neg=>
  have hR:=zH (hN.out t1);rw[Ln t1];go_wp2_with fail;go_ret;exact⟨ze hR.out.symm,Lc bg.out aW.out⟩
 have hR:=zH (h0.out t1);rw[Lm t1];go_wp2_with fail
 go_roundw
 case rel=>exact⟨k+1,by omega,by go_num,hR,aW.out⟩
 simp[Ao];omega
end
end Go.Proofs.YtjjcgpfljidbhaaGreat
