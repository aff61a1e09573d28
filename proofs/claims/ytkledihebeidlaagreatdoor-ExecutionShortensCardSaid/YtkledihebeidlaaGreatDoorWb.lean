/- Merged. -/
import Derived.Test.YtkledihebeidlaaGreatDoorWa
import Derived.Deep.RegionHeld3
import Derived.Deep.DeepCutAuto
import Derived.StillTailTactics
import Derived.RangeFuncNested
import Derived.RangeFuncBound
import Derived.RangeFuncCalls
import Derived.RangeFuncLeaves
import Derived.Shelf.Abstract
import Derived.Shelf.RegionOpen
import Derived.OwnWalkIn
import Derived.TacticsInMore
import Derived.LoopNIn
import Derived.LoopIn
open Go.Proofs.Tryz
open Go.Value renaming int->O,slice->I,bool->Ai,agg->Aj,pointer->Ak
open Go.IntKind renaming i64->U
open Option renaming none->Z,some->J
open Go.Obj renaming cells->Ah
open Go.Ending renaming returned->Am
open Go.Proofs.Tryz renaming prog->An,func142->Rw
open Go.RowKit renaming Below->Ao,intOf->Aq,Hid->As
open Go renaming Calls->Ap,Value->Au,wpIn_wide->RE
open Bool renaming true->Av,false->Ax,false_and->NE
open Go.Calls renaming quiet_of->Nl
open Go.World renaming putObj_heap_other->NX
open Nat renaming zero_mul->Rz
namespace Go.Proofs.YtkledihebeidlaaGreatDoor
abbrev L5:=@Bool.and_eq_true
abbrev Lx:=@Nat.le_trans
abbrev Nz:=@List.mem_iff_getElem
abbrev Lf:=@Go.RowKit.Below.heap_setCell
abbrev Ro:=@Go.cells_of_cell
abbrev L7:=@Go.World.cell?_of_block
abbrev PB:=@List.nodup_cons
abbrev Rs:=@Go.callsIn_wide
abbrev LT:=@List.mem_cons
abbrev LI:=@List.map_append
abbrev N3:=@List.map_map
abbrev PS:=@List.flatten_cons
abbrev LG:=@List.length_map
abbrev Lz:=@List.length_cons
abbrev Nb:=@List.nil_append
abbrev Nf:=@List.cons_append
abbrev Lq:=@List.length_append
abbrev Ng:=@List.append_assoc
abbrev RR:=@Array.getElem?_eq_getElem
abbrev Na:=@Go.bodyPost_ret
abbrev Rr:=@Go.results_none
abbrev N9:=@Array.getElem?_modify
abbrev NH:=@List.mem_singleton
abbrev LO:=@Go.grownBy_keeps_cells
abbrev PX:=@Go.Proofs.enters_of
abbrev NA:=@List.mem_flatten
abbrev LA:=@List.mem_map
abbrev Rc:=@List.take_append_drop
abbrev Pq:=@Nat.add_zero
abbrev Lv:=@Int.toNat_natCast
abbrev Le:=@List.getD_eq_getElem?_getD
abbrev Lg:=@List.getElem?_eq_getElem
abbrev PI:=@List.getElem?_take
abbrev RO:=@List.take_take
set_option maxRecDepth 100000
set_option maxHeartbeats 16000000
section
open Go.RowKit
theorem kP{P:Program}{f:FuncId}{args:Array Au}{W:Ba}{q a:Nat}{v:Au}(h:Ap P f args (W.drewN (q+a)) fun e w'=>e=Am v/\w'=W.drewN (q+a)):Ap P f args (W.drewN (q+a)) fun e w'=>e=Am v/\∃n,w'=W.drewN (q+n):=
 h.mono fun _ _ ⟨h1,h2⟩=>⟨h1,a,h2⟩
theorem zN{P:Program}{f:FuncId}{args:Array Au}{W:Ba}{q a:Nat}{v:Au}(h:Ap P f args (W.drewN (q+a)) fun e w'=>e=Am v/\∃n,w'=(W.drewN (q+a)).drewN n):Ap P f args (W.drewN (q+a)) fun e w'=>e=Am v/\∃n,w'=W.drewN (q+n):=
 h.mono fun _ _ ⟨h1,n,h2⟩=>⟨h1,a+n,by rw[h2,Pn,Pv]⟩
theorem rone_any(t:Tk)(A:Bb)(kc:Nat)(hf:FewT t)(i:Nat)(hi:i<t.cases.length)(w:Ba)(hA:CAt w w.heap.size A t.cases) :
  Ap An 143 #[Aj #[O U t.n,O U t.ins,O U t.outs,I A t.cases.length kc],O U i] w fun e w'=>e=Am (O U (xE t (zp t.cases i) t.cases[i]))/\Ao w.heap.size w w':=by
 obtain⟨dR,fq⟩:=hf;have T9:=zH fq;have lI:=zH (@Zq t (zp t.cases i) t.cases[i]);have bf:=zH (@uy t (zp t.cases i) t.cases[i]);have cQ:=zH (@Zr t (zp t.cases i) t.cases[i]);obtain⟨E,hE⟩:=Kh (xE t (zp t.cases i) t.cases[i]);rw[hE] at lI bf cQ ⊢;obtain⟨n,ins,m,cs⟩:=t;dsimp only at dR T9 lI bf cQ hA hi ⊢;obtain⟨b,o,A0,k0,A1,k1,A2,k2,e,dH,c0,c1,c2,I0,I1,I2⟩:=hA.row i hi;obtain⟨f0,⟨f1,f2⟩,f3,f4⟩:=fq _ (Ld hi);obtain⟨bo,bJ⟩:=Kh (xD ((zp cs i).map Cs.inp) cs[i].inp);have bD:=zH bJ;rw[bJ] at bf cQ;have ay:=zH (@uu n m cs[i]);have al:=zH (@gq n m cs[i]);have aw:=zH (@uv n m cs[i]);obtain⟨x,hx⟩:=Kh (cs[i]);have HX:=zH hx;rw[hx] at c0 c1 c2 I0 I1 I2 f0 f1 f2 f3 f4 lI bf cQ ay al aw;obtain⟨xi,xo,xc⟩:=x;dsimp only at c0 c1 c2 I0 I1 I2 f0 f1 f2 f3 f4 lI bf cQ ay al aw;obtain⟨ev,cu⟩:=Kh (zr xi n ins);rw[cu] at lI bf cQ;have eC:=zH f2;have oA:=zH f4;obtain⟨W1,cO,b0,b1,bn,aB⟩:=tboxes w #[O U n,O U ins,O U m,I A cs.length kc] #[I A0 xi.length k0,I A1 xo.length k1,I A2 xc.length k2] 24 118;have bk:=zH aB;have H0:=zH ((I0.keep aB).more (show w.heap.size<=W1.heap.size by omega));have H1:=zH ((I1.keep aB).more (show w.heap.size<=W1.heap.size by omega));have H2:=zH ((I2.keep aB).more (show w.heap.size<=W1.heap.size by omega));have NK:=zH ((hA.keep aB).more (show w.heap.size<=W1.heap.size by omega));have nB:=zH (ki A0 k0 xi n ins (by omega) W1 H0.out);rw[cu] at nB;subst e
 have lZ:=zH b0;have lY:=zH b1;have ik:=zH cO;clear hE bJ hx cu f2 f4 hA fq I0 I1 I2 cO aB b0 b1 bn;go_enter func143,ntmps143;go_wp2_with fail;rw[ik.out];obtain⟨q0,q1,q2,q3,_⟩:=Kb lZ.out;obtain⟨p0,p1,p2,_⟩:=Kc lY.out;have Fn:=bk.out.size;clear ik c0 c1 c2;refine nB.out.mono ?_;rintro e w' ⟨rfl,db⟩;obtain rfl:W1=w':=db.symm;clear nB
 by_cases cu:ev=0
 case neg=>
  have hd:=zH (lI.out cu);have e0:(ev != 0)=Av:=by simpa using cu
  clear lI bf cQ ay al aw cu bD HX;go_wp2_with fail;go_ret;exact⟨zc hd.out.symm,bk.out⟩
 case pos=>
 subst cu;clear lI
 cases i with
 | zero=>
  obtain rfl:bo=Ax:=by rw[<-bD.out];rfl
  have g0:decide ((0:Int)<0)=Ax:=by decide
  clear bD HX;go_wp2_with fail;go_quiet (fail);have eS:=zH (cQ.out (by simp) (by simp));clear bf cQ
  by_cases hz:xo.length<1
  . have hR:=zH (eS.out.trans (ay.out hz))
    clear eS ay al aw;go_wp2_with fail
    all_goals first | (exfalso;omega) | skip
    go_ret;exact⟨zc hR.out.symm,by repeat (first | exact bk.out | refine zx ?_ _)⟩
  have bS:¬((xo.length:Int)<1):=by omega
  have al:=zH (fun h=>eS.out.trans (al.out (by omega) (by omega) h));have aw:=zH (fun h=>eS.out.trans (aw.out (by omega) (by omega) h));clear ay eS;obtain⟨F,hF⟩:∃F,qd (fun v=>zr v n m) xo=F:=⟨_,rfl⟩;have HF:As (F=yc (fun v=>zr v n m) xo 0):=by rw[xp];exact hF.symm
  rw[hF] at al aw;clear hF;go_wp2_with fail
  all_goals first | (exfalso;omega) | skip
  go_loopw [7] (fun i wr=>∃k q:Nat,k<=xo.length/\i=O U (k:Int)/\As (F=yc (fun v=>zr v n m) xo k)/\wr=W1.drewN q) (fun i _=>xo.length-(Aq i).toNat)
  case atStart=>exact⟨0,_,by omega,rfl,HF,rfl⟩
  case round=>
   obtain⟨k,q,hk,rfl,ai,rfl⟩:=hrel;clear HF
   by_cases ac:k<xo.length
   . obtain⟨b,o,A3,k3,rfl,hb,c3,I3⟩:=H1.out.at_ k ac
     have l3:=eC.out _ (Ld ac);have nv:=zH I3;have aG:=zH (@xG (fun v=>zr v n m) xo k ac);have bf:=zH (@yY (fun v=>zr v n m) xo k ac);have az:=zH (@qb (fun v=>zr v n m) xo k ac);have HV:=zH (fun (p:Nat)=>ki A3 k3 xo[k] n m (by omega) (W1.drewN p) I3);obtain⟨bo,bJ⟩:=Kh (xD (zp xo k) xo[k]);have bD:=zH bJ;rw[bJ] at bf az;obtain⟨v,hv⟩:=Kh (xo[k]);have HX:=zH hv;rw[hv] at c3 nv l3 aG bf az HV;obtain⟨ev,cu⟩:=Kh (zr v n m);rw[cu] at aG bf az HV;obtain⟨vl,cm⟩:=Kh v.length;have dy:=zH cm;rw[cm] at c3 l3 HV;clear hv bJ cu cm I3
     by_cases he:ev=0
     case neg=>
      have hR:=zH (ai.out.trans (aG.out he));have HR:=zH ((al.out (by rw[hR.out];exact he)).trans hR.out);clear ai bf az aG al aw bD HX dy;have e0:(ev != 0)=Av:=by simpa using he
      clear he;go_wp2_with fail;go_quiet ((go_at_call 159;exact kP (HV.out _)));go_wp2_with fail;go_ret;exact⟨zc HR.out.symm,by repeat (first | exact bk.out | refine zx ?_ _)⟩
     case pos=>
     subst he;clear aG;go_wp2_with fail;go_quiet ((go_at_call 159;exact kP (HV.out _)));clear HV;have fJ:k<=30:=by omega
     cases k with
     | zero=>
      obtain rfl:bo=Ax:=by rw[<-bD.out];rfl
      have g0:decide ((0:Int)<0)=Ax:=by decide
      clear bD HX dy;go_wp2_with fail;go_quiet (fail);have hR:=zH (ai.out.trans (az.out (by simp) (by simp)));clear ai bf az;go_wp2_with fail
      go_roundw
      case rel=>exact⟨0+1,_,by omega,by go_num,hR,rfl⟩
      case measure=>simp[Aq];omega
     | succ j=>
      have hj:j<xo.length:=by omega
      have bV:xD (zp xo (j+1)) xo[j+1]=decide (0<=zj xo[j] xo[j+1]):=by rw[zT xo j hj];rfl
      obtain⟨b',o',nK,mH,e',_,u0,U0⟩:=H1.out.at_ j hj
      cases e'
      have nu:=eC.out _ (Ld hj);rw[HX.out] at bV;have hc:=fun (p:Nat)=>yT nK A3 mH k3 xo[j] v (by omega) (by rw[<-HX.out];have:=eC.out _ (Ld ac);omega) (W1.drewN p) U0 nv.out
      rw[show xD (zp xo (j+1)) v=bo by have:=bD.out;rwa[HX.out] at this] at bV;obtain⟨r,hr⟩:=Kh (zj xo[j] v);rw[hr] at bV hc;have cG:=zH bV;obtain⟨nl,eG⟩:=Kh (xo[j].length);rw[eG] at u0 hc nu;rw[dy.out] at hc;have HC:=zH hc;clear bV hc hr eG U0 bD HX dy;have g1:((j:Int)+1).toNat=j+1:=by omega
      have g3:IntKind.i64.wrap ((j:Int)+1-1)=(j:Int):=by rw[Lw];omega
      have g5:IntKind.i64.wrap ((j:Int)+1)=(j:Int)+1:=by rw[Lw];omega
      have g6:decide ((0:Int)<(j:Int)+1)=Av:=Ll (by omega)
      cases bo with
      | true=>
       have g7:decide (0<=r)=Av:=cG.out.symm;have g8:0<=r:=LK g7;clear cG;go_wp2_with fail;go_quiet ((go_at_call 148;first | exact zN (HC.out _) | exact Nl (HC.out _)));clear HC g1 g3 g5 g6 u0;have hR:=zH (ai.out.trans (bf.out (by simp) (by simp)));have cf:=zH ((al.out (by rw[hR.out];decide)).trans hR.out);clear ai bf az al aw;go_wp2_with fail;go_ret;exact⟨zc cf.out.symm,by repeat (first | exact bk.out | refine zx ?_ _)⟩
      | false=>
       have g7:decide (0<=r)=Ax:=cG.out.symm;have g8:¬0<=r:=NG g7;clear cG;go_wp2_with fail;go_quiet ((go_at_call 148;first | exact zN (HC.out _) | exact Nl (HC.out _)));clear HC g1 g3 g5 g6 u0;have hR:=zH (ai.out.trans (az.out (by simp) (by simp)));clear ai bf az;go_wp2_with fail
       go_roundw
       case rel=>exact⟨j+1+1,_,by omega,by go_num,hR,rfl⟩
       case measure=>simp[Aq];omega
   . obtain rfl:k=xo.length:=by omega
     have hR:=zH (ai.out.trans xF);have HR:=zH (aw.out hR.out);clear ai al aw hR;go_wp2_with fail;obtain⟨G,hG⟩:=Kh (qd (xU xo) xc);have HG:As (G=yc (xU xo) xc 0):=by rw[xp];exact hG.symm
     rw[hG] at HR;clear hG
     go_loopw [9] (fun i wr=>∃k q:Nat,k<=xc.length/\i=O U (k:Int)/\As (G=yc (xU xo) xc k)/\wr=W1.drewN q) (fun i _=>xc.length-(Aq i).toNat)
     case atStart=>exact⟨0,_,by omega,rfl,HG,rfl⟩
     case round=>
      obtain⟨k,q,hk,rfl,ai,rfl⟩:=hrel;clear HG
      by_cases ac:k<xc.length
      . obtain⟨b,o,A3,k3,rfl,hb,c3,I3⟩:=H2.out.at_ k ac
        have l3:=oA.out _ (Ld ac);have nv:=zH I3;have aG:=zH (@xG (xU xo) xc k ac);have bf:=zH (@yY (xU xo) xc k ac);have az:=zH (@qb (xU xo) xc k ac);have HV:=zH (fun (p:Nat)=>Yi A1 k1 xo A3 k3 xc[k] (by omega) (fun v hv=>by have:=eC.out v hv;omega) (by omega) (W1.drewN p) H1.out I3);have ep:As (∀v,xU xo v=if v∈xo then 0 else 6):=fun _=>rfl
        obtain⟨bo,bJ⟩:=Kh (xD (zp xc k) xc[k]);have bD:=zH bJ;rw[bJ] at bf az;obtain⟨v,hv⟩:=Kh (xc[k]);have HX:=zH hv;rw[hv] at c3 nv l3 aG bf az HV;have ep:=zH (ep.out v);obtain⟨ev,cu⟩:=Kh (xU xo v);rw[cu] at aG bf az ep;obtain⟨vl,cm⟩:=Kh v.length;have dy:=zH cm;rw[cm] at c3 l3 HV;clear hv bJ cu cm I3
        by_cases hm:v∈xo
        case neg=>
         have he:ev=6:=ep.out.trans (Lj hm);subst he;rw[Lm hm] at HV;have hR:=zH (ai.out.trans (aG.out (by decide)));have cf:=zH (HR.out.trans hR.out);clear ai bf az aG hm ep HR bD HX dy;go_wp2_with fail;go_quiet ((go_at_call 160;exact zN (HV.out _)));go_wp2_with fail;go_ret;exact⟨zc cf.out.symm,by repeat (first | exact bk.out | refine zx ?_ _)⟩
        case pos=>
        have he:ev=0:=ep.out.trans (Ln hm);subst he;rw[Ll hm] at HV;clear aG hm ep;go_wp2_with fail;go_quiet ((go_at_call 160;exact zN (HV.out _)));clear HV;have fJ:k<=30:=by omega
        cases k with
        | zero=>
         obtain rfl:bo=Ax:=by rw[<-bD.out];rfl
         have g0:decide ((0:Int)<0)=Ax:=by decide
         clear bD HX dy;go_wp2_with fail;go_quiet (fail);have hR:=zH (ai.out.trans (az.out (by simp) (by simp)));clear ai bf az;go_wp2_with fail
         go_roundw
         case rel=>exact⟨0+1,_,by omega,by go_num,hR,rfl⟩
         case measure=>simp[Aq];omega
        | succ j=>
         have hj:j<xc.length:=by omega
         have bV:xD (zp xc (j+1)) xc[j+1]=decide (0<=zj xc[j] xc[j+1]):=by rw[zT xc j hj];rfl
         obtain⟨b',o',nK,mH,e',_,u0,U0⟩:=H2.out.at_ j hj
         cases e'
         have nu:=oA.out _ (Ld hj);rw[HX.out] at bV;have hc:=fun (p:Nat)=>yT nK A3 mH k3 xc[j] v (by omega) (by rw[<-HX.out];have:=oA.out _ (Ld ac);omega) (W1.drewN p) U0 nv.out
         rw[show xD (zp xc (j+1)) v=bo by have:=bD.out;rwa[HX.out] at this] at bV;obtain⟨r,hr⟩:=Kh (zj xc[j] v);rw[hr] at bV hc;have cG:=zH bV;obtain⟨nl,eG⟩:=Kh (xc[j].length);rw[eG] at u0 hc nu;rw[dy.out] at hc;have HC:=zH hc;clear bV hc hr eG U0 bD HX dy;have g1:((j:Int)+1).toNat=j+1:=by omega
         have g3:IntKind.i64.wrap ((j:Int)+1-1)=(j:Int):=by rw[Lw];omega
         have g5:IntKind.i64.wrap ((j:Int)+1)=(j:Int)+1:=by rw[Lw];omega
         have g6:decide ((0:Int)<(j:Int)+1)=Av:=Ll (by omega)
         cases bo with
         | true=>
          have g7:decide (0<=r)=Av:=cG.out.symm;have g8:0<=r:=LK g7;clear cG;go_wp2_with fail;go_quiet ((go_at_call 148;first | exact zN (HC.out _) | exact Nl (HC.out _)));clear HC g1 g3 g5 g6 u0;have hR:=zH (ai.out.trans (bf.out (by simp) (by simp)));have cf:=zH (HR.out.trans hR.out);clear ai bf az HR;go_wp2_with fail;go_ret;exact⟨zc cf.out.symm,by repeat (first | exact bk.out | refine zx ?_ _)⟩
         | false=>
          have g7:decide (0<=r)=Ax:=cG.out.symm;have g8:¬0<=r:=NG g7;clear cG;go_wp2_with fail;go_quiet ((go_at_call 148;first | exact zN (HC.out _) | exact Nl (HC.out _)));clear HC g1 g3 g5 g6 u0;have hR:=zH (ai.out.trans (az.out (by simp) (by simp)));clear ai bf az;go_wp2_with fail
          go_roundw
          case rel=>exact⟨j+1+1,_,by omega,by go_num,hR,rfl⟩
          case measure=>simp[Aq];omega
      . obtain rfl:k=xc.length:=by omega
        have hR:=zH (ai.out.trans xF);have cf:=zH (HR.out.trans hR.out);clear ai HR hR;go_wp2_with fail;go_ret;exact⟨zc cf.out.symm,by repeat (first | exact bk.out | refine zx ?_ _)⟩
 | succ j=>
  have hj:j<cs.length:=by omega
  have bV:xD ((zp cs (j+1)).map Cs.inp) cs[j+1].inp=decide (0<=zj cs[j].inp cs[j+1].inp):=by rw[zT cs j hj];rfl
  obtain⟨b',o',nK,mH,_,_,_,_,e',_,u0,_,_,U0,_,_⟩:=NK.out.row j hj
  cases e'
  obtain⟨nu,_,_⟩:=T9.out _ (Ld hj);rw[HX.out] at bV;have hc:=fun (p:Nat)=>yT nK A0 mH k0 cs[j].inp xi (by omega) (by omega) (W1.drewN p) U0 H0.out
  rw[show xD ((zp cs (j+1)).map Cs.inp) xi=bo by have:=bD.out;rwa[HX.out] at this] at bV;obtain⟨r,hr⟩:=Kh (zj cs[j].inp xi);rw[hr] at bV hc;have cG:=zH bV;obtain⟨nl,eG⟩:=Kh (cs[j].inp.length);rw[eG] at u0 hc nu;have HC:=zH hc;clear bV hc hr eG U0 bD HX;have g1:((j:Int)+1).toNat=j+1:=by omega
  have g3:IntKind.i64.wrap ((j:Int)+1-1)=(j:Int):=by rw[Lw];omega
  have g5:IntKind.i64.wrap ((j:Int)+1)=(j:Int)+1:=by rw[Lw];omega
  have g6:decide ((0:Int)<(j:Int)+1)=Av:=Ll (by omega)
  cases bo with
  | true=>
   have g7:decide (0<=r)=Av:=cG.out.symm;have g8:0<=r:=LK g7;clear cG;go_wp2_with fail;go_quiet ((go_at_call 148;first | exact zN (HC.out _) | exact Nl (HC.out _)));clear HC g1 g3 g5 g6 u0;have hd:=zH (bf.out (by simp) (by simp));clear bf cQ ay al aw;go_wp2_with fail;go_ret;exact⟨zc hd.out.symm,by repeat (first | exact bk.out | refine zx ?_ _)⟩
  | false=>
   have g7:decide (0<=r)=Ax:=cG.out.symm;have g8:¬0<=r:=NG g7;clear cG;go_wp2_with fail;go_quiet ((go_at_call 148;first | exact zN (HC.out _) | exact Nl (HC.out _)));clear HC g1 g3 g5 g6 u0;have eS:=zH (cQ.out (by simp) (by simp));clear bf cQ
   by_cases hz:xo.length<1
   . have hR:=zH (eS.out.trans (ay.out hz))
     clear eS ay al aw;go_wp2_with fail
     all_goals first | (exfalso;omega) | skip
     go_ret;exact⟨zc hR.out.symm,by repeat (first | exact bk.out | refine zx ?_ _)⟩
   have bS:¬((xo.length:Int)<1):=by omega
   have al:=zH (fun h=>eS.out.trans (al.out (by omega) (by omega) h));have aw:=zH (fun h=>eS.out.trans (aw.out (by omega) (by omega) h));clear ay eS;obtain⟨F,hF⟩:∃F,qd (fun v=>zr v n m) xo=F:=⟨_,rfl⟩;have HF:As (F=yc (fun v=>zr v n m) xo 0):=by rw[xp];exact hF.symm
   rw[hF] at al aw;clear hF;go_wp2_with fail
   all_goals first | (exfalso;omega) | skip
   go_loopw [7] (fun i wr=>∃k q:Nat,k<=xo.length/\i=O U (k:Int)/\As (F=yc (fun v=>zr v n m) xo k)/\wr=W1.drewN q) (fun i _=>xo.length-(Aq i).toNat)
   case atStart=>exact⟨0,_,by omega,rfl,HF,rfl⟩
   case round=>
    obtain⟨k,q,hk,rfl,ai,rfl⟩:=hrel;clear HF
    by_cases ac:k<xo.length
    . obtain⟨b,o,A3,k3,rfl,hb,c3,I3⟩:=H1.out.at_ k ac
      have l3:=eC.out _ (Ld ac);have nv:=zH I3;have aG:=zH (@xG (fun v=>zr v n m) xo k ac);have bf:=zH (@yY (fun v=>zr v n m) xo k ac);have az:=zH (@qb (fun v=>zr v n m) xo k ac);have HV:=zH (fun (p:Nat)=>ki A3 k3 xo[k] n m (by omega) (W1.drewN p) I3);obtain⟨bo,bJ⟩:=Kh (xD (zp xo k) xo[k]);have bD:=zH bJ;rw[bJ] at bf az;obtain⟨v,hv⟩:=Kh (xo[k]);have HX:=zH hv;rw[hv] at c3 nv l3 aG bf az HV;obtain⟨ev,cu⟩:=Kh (zr v n m);rw[cu] at aG bf az HV;obtain⟨vl,cm⟩:=Kh v.length;have dy:=zH cm;rw[cm] at c3 l3 HV;clear hv bJ cu cm I3
      by_cases he:ev=0
      case neg=>
       have hR:=zH (ai.out.trans (aG.out he));have HR:=zH ((al.out (by rw[hR.out];exact he)).trans hR.out);clear ai bf az aG al aw bD HX dy;have e0:(ev != 0)=Av:=by simpa using he
       clear he;go_wp2_with fail;go_quiet ((go_at_call 159;exact kP (HV.out _)));go_wp2_with fail;go_ret;exact⟨zc HR.out.symm,by repeat (first | exact bk.out | refine zx ?_ _)⟩
      case pos=>
      subst he;clear aG;go_wp2_with fail;go_quiet ((go_at_call 159;exact kP (HV.out _)));clear HV;have fJ:k<=30:=by omega
      cases k with
      | zero=>
       obtain rfl:bo=Ax:=by rw[<-bD.out];rfl
       have g0:decide ((0:Int)<0)=Ax:=by decide
       clear bD HX dy;go_wp2_with fail;go_quiet (fail);have hR:=zH (ai.out.trans (az.out (by simp) (by simp)));clear ai bf az;go_wp2_with fail
       go_roundw
       case rel=>exact⟨0+1,_,by omega,by go_num,hR,rfl⟩
       case measure=>simp[Aq];omega
      | succ j=>
       have hj:j<xo.length:=by omega
       have bV:xD (zp xo (j+1)) xo[j+1]=decide (0<=zj xo[j] xo[j+1]):=by rw[zT xo j hj];rfl
       obtain⟨b',o',nK,mH,e',_,u0,U0⟩:=H1.out.at_ j hj
       cases e'
       have nu:=eC.out _ (Ld hj);rw[HX.out] at bV;have hc:=fun (p:Nat)=>yT nK A3 mH k3 xo[j] v (by omega) (by rw[<-HX.out];have:=eC.out _ (Ld ac);omega) (W1.drewN p) U0 nv.out
       rw[show xD (zp xo (j+1)) v=bo by have:=bD.out;rwa[HX.out] at this] at bV;obtain⟨r,hr⟩:=Kh (zj xo[j] v);rw[hr] at bV hc;have cG:=zH bV;obtain⟨nl,eG⟩:=Kh (xo[j].length);rw[eG] at u0 hc nu;rw[dy.out] at hc;have HC:=zH hc;clear bV hc hr eG U0 bD HX dy;have g1:((j:Int)+1).toNat=j+1:=by omega
       have g3:IntKind.i64.wrap ((j:Int)+1-1)=(j:Int):=by rw[Lw];omega
       have g5:IntKind.i64.wrap ((j:Int)+1)=(j:Int)+1:=by rw[Lw];omega
       have g6:decide ((0:Int)<(j:Int)+1)=Av:=Ll (by omega)
       cases bo with
       | true=>
        have g7:decide (0<=r)=Av:=cG.out.symm;have g8:0<=r:=LK g7;clear cG;go_wp2_with fail;go_quiet ((go_at_call 148;first | exact zN (HC.out _) | exact Nl (HC.out _)));clear HC g1 g3 g5 g6 u0;have hR:=zH (ai.out.trans (bf.out (by simp) (by simp)));have cf:=zH ((al.out (by rw[hR.out];decide)).trans hR.out);clear ai bf az al aw;go_wp2_with fail;go_ret;exact⟨zc cf.out.symm,by repeat (first | exact bk.out | refine zx ?_ _)⟩
       | false=>
        have g7:decide (0<=r)=Ax:=cG.out.symm;have g8:¬0<=r:=NG g7;clear cG;go_wp2_with fail;go_quiet ((go_at_call 148;first | exact zN (HC.out _) | exact Nl (HC.out _)));clear HC g1 g3 g5 g6 u0;have hR:=zH (ai.out.trans (az.out (by simp) (by simp)));clear ai bf az;go_wp2_with fail
        go_roundw
        case rel=>exact⟨j+1+1,_,by omega,by go_num,hR,rfl⟩
        case measure=>simp[Aq];omega
    . obtain rfl:k=xo.length:=by omega
      have hR:=zH (ai.out.trans xF);have HR:=zH (aw.out hR.out);clear ai al aw hR;go_wp2_with fail;obtain⟨G,hG⟩:=Kh (qd (xU xo) xc);have HG:As (G=yc (xU xo) xc 0):=by rw[xp];exact hG.symm
      rw[hG] at HR;clear hG
      go_loopw [9] (fun i wr=>∃k q:Nat,k<=xc.length/\i=O U (k:Int)/\As (G=yc (xU xo) xc k)/\wr=W1.drewN q) (fun i _=>xc.length-(Aq i).toNat)
      case atStart=>exact⟨0,_,by omega,rfl,HG,rfl⟩
      case round=>
       obtain⟨k,q,hk,rfl,ai,rfl⟩:=hrel;clear HG
       by_cases ac:k<xc.length
       . obtain⟨b,o,A3,k3,rfl,hb,c3,I3⟩:=H2.out.at_ k ac
         have l3:=oA.out _ (Ld ac);have nv:=zH I3;have aG:=zH (@xG (xU xo) xc k ac);have bf:=zH (@yY (xU xo) xc k ac);have az:=zH (@qb (xU xo) xc k ac);have HV:=zH (fun (p:Nat)=>Yi A1 k1 xo A3 k3 xc[k] (by omega) (fun v hv=>by have:=eC.out v hv;omega) (by omega) (W1.drewN p) H1.out I3);have ep:As (∀v,xU xo v=if v∈xo then 0 else 6):=fun _=>rfl
         obtain⟨bo,bJ⟩:=Kh (xD (zp xc k) xc[k]);have bD:=zH bJ;rw[bJ] at bf az;obtain⟨v,hv⟩:=Kh (xc[k]);have HX:=zH hv;rw[hv] at c3 nv l3 aG bf az HV;have ep:=zH (ep.out v);obtain⟨ev,cu⟩:=Kh (xU xo v);rw[cu] at aG bf az ep;obtain⟨vl,cm⟩:=Kh v.length;have dy:=zH cm;rw[cm] at c3 l3 HV;clear hv bJ cu cm I3
         by_cases hm:v∈xo
         case neg=>
          have he:ev=6:=ep.out.trans (Lj hm);subst he;rw[Lm hm] at HV;have hR:=zH (ai.out.trans (aG.out (by decide)));have cf:=zH (HR.out.trans hR.out);clear ai bf az aG hm ep HR bD HX dy;go_wp2_with fail;go_quiet ((go_at_call 160;exact zN (HV.out _)));go_wp2_with fail;go_ret;exact⟨zc cf.out.symm,by repeat (first | exact bk.out | refine zx ?_ _)⟩
         case pos=>
         have he:ev=0:=ep.out.trans (Ln hm);subst he;rw[Ll hm] at HV;clear aG hm ep;go_wp2_with fail;go_quiet ((go_at_call 160;exact zN (HV.out _)));clear HV;have fJ:k<=30:=by omega
         cases k with
         | zero=>
          obtain rfl:bo=Ax:=by rw[<-bD.out];rfl
          have g0:decide ((0:Int)<0)=Ax:=by decide
          clear bD HX dy;go_wp2_with fail;go_quiet (fail);have hR:=zH (ai.out.trans (az.out (by simp) (by simp)));clear ai bf az;go_wp2_with fail
          go_roundw
          case rel=>exact⟨0+1,_,by omega,by go_num,hR,rfl⟩
          case measure=>simp[Aq];omega
         | succ j=>
          have hj:j<xc.length:=by omega
          have bV:xD (zp xc (j+1)) xc[j+1]=decide (0<=zj xc[j] xc[j+1]):=by rw[zT xc j hj];rfl
          obtain⟨b',o',nK,mH,e',_,u0,U0⟩:=H2.out.at_ j hj
          cases e'
          have nu:=oA.out _ (Ld hj);rw[HX.out] at bV;have hc:=fun (p:Nat)=>yT nK A3 mH k3 xc[j] v (by omega) (by rw[<-HX.out];have:=oA.out _ (Ld ac);omega) (W1.drewN p) U0 nv.out
          rw[show xD (zp xc (j+1)) v=bo by have:=bD.out;rwa[HX.out] at this] at bV;obtain⟨r,hr⟩:=Kh (zj xc[j] v);rw[hr] at bV hc;have cG:=zH bV;obtain⟨nl,eG⟩:=Kh (xc[j].length);rw[eG] at u0 hc nu;rw[dy.out] at hc;have HC:=zH hc;clear bV hc hr eG U0 bD HX dy;have g1:((j:Int)+1).toNat=j+1:=by omega
          have g3:IntKind.i64.wrap ((j:Int)+1-1)=(j:Int):=by rw[Lw];omega
          have g5:IntKind.i64.wrap ((j:Int)+1)=(j:Int)+1:=by rw[Lw];omega
          have g6:decide ((0:Int)<(j:Int)+1)=Av:=Ll (by omega)
          cases bo with
          | true=>
           have g7:decide (0<=r)=Av:=cG.out.symm;have g8:0<=r:=LK g7;clear cG;go_wp2_with fail;go_quiet ((go_at_call 148;first | exact zN (HC.out _) | exact Nl (HC.out _)));clear HC g1 g3 g5 g6 u0;have hR:=zH (ai.out.trans (bf.out (by simp) (by simp)));have cf:=zH (HR.out.trans hR.out);clear ai bf az HR;go_wp2_with fail;go_ret;exact⟨zc cf.out.symm,by repeat (first | exact bk.out | refine zx ?_ _)⟩
          | false=>
           have g7:decide (0<=r)=Ax:=cG.out.symm;have g8:¬0<=r:=NG g7;clear cG;go_wp2_with fail;go_quiet ((go_at_call 148;first | exact zN (HC.out _) | exact Nl (HC.out _)));clear HC g1 g3 g5 g6 u0;have hR:=zH (ai.out.trans (az.out (by simp) (by simp)));clear ai bf az;go_wp2_with fail
           go_roundw
           case rel=>exact⟨j+1+1,_,by omega,by go_num,hR,rfl⟩
           case measure=>simp[Aq];omega
       . obtain rfl:k=xc.length:=by omega
         have hR:=zH (ai.out.trans xF);have cf:=zH (HR.out.trans hR.out);clear ai HR hR;go_wp2_with fail;go_ret;exact⟨zc cf.out.symm,by repeat (first | exact bk.out | refine zx ?_ _)⟩
end
section
open Go.RowKit
attribute [local go_sem] Oper.semAt_some
theorem jj(A B:Bb)(ca cb:Nat)(xs ys:List (List Int))(hx:xs.length<=17592186044416)(_hy:ys.length<=17592186044416)(fC:∀v∈xs,v.length<=17592186044416)(cz:∀v∈ys,v.length<=17592186044416)(w:Ba)(hA:LAt w w.heap.size A xs)(hB:LAt w w.heap.size B ys) :
  Ap An 149 #[I A xs.length ca,I B ys.length cb] w fun e w'=>e=Am (Ai (decide (xs=ys)))/\∃n,w'=w.drewN n:=by
 have HXL:=zH fC;have rK:=zH cz;have HA:=zH hA;have HB:=zH hB;have HT:As (∀b,(xs=ys↔b=Av)->decide (xs=ys)=b):=fun b h=>by cases b<;>simp_all
 obtain⟨r,hr⟩:∃r,decide (xs=ys)=r:=⟨_,rfl⟩;rw[hr] at HT ⊢;go_enter func149,ntmps149
 by_cases hl:xs.length=ys.length
 case neg=>
  have hR:As (r=Ax):=HT.out Ax ⟨fun h=>absurd (congrArg List.length h) hl,fun h=>by cases h⟩;have e0:((xs.length:Int) != (ys.length:Int))=Av:=by simp;omega
  go_wp2_with fail;go_ret;exact⟨ze hR.out.symm,0,rfl⟩
 case pos=>
 have HL:=zH hl;rw[<-hl] at _hy ⊢;go_wp2_with fail
 go_loopw [5] (fun i wr=>∃k n:Nat,k<=xs.length/\i=O U (k:Int)/\As (xs.take k=ys.take k)/\As (wr=w.drewN n)) (fun i _=>xs.length-(Aq i).toNat)
 case atStart=>exact⟨0,0,by omega,rfl,by rw[As,LP,LP],rfl⟩
 obtain⟨k,n,hk,rfl,hp,hw⟩:=hrel
 by_cases ac:k<xs.length
 case neg=>
  obtain rfl:k=xs.length:=by omega
  have hR:As (r=Av):=HT.out Av ⟨fun _=>rfl,fun _=>xO HL.out hp.out⟩;go_wp2_with fail;go_ret;exact⟨ze hR.out.symm,n,hw.out⟩
 case pos=>
 have dQ:k<ys.length:=by have:=HL.out;omega
 obtain⟨ba,oa,A1,k1,ea,_,a0,IA⟩:=(HA.out).at_ k ac;obtain⟨bb,ob,A2,k2,eb,_,b0,IB⟩:=(HB.out).at_ k dQ;subst ea;subst eb;have nW:As (∀p,wr.cell? p=w.cell? p):=fun p=>by rw[hw.out];rfl
 rw[<-nW.out] at a0 b0;have dD:=HXL.out _ (Ld ac);have cV:=rK.out _ (Ld dQ);have hc:=fun (p:Nat)=>yT A1 A2 k1 k2 xs[k] ys[k] dD cV (wr.drewN p) (by rw[hw.out];exact IA) (by rw[hw.out];exact IB)
 by_cases he:xs[k]=ys[k]
 . have hR:=zH (yG hp.out ac dQ he)
   have hz:zj xs[k] ys[k]=0:=by rw[he];exact yC _
   rw[hz] at hc;obtain⟨la,sN⟩:=Kh (xs[k].length);obtain⟨lb,nS⟩:=Kh (ys[k].length);rw[sN] at a0 hc dD;rw[nS] at b0 hc cV;have HC:=zH hc;go_wp2_with fail;go_quiet ((go_at_call 148;first | exact zN (HC.out _) | exact Nl (HC.out _)));go_wp2_with fail
   go_roundw
   case rel=>exact⟨k+1,n+nq,by omega,by go_num,hR,by rw[As,hw.out,kG]⟩
   simp[Aq];omega
 have hR:As (r=Ax):=HT.out Ax ⟨fun h=>absurd (by subst h;rfl) he,fun h=>by cases h⟩;have hz:zj xs[k] ys[k]≠0:=fun h=>he (xQ h)
 obtain⟨z,UF⟩:=Kh (zj xs[k] ys[k]);rw[UF] at hz hc;obtain⟨la,sN⟩:=Kh (xs[k].length);obtain⟨lb,nS⟩:=Kh (ys[k].length);rw[sN] at a0 hc dD;rw[nS] at b0 hc cV;have HC:=zH hc;have e0:(z != 0)=Av:=by simpa using hz
 go_wp2_with fail;go_quiet ((go_at_call 148;first | exact zN (HC.out _) | exact Nl (HC.out _)));go_wp2_with fail;go_ret;exact⟨ze hR.out.symm,n+nq,by rw[hw.out,kG]⟩
end
section
open Go.RowKit
theorem Yf(t:Tk)(A:Bb)(kc:Nat)(hf:FewT t)(w:Ba)(hA:CAt w w.heap.size A t.cases) :
  Ap An 120 #[Aj #[O U t.n,O U t.ins,O U t.outs,I A t.cases.length kc]] w fun e w'=>e=Am (O U (yA t))/\Ao w.heap.size w w':=by
 have nD:=zH (fun (i:Nat) (hi:i<t.cases.length) (w':Ba) (h:CAt w' w'.heap.size A t.cases)=>rone_any t A kc hf i hi w' h);obtain⟨dR,fq⟩:=hf;have HA:=zH hA;have ay:=zH (@vY t);have al:=zH (@we t);have aw:=zH (@vZ t);obtain⟨E,hE⟩:=Kh (yA t);rw[hE] at ay al aw ⊢
 by_cases hr:t.n<1\/5<t.n\/t.ins<1\/8<t.ins\/t.outs<1\/8<t.outs
 . have HR:=zH (ay.out hr)
   obtain⟨cv,mo⟩:=Kh (I A t.cases.length kc);rw[mo];have HN:=zH hr;obtain⟨n,ins,outs,cases⟩:=t;dsimp only at HN ⊢;clear ay al aw mo hA fq HA hE hr nD dR;go_enter func120,ntmps120;go_wp2_with fail
   all_goals first | (exfalso;have:=HN.out;omega) | (go_ret;exact⟨zc HR.out.symm,zw w _⟩)
 have r1:¬t.n<1:=by omega
 have r2:¬5<t.n:=by omega
 have r3:¬t.ins<1:=by omega
 have r4:¬8<t.ins:=by omega
 have r5:¬t.outs<1:=by omega
 have r6:¬8<t.outs:=by omega
 have al:=zH (al.out hr);have cA:=zH (aw.out hr);clear hr ay hE hA fq aw
 by_cases hz:t.cases.length<1
 . have HR:=zH (al.out hz)
   obtain⟨n,ins,outs,cases⟩:=t;dsimp only at dR r1 r2 r3 r4 r5 r6 hz ⊢;clear al cA HA nD;go_enter func120,ntmps120;go_wp2_with fail
   all_goals first | (exfalso;omega) | skip
   go_ret;exact⟨zc HR.out.symm,zw w _⟩
 have bS:¬((t.cases.length:Int)<1):=by omega
 have aw:=zH (cA.out (by omega) (by omega));clear al hz cA;have aG:=zH (fun k h=>@ux t t.cases k h);have az:=zH (fun k h=>@gt t t.cases k h);have IU:=zH (@uw t t.cases);obtain⟨cg,Sc⟩:∃cg:Nat->Int,(fun k=>yM t t.cases k)=cg:=⟨_,rfl⟩;have Dj:∀k,yM t t.cases k=cg k:=fun k=>congrFun Sc k
 obtain⟨cE,Sf⟩:∃cE:(k:Nat)->k<t.cases.length->Int,(fun k h=>xE t (zp t.cases k) t.cases[k])=cE:=⟨_,rfl⟩;have Dl:∀k h,xE t (zp t.cases k) t.cases[k]=cE k h:=fun k h=>congrFun (congrFun Sf k) h
 simp only[Dj,Dl] at aG az IU aw nD;clear Sc Dj Sf Dl;obtain⟨n,ins,outs,cs⟩:=t;dsimp only at dR r1 r2 r3 r4 r5 r6 bS HA aw nD cE aG az IU ⊢;go_enter func120,ntmps120;go_wp2_with fail
 all_goals first | (exfalso;omega) | skip
 obtain⟨W0,bH,b0,bn,aX⟩:∃W0,w.alloc (Ah #[O U n,O U ins,O U outs,I A cs.length kc] 24)=W0/\W0.heap[w.heap.size]?=J (Ah #[O U n,O U ins,O U outs,I A cs.length kc] 24 (0,0))/\w.heap.size+1<=W0.heap.size/\Ao w.heap.size w W0:=
  ⟨_,rfl,zh _ _,by simp,zw w _⟩
 rw[bH];have fh:=zH aX;have lZ:=zH b0;clear bH aX b0
 go_loopw [3] (fun i wr=>∃k:Nat,k<=cs.length/\i=O U (k:Int)/\As (E=cg k)/\Ao W0.heap.size W0 wr) (fun i _=>cs.length-(Aq i).toNat)
 case atStart=>exact⟨0,by omega,rfl,aw,Lp _ _⟩
 obtain⟨k,hk,rfl,ai,aA⟩:=hrel;have ce:=zH (Lc fh.out aA);have HW:=zH aA;have d0:=Lb aA (by omega) lZ.out;obtain⟨q0,q1,q2,q3,_⟩:=Kb d0
 by_cases ac:k<cs.length
 . have HC:=zH (fun (w':Ba) (h:CAt w' w'.heap.size A cs)=>nD.out k ac w' h)
   have aG:=zH (aG.out k ac);have az:=zH (az.out k ac);obtain⟨ev,cu⟩:=Kh (cE k ac);rw[cu] at HC aG az;have HAr:=zH ((HA.out.keep ce.out).more ce.out.size);go_wp2_with fail;refine(HC.out _ HAr.out).mono ?_;rintro e w1 ⟨rfl,aC⟩;have dJ:=zH (Lc ce.out aC);have nJ:=zH (Lc HW.out aC);clear aC HC
   by_cases he:ev=0
   . subst he
     have hR:=zH (ai.out.trans (az.out (by simp)));clear ai aG az;go_wp2_with fail
     go_roundw
     case rel=>exact⟨k+1,by omega,by go_num,hR,nJ.out⟩
     simp[Aq];omega
   have hR:=zH (ai.out.trans (aG.out he));have e0:(ev != 0)=Av:=by simpa using he
   clear ai aG az he;go_wp2_with fail;go_ret;exact⟨zc hR.out.symm,dJ.out⟩
 obtain rfl:k=cs.length:=by omega
 have HR:=zH (ai.out.trans IU.out);clear ai;go_wp2_with fail;go_ret;exact⟨zc HR.out.symm,ce.out⟩
def kD(t:Tk):Bool:=decide (t.cases.length<=30)&&t.cases.all fun c=>decide (c.inp.length<=10)&&kC c.out 30&&kC c.calm 30
theorem fewl_iff{l:List (List Int)}:kC l 30=Av↔FewL l:=by
 unfold kC FewL;simp
theorem YP{t:Tk}:kD t=Av↔FewT t:=by
 unfold kD FewT FewC;simp only[Bool.and_eq_true,decide_eq_true_eq,List.all_eq_true,fewl_iff,and_assoc]
end
section
open Go.RowKit
attribute [local go_sem] Oper.semAt_some
def okC(c:Cs):Bool:=decide (c.inp.length<=10)&&kC c.out 30&&kC c.calm 30
theorem fewTB_eq(t:Tk):kD t=(decide (t.cases.length<=30)&&t.cases.all okC):=rfl
def LowC(c:Cs):Prop:=c.inp.length<=17592186044416/\c.out.length<=17592186044416/\c.calm.length<=17592186044416/\(∀v∈c.out,v.length<=17592186044416)/\∀v∈c.calm,v.length<=17592186044416
theorem JF(t:Tk)(A:Bb)(kc:Nat)(hl:t.cases.length<=17592186044416)(aL:∀c∈t.cases,LowC c)(w:Ba)(hA:CAt w w.heap.size A t.cases) :
  Ap An 91 #[Aj #[O U t.n,O U t.ins,O U t.outs,I A t.cases.length kc]] w fun e w'=>e=Am (Ai (kD t))/\Ao w.heap.size w w':=by
 have fA:=zH aL;have H:As (kD t=(decide (t.cases.length<=30)&&t.cases.all okC)):=fewTB_eq t;obtain⟨r,hr⟩:=Kh (kD t);rw[hr] at H ⊢;obtain⟨w1,ah⟩:=Kh (w.alloc (Ah #[O U t.n,O U t.ins,O U t.outs,I A t.cases.length kc] 24));have aI:=zh w (Ah #[O U t.n,O U t.ins,O U t.outs,I A t.cases.length kc] 24);have am:Ao w.heap.size w w1:=by rw[<-ah];exact zw w _
 have co:w1.heap.size=w.heap.size+1:=by rw[<-ah];simp
 rw[ah] at aI;have bK:=zH aI;have aY:=zH am;have HA:=zH ((hA.keep am).more (by omega:w.heap.size<=w1.heap.size));have aq:=zH ah;have q3:=za aI 3 rfl;clear hA ah am aI aL hr;go_enter func91,ntmps91
 by_cases hc:t.cases.length<=30
 case neg=>
  have hR:As (r=Ax):=H.out.trans (by rw[Lm hc,NE]);clear H;go_wp2_with fail;rw[aq.out];go_wp2_with fail
  all_goals first | (exfalso;omega) | skip
  go_ret;exact⟨ze hR.out.symm,aY.out⟩
 case pos=>
 have HR:As (r=(t.cases.drop 0).all okC):=H.out.trans (by rw[Ll hc,Nq,LQ]);clear H;go_wp2_with fail;rw[aq.out];go_wp2_with fail
 all_goals first | (exfalso;omega) | skip
 clear q3 aq
 go_loopw [3] (fun i wr=>∃k:Nat,k<=t.cases.length/\i=O U (k:Int)/\As (r=(t.cases.drop k).all okC)/\As (Ao w1.heap.size w1 wr)) (fun i _=>t.cases.length-(Aq i).toNat)
 case atStart=>exact⟨0,by omega,rfl,HR,Lp _ _⟩
 clear HR;obtain⟨k,hk,rfl,hp,hb⟩:=hrel;have aN:=La hb.out bK.out;have q3:=za aN 3 rfl;clear aN
 by_cases ac:k<t.cases.length
 case neg=>
  have hR:As (r=Av):=hp.out.trans (Jg (by omega));obtain rfl:k=t.cases.length:=by omega
  clear hp;go_wp2_with fail;go_ret;exact⟨ze hR.out.symm,aY.out.trans (hb.out.mono (by omega))⟩
 case pos=>
 obtain⟨b,o,A0,c0,A1,c1,A2,c2,e',dH,d0,d1,d2,I0,I1,I2⟩:=(HA.out.keep hb.out).row k ac;subst e';have fR:=Y9 (p:=okC) ac;obtain⟨l0,l1,l2,l3,l4⟩:=fA.out _ (Ld ac);have aM:=hb.out.size;have dR:=fun (W:Ba) (hW:Ao wr.heap.size wr W)=>YO A1 c1 t.cases[k].out l1 l3 W (((I1.more aM).keep hW).more hW.size)
 have fq:=fun (W:Ba) (hW:Ao wr.heap.size wr W)=>YO A2 c2 t.cases[k].calm l2 l4 W (((I2.more aM).keep hW).more hW.size)
 unfold okC at fR;obtain⟨c,Bu⟩:=Kh (t.cases[k]);rw[Bu] at d0 d1 d2 l0 l1 l2 fR dR fq;obtain⟨b1,aC⟩:=Kh (kC c.out 30);obtain⟨b2,af⟩:=Kh (kC c.calm 30);rw[aC] at fR dR;rw[af] at fR fq;obtain⟨wc,mf⟩:=Kh (wr.alloc (Ah #[I A0 c.inp.length c0,I A1 c.out.length c1,I A2 c.calm.length c2] 118));have Bv:=zh wr (Ah #[I A0 c.inp.length c0,I A1 c.out.length c1,I A2 c.calm.length c2] 118);have lr:Ao wr.heap.size wr wc:=by rw[<-mf];exact zw wr _
 rw[mf] at Bv;obtain⟨p0,p1,p2,_⟩:=Kc Bv;have mD:=zH (dR wc lr);have eC:=zH (fq wc lr);have bk:=zH (hb.out.trans (lr.mono aM));have Ek:=zH mf;have dz:=zH (hp.out.trans fR);obtain⟨il,pd⟩:=Kh c.inp.length;rw[pd] at d0 l0 dz Ek p0;clear hp fR dR fq mf lr Bv aC af Bu pd I0 I1 I2
 by_cases hi:il<=10
 case neg=>
  have hR:As (r=Ax):=dz.out.trans (by rw[Lm hi];rfl);clear dz mD eC;go_wp2_with fail;rw[Ek.out];go_wp2_with fail
  all_goals first | (exfalso;omega) | skip
  go_ret;exact⟨ze hR.out.symm,aY.out.trans (bk.out.mono (by omega))⟩
 case pos=>
 have dg:As (r=((b1&&b2)&&(t.cases.drop (k+1)).all okC)):=dz.out.trans (by rw[Ll hi,Nq];rfl);clear dz;go_wp2_with fail;rw[Ek.out];go_wp2_with fail
 all_goals first | (exfalso;omega) | skip
 refine mD.out.mono ?_;rintro e w2 ⟨rfl,rfl⟩
 cases b1 with
 | false=>
  have hR:As (r=Ax):=dg.out;go_wp2_with fail;go_ret;exact⟨ze hR.out.symm,aY.out.trans (bk.out.mono (by omega))⟩
 | true=>
 go_wp2_with fail;refine eC.out.mono ?_;rintro e w2 ⟨rfl,cx⟩;obtain rfl:=cx.symm
 cases b2 with
 | false=>
  have hR:As (r=Ax):=dg.out;go_wp2_with fail;go_ret;exact⟨ze hR.out.symm,aY.out.trans (bk.out.mono (by omega))⟩
 | true=>
  have hR:As (r=(t.cases.drop (k+1)).all okC):=dg.out;go_wp2_with fail
  go_roundw
  case rel=>exact⟨k+1,by omega,by go_num,hR,bk⟩
  case measure=>simp[Aq];omega
def LowT(t:Tk):Prop:=t.cases.length<=17592186044416/\∀c∈t.cases,LowC c
theorem tk_eq{a b:Tk}(h1:a.n=b.n)(h2:a.ins=b.ins)(h3:a.outs=b.outs)(h4:a.cases=b.cases):a=b:=by cases a;cases b;simp_all
theorem cs_eq{a b:Cs}(h1:a.inp=b.inp)(h2:a.out=b.out)(h3:a.calm=b.calm):a=b:=by cases a;cases b;simp_all
def TwoCs(w0:Ba)(c1 c2:Array Au)(s t:Au)(wx:Ba):Prop:=
 ∃g h:Nat,s=Ak (J ⟨g,0,Z⟩)/\t=Ak (J ⟨h,0,Z⟩)/\wx.heap[g]?=J (Ah c1 118 (0,0))/\wx.heap[h]?=J (Ah c2 118 (0,0))/\Ao w0.heap.size w0 wx
theorem Xp(a b:Tk)(ha:LowT a)(hb:LowT b)(A B:Bb)(ca cb:Nat)(w:Ba)(hA:CAt w w.heap.size A a.cases)(hB:CAt w w.heap.size B b.cases) :
  Ap An 127 #[Aj #[O U a.n,O U a.ins,O U a.outs,I A a.cases.length ca],Aj #[O U b.n,O U b.ins,O U b.outs,I B b.cases.length cb]] w fun e w'=>e=Am (Ai (decide (a=b)))/\Ao w.heap.size w w':=by
 obtain⟨dS,dI⟩:=ha;obtain⟨aC,af⟩:=hb;have iF:=zH dI;have le:=zH af;obtain⟨w1,ah,d0,d1,bI,hBw⟩:=zZ w #[O U a.n,O U a.ins,O U a.outs,I A a.cases.length ca] #[O U b.n,O U b.ins,O U b.outs,I B b.cases.length cb] 24 24;have HA:=zH ((hA.keep hBw).more hBw.size);have HB:=zH ((hB.keep hBw).more hBw.size);have bk:=zH hBw;have bu:=zH d0;have bQ:=zH d1;have aq:=zH ah;obtain⟨p0,p1,p2,p3,_⟩:=Kb d0;obtain⟨q0,q1,q2,q3,_⟩:=Kb d1;clear ah d0 d1 hBw hA hB dI af;have HT:As (a≠b->decide (a=b)=Ax):=fun h=>Lm h
 have HU:As (a=b->decide (a=b)=Av):=fun h=>Ll h
 obtain⟨r,hr⟩:∃r,decide (a=b)=r:=⟨_,rfl⟩;rw[hr] at HT HU ⊢;clear hr;go_enter func127,ntmps127
 by_cases h1:a.n=b.n/\a.ins=b.ins/\a.outs=b.outs/\a.cases.length=b.cases.length
 case neg=>
  have hR:=zH (HT.out (fun h=>h1 (by rw[h];exact⟨rfl,rfl,rfl,rfl⟩)));clear HT HU
  by_cases k1:a.n=b.n
  case neg=>
   have e0:(a.n != b.n)=Av:=by simpa using k1
   clear h1;go_wp2_with fail;rw[aq.out];go_wp2_with fail
   all_goals
    go_ret;exact⟨ze hR.out.symm,bk.out⟩
  case pos=>
  have e0:(a.n != b.n)=Ax:=by simpa using k1
  by_cases k2:a.ins=b.ins
  case neg=>
   have e1:(a.ins != b.ins)=Av:=by simpa using k2
   clear h1 k1;go_wp2_with fail;rw[aq.out];go_wp2_with fail
   all_goals
    go_ret;exact⟨ze hR.out.symm,bk.out⟩
  case pos=>
  have e1:(a.ins != b.ins)=Ax:=by simpa using k2
  by_cases k3:a.outs=b.outs
  case neg=>
   have e2:(a.outs != b.outs)=Av:=by simpa using k3
   clear h1 k1 k2;go_wp2_with fail;rw[aq.out];go_wp2_with fail
   all_goals
    go_ret;exact⟨ze hR.out.symm,bk.out⟩
  case pos=>
  have e2:(a.outs != b.outs)=Ax:=by simpa using k3
  have k4:a.cases.length≠b.cases.length:=fun h=>h1 ⟨k1,k2,k3,h⟩
  have e3:((a.cases.length:Int) != (b.cases.length:Int))=Av:=by simp;omega
  clear h1 k1 k2 k3;go_wp2_with fail;rw[aq.out];go_wp2_with fail
  all_goals
   go_ret;exact⟨ze hR.out.symm,bk.out⟩
 case pos=>
 obtain⟨k1,k2,k3,k4⟩:=h1;have H3:As (a.cases=b.cases->r=Av):=fun h=>HU.out (tk_eq k1 k2 k3 h)
 have H4:As (a.cases≠b.cases->r=Ax):=fun h=>HT.out (fun e=>h (congrArg Tk.cases e))
 have HL:=zH k4;rw[k1] at p0 aq bu ⊢;rw[k2] at p1 aq bu ⊢;rw[k3] at p2 aq bu ⊢;rw[<-k4] at q3 aC aq bQ ⊢;clear k1 k2 k3 k4 HT HU;go_wp2_with fail;rw[aq.out];go_wp2_with fail;clear p0 p1 p2 p3 q0 q1 q2 q3 aq
 go_loopw [5] (fun i wr=>∃k:Nat,k<=a.cases.length/\i=O U (k:Int)/\As (a.cases.take k=b.cases.take k)/\As (Ao w1.heap.size w1 wr)) (fun i _=>a.cases.length-(Aq i).toNat)
 case atStart=>exact⟨0,by omega,rfl,by rw[As,LP,LP],Lp _ _⟩
 obtain⟨k,hk,rfl,hp,aA⟩:=hrel;have p3:=za (La aA.out bu.out) 3 rfl;have q3:=za (La aA.out bQ.out) 3 rfl;have MR:=HL.out
 by_cases ac:k<a.cases.length
 case neg=>
  obtain rfl:k=a.cases.length:=by omega
  have hR:=zH (H3.out (xO HL.out hp.out));clear H3 H4 hp;go_wp2_with fail;go_ret;exact⟨ze hR.out.symm,Lc bk.out aA.out⟩
 case pos=>
 have dQ:k<b.cases.length:=by omega
 clear MR;obtain⟨ba,oa,A0,m0,A1,m1,A2,m2,ea,Kl,a0,a1,a2,Mc,Ef,Ee⟩:=(HA.out.keep aA.out).row k ac;obtain⟨bb,ob,B0,n0,B1,n1,B2,n2,eb,aI,b0,b1,b2,Mb,Ed,Ec⟩:=(HB.out.keep aA.out).row k dQ;subst ea;subst eb;have dD:=zH (iF.out _ (Ld ac));have cV:=zH (le.out _ (Ld dQ));have h0:As (a.cases[k]=b.cases[k]->a.cases.take (k+1)=b.cases.take (k+1)):=fun he=>yG hp.out ac dQ he
 have hN:As (a.cases[k]≠b.cases[k]->r=Ax):=fun he=>H4.out (fun h=>he (by simp only[h]))
 obtain⟨X,hX⟩:=Kh (a.cases[k]);obtain⟨Y,hY⟩:=Kh (b.cases[k]);rw[hX] at a0 a1 a2 Mc Ef Ee dD h0 hN;rw[hY] at b0 b1 b2 Mb Ed Ec cV h0 hN;clear hX hY hp;have iL:=aA.out.size;have HI:=zH (fun (W:Ba) (hW:Ao wr.heap.size wr W)=>(⟨((Mc.more iL).keep hW).more hW.size,((Ef.more iL).keep hW).more hW.size,((Ee.more iL).keep hW).more hW.size⟩:IAt W W.heap.size A0 X.inp/\LAt W W.heap.size A1 X.out/\LAt W W.heap.size A2 X.calm));have HJ:=zH (fun (W:Ba) (hW:Ao wr.heap.size wr W)=>(⟨((Mb.more iL).keep hW).more hW.size,((Ed.more iL).keep hW).more hW.size,((Ec.more iL).keep hW).more hW.size⟩:IAt W W.heap.size B0 Y.inp/\LAt W W.heap.size B1 Y.out/\LAt W W.heap.size B2 Y.calm));clear Mc Ef Ee Mb Ed Ec;have iS:w.heap.size<wr.heap.size:=by have:=zd bu.out;omega
 have dP:w.heap.size+1<wr.heap.size:=by have:=zd bQ.out;omega
 have ti:ba<wr.heap.size:=by omega
 have th:bb<wr.heap.size:=by omega
 have iq:As (∀W,Ao wr.heap.size wr W->W.cell? ⟨w.heap.size,3,Z⟩=J (I (J ⟨ba,oa,Z⟩) a.cases.length ca)/\W.cell? ⟨w.heap.size+1,3,Z⟩=J (I (J ⟨bb,ob,Z⟩) a.cases.length cb) /\
   W.cell? ⟨ba,oa+k*3,Z⟩=J (I A0 X.inp.length m0)/\W.cell? ⟨ba,oa+k*3+1,Z⟩=J (I A1 X.out.length m1)/\W.cell? ⟨ba,oa+k*3+2,Z⟩=J (I A2 X.calm.length m2) /\
   W.cell? ⟨bb,ob+k*3,Z⟩=J (I B0 Y.inp.length n0)/\W.cell? ⟨bb,ob+k*3+1,Z⟩=J (I B1 Y.out.length n1)/\W.cell? ⟨bb,ob+k*3+2,Z⟩=J (I B2 Y.calm.length n2)):=fun W hW=>
  ⟨(hW.cell (p:=⟨_,_,Z⟩) iS).trans p3,(hW.cell (p:=⟨_,_,Z⟩) dP).trans q3,(hW.cell (p:=⟨_,_,Z⟩) ti).trans a0,(hW.cell (p:=⟨_,_,Z⟩) ti).trans a1,(hW.cell (p:=⟨_,_,Z⟩) ti).trans a2,
   (hW.cell (p:=⟨_,_,Z⟩) th).trans b0,(hW.cell (p:=⟨_,_,Z⟩) th).trans b1,(hW.cell (p:=⟨_,_,Z⟩) th).trans b2⟩
 have cq:(0:Int)<=(k:Int):=by omega
 have cy:(k:Int)<(a.cases.length:Int):=by omega
 go_wp2_with fail
 go_cut [6,7] (fun s6 s7 wx=>TwoCs wr #[I A0 X.inp.length m0,I A1 X.out.length m1,I A2 X.calm.length m2] #[I B0 Y.inp.length n0,I B1 Y.out.length n1,I B2 Y.calm.length n2] s6 s7 wx)
 case first=>
  go_region_held3 (fun W=>W.cell? ⟨w.heap.size,3,Z⟩=J (I (J ⟨ba,oa,Z⟩) a.cases.length ca)/\W.cell? ⟨w.heap.size+1,3,Z⟩=J (I (J ⟨bb,ob,Z⟩) a.cases.length cb) /\
   W.cell? ⟨ba,oa+k*3,Z⟩=J (I A0 X.inp.length m0)/\W.cell? ⟨ba,oa+k*3+1,Z⟩=J (I A1 X.out.length m1)/\W.cell? ⟨ba,oa+k*3+2,Z⟩=J (I A2 X.calm.length m2) /\
   W.cell? ⟨bb,ob+k*3,Z⟩=J (I B0 Y.inp.length n0)/\W.cell? ⟨bb,ob+k*3+1,Z⟩=J (I B1 Y.out.length n1)/\W.cell? ⟨bb,ob+k*3+2,Z⟩=J (I B2 Y.calm.length n2))
   (first | exact⟨p3,q3,a0,a1,a2,b0,b1,b2⟩ | exact iq.out _ (by first | exact(zw wr _).drew | exact zw wr _ | exact(xX wr _ _).drew | exact xX wr _ _))
   (fail)
  all_goals
   go_wp2_with fail
   go_meet
  . exact⟨_,_,rfl,rfl,zB (zh wr _) _,(by have:=zh (wr.alloc (Ah #[I A0 X.inp.length m0,I A1 X.out.length m1,I A2 X.calm.length m2] 118)) (Ah #[I B0 Y.inp.length n0,I B1 Y.out.length n1,I B2 Y.calm.length n2] 118);rwa[LZ] at this),by first | exact xX wr _ _ | exact(xX wr _ _).drew⟩
  exact⟨_,_,rfl,rfl,(by have:=zh (wr.alloc (Ah #[I B0 Y.inp.length n0,I B1 Y.out.length n1,I B2 Y.calm.length n2] 118)) (Ah #[I A0 X.inp.length m0,I A1 X.out.length m1,I A2 X.calm.length m2] 118);rwa[LZ] at this),zB (zh wr _) _,by first | exact xX wr _ _ | exact(xX wr _ _).drew⟩
 obtain⟨g,h,rfl,rfl,G,H,aM⟩:=hcut;obtain⟨g0,g1,g2,_⟩:=Kc G;obtain⟨j0,j1,j2,_⟩:=Kc H;have dA:=zH (aA.out.trans (aM.mono iL));have HO:=zH (yT A0 B0 m0 n0 X.inp Y.inp dD.out.1 cV.out.1 wc (HI.out wc aM).1 (HJ.out wc aM).1);have oh:=zH (fun m=>jj A1 B1 m1 n1 X.out Y.out dD.out.2.1 cV.out.2.1 dD.out.2.2.2.1 cV.out.2.2.2.1 (wc.drewN m) (HI.out wc aM).2.1 (HJ.out wc aM).2.1);have l5:=zH (fun m=>jj A2 B2 m2 n2 X.calm Y.calm dD.out.2.2.1 cV.out.2.2.1 dD.out.2.2.2.2 cV.out.2.2.2.2 (wc.drewN m) (HI.out wc aM).2.2 (HJ.out wc aM).2.2);have WC:X.inp≠Y.inp->As (r=Ax):=fun h=>hN.out (fun e=>h (by rw[e]))
 have WB:X.out≠Y.out->As (r=Ax):=fun h=>hN.out (fun e=>h (by rw[e]))
 have WA:X.calm≠Y.calm->As (r=Ax):=fun h=>hN.out (fun e=>h (by rw[e]))
 have Wz:X.inp=Y.inp->X.out=Y.out->X.calm=Y.calm->As (a.cases.take (k+1)=b.cases.take (k+1)):=fun p q s=>h0.out (cs_eq p q s)
 have ay:=zH WC;have al:=zH WB;have aw:=zH WA;have cA:=zH Wz;have HZ:=zH (@xQ X.inp Y.inp);have HS:=zH (fun e:X.inp=Y.inp=>show zj X.inp Y.inp=0 by rw[e];exact yC _);obtain⟨o,ho⟩:=Kh (zj X.inp Y.inp);rw[ho] at HO HZ HS;go_wp2_with fail;refine HO.out.mono ?_;rintro e w2 ⟨rfl,z,rfl⟩
 by_cases t1:X.inp=Y.inp
 case neg=>
  have hR:=zH (ay.out t1).out;have e0:(o != 0)=Av:=by simpa using fun h=>t1 (HZ.out h)
  go_wp2_with fail
  all_goals
   go_ret;exact⟨ze hR.out.symm,zx (Lc bk.out dA.out) _⟩
 case pos=>
 have e0:(o != 0)=Ax:=by simpa using HS.out t1
 have fg:=zH (cA.out t1);go_wp2_with fail;refine(oh.out z).mono ?_;rintro e w2 ⟨rfl,z2,rfl⟩
 by_cases t2:X.out=Y.out
 case neg=>
  have hR:=zH (al.out t2).out;rw[Lm t2];clear al aw fg l5 t2;go_wp2_with fail
  all_goals
   go_ret;exact⟨ze hR.out.symm,by repeat (first | exact Lc bk.out dA.out | refine zx ?_ _)⟩
 case pos=>
 have M':=zH (fg.out t2);rw[Ll t2];clear al fg t2;go_wp2_with fail;refine(l5.out (z+z2)).mono ?_;rintro e w2 ⟨rfl,z3,rfl⟩;clear l5
 by_cases t3:X.calm=Y.calm
 case neg=>
  have hR:=zH (aw.out t3).out;rw[Lm t3];clear aw M' t3;go_wp2_with fail
  all_goals
   go_ret;exact⟨ze hR.out.symm,by repeat (first | exact Lc bk.out dA.out | refine zx ?_ _)⟩
 have hR:=zH (M'.out t3).out;rw[Ll t3];clear aw M' t3;go_wp2_with fail
 go_roundw
 case rel=>exact⟨k+1,by omega,by go_num,hR,by repeat (first | exact dA.out | refine zx ?_ _)⟩
 simp[Aq];omega
end
section
open Go.RowKit
def FewA(a:Ad):Prop:=a.sts.length<=8/\a.mvs.length<=40
theorem FewA.each{a:Ad}(h:FewA a){l:List Mv}(hl:l∈a.sts):l.length<=40:=by
 refine Lx ?_ h.2;unfold Ad.mvs;obtain⟨i,hi,rfl⟩:=Nz.1 hl;exact(List.sublist_flatten_of_mem (Ld hi)).length_le
theorem ul{a:Ad}{p:Option Mv}{m:Mv}(h:zQ m.r≠0):yK a p m=zQ m.r:=Ln h
theorem QX{a:Ad}{p:Option Mv}{m:Mv}(h:zQ m.r=0)(h2:m.r.n≠a.n):yK a p m=22:=by unfold yK;rw[Lj (by simpa using h),Ln h2]
theorem um{a:Ad}{p:Option Mv}{m:Mv}(h:zQ m.r=0)(h2:m.r.n=a.n)(h3:uH p m=Av):yK a p m=14:=by unfold yK;rw[Lj (by simpa using h),Lj (by simpa using h2),Ln h3]
theorem YC{a:Ad}{p:Option Mv}{m:Mv}(h:zQ m.r=0)(h2:m.r.n=a.n)(h3:uH p m=Ax)(h4:m.to<0\/(a.sts.length:Int)<=m.to):yK a p m=2:=by unfold yK;rw[Lj (by simpa using h),Lj (by simpa using h2),Lj (by rw[h3];decide),Ln h4]
theorem YD{a:Ad}{p:Option Mv}{m:Mv}(h:zQ m.r=0)(h2:m.r.n=a.n)(h3:uH p m=Ax)(h4:¬(m.to<0\/(a.sts.length:Int)<=m.to)):yK a p m=0:=by unfold yK;rw[Lj (by simpa using h),Lj (by simpa using h2),Lj (by rw[h3];decide),Lj h4]
theorem uc{a:Ad}{l:List Mv}(h:l.length=0):yS a l=19:=Ln h
theorem wh{a:Ad}{l:List Mv}(h:l.length≠0):yS a l=yJ a l 0:=Lj h
theorem Jw(a:Ad)(SV:Bb)(ks:Nat)(_hsl:a.sts.length<=8)(A:Bb)(k0:Nat)(l:List Mv)(hl:l.length<=40)(w:Ba)(hA:MAt w w.heap.size A l) :
  Ap An 114 #[Aj #[O U a.n,I SV a.sts.length ks],I A l.length k0] w fun e w'=>e=Am (O U (yS a l))/\Ao w.heap.size w w':=by
 have HA:=zH hA;have ay:=zH (@uc a l);have al:=zH (@wh a l);obtain⟨E,hE⟩:=Kh (yS a l);rw[hE] at ay al ⊢
 by_cases hz:l.length=0
 . have hR:=zH (ay.out hz)
   have e0:((l.length:Int)==0)=Av:=by simp[hz]
   clear ay al hz;go_enter func114,ntmps114;go_wp2_with fail;go_ret;exact⟨zc hR.out.symm,zw w _⟩
 have HE:=zH (al.out hz);have e0:((l.length:Int)==0)=Ax:=beq_eq_false_iff_ne.2 (by omega);clear ay al hz;go_enter func114,ntmps114;go_wp2_with fail
 obtain⟨W0,bH,b0,bn,aX⟩:∃W0,w.alloc (Ah #[O U a.n,I SV a.sts.length ks] 27)=W0/\W0.heap[w.heap.size]?=J (Ah #[O U a.n,I SV a.sts.length ks] 27 (0,0))/\w.heap.size+1<=W0.heap.size/\Ao w.heap.size w W0:=
  ⟨_,rfl,zh _ _,by simp,zw w _⟩
 rw[bH];have fh:=zH aX;have lZ:=zH b0;clear bH aX b0 e0
 go_loopw [13] (fun i wr=>∃k:Nat,k<=l.length/\i=O U (k:Int)/\As (E=yJ a l k)/\Ao W0.heap.size W0 wr) (fun i _=>l.length-(Aq i).toNat)
 case atStart=>exact⟨0,by omega,rfl,HE,Lp _ _⟩
 obtain⟨k,hk,rfl,ai,aA⟩:=hrel;clear HE;have ce:=zH (Lc fh.out aA);have HW:=zH aA;clear aA
 by_cases ac:k<l.length
 . obtain⟨b,o,rfl,dH,c0,c1,c2,c3,c4,c5,c6,c7⟩:=(HA.out.keep ce.out).row k ac
   have aG:=zH (@uk a l k ac);have az:=zH (@wK a l k ac);have hb:=ce.out.size;have mL:w.heap.size<wr.heap.size:=by have:=HW.out.size;omega
   obtain⟨bo,bJ⟩:=Kh (uH (zp l k) l[k]);have bD:=zH bJ;have m1:=zH (@ul a (zp l k) l[k]);have m2:=zH (@QX a (zp l k) l[k]);have m3:=zH (@um a (zp l k) l[k]);have m4:=zH (@YC a (zp l k) l[k]);have m5:=zH (@YD a (zp l k) l[k]);rw[bJ] at m3 m4 m5;obtain⟨m,hm⟩:=Kh (l[k]);have HX:=zH hm;obtain⟨mE,CY⟩:=Kh (yK a (zp l k) l[k]);rw[CY] at aG az m1 m2 m3 m4 m5;rw[hm] at c0 c1 c2 c3 c4 c5 c6 c7 m1 m2 m3 m4 m5;have HR:=zH (fun w'=>wu m.r w');obtain⟨rE,CM⟩:=Kh (zQ m.r);rw[CM] at m1 m2 m3 m4 m5 HR;unfold Rd.cells at HR;clear bJ hm CY CM;go_wp2_with fail
   obtain⟨W1,cO,b1,bI,aB⟩:∃W1,wr.alloc (Ah #[O U m.r.n,O U m.r.h0,O U m.r.h1,O U m.r.h2,O U m.r.h3,O U m.r.h4,O U m.r.f,O U m.to] 121)=W1/\W1.heap[wr.heap.size]?=J (Ah #[O U m.r.n,O U m.r.h0,O U m.r.h1,O U m.r.h2,O U m.r.h3,O U m.r.h4,O U m.r.f,O U m.to] 121 (0,0))/\wr.heap.size+1<=W1.heap.size/\Ao wr.heap.size wr W1:=
    ⟨_,rfl,zh _ _,by simp,zw wr _⟩
   rw[cO];refine(HR.out W1).mono ?_;rintro e w1 ⟨rfl,aC⟩;have dJ:=zH ((ce.out.trans (aB.mono hb)).trans (aC.mono (by have:=aB.size;omega)));have nJ:=zH ((Lc HW.out aB).trans (aC.mono (by have:=aB.size;have:=HW.out.size;omega)));have d0:=Lb nJ.out (by omega) lZ.out;have d1:=Lb aC (by omega) b1;have bQ:=zH d1;have bu:=zH d0;obtain⟨q0,q1,_⟩:=Ka d0;obtain⟨p0,p1,p2,p3,p4,p5,p6,p7,_⟩:=Ke d1;have Fl:=zd d1;clear cO b1 aB aC d0 d1 c0 c1 c2 c3 c4 c5 c6 c7 HR
   by_cases hr:rE=0
   case neg=>
    have he:=m1.out hr;have hR:=zH (ai.out.trans ((aG.out (by rw[he];exact hr)).trans he));have e0:(rE != 0)=Av:=by simpa using hr
    clear aG az m1 m2 m3 m4 m5 he hr ai bD HX;go_wp2_with fail;go_ret;exact⟨zc hR.out.symm,dJ.out⟩
   case pos=>
   subst hr;clear m1
   by_cases hn:m.r.n=a.n
   case neg=>
    have he:=m2.out (by simp) hn;have hR:=zH (ai.out.trans ((aG.out (by rw[he];decide)).trans he));have e0:(m.r.n != a.n)=Av:=by simpa using hn
    clear aG az m2 m3 m4 m5 he hn ai bD HX;go_wp2_with fail;go_ret;exact⟨zc hR.out.symm,dJ.out⟩
   case pos=>
   have e0:(m.r.n != a.n)=Ax:=by simpa using hn
   have n3:=zH (m3.out (by simp) hn);have n4:=zH (m4.out (by simp) hn);have n5:=zH (m5.out (by simp) hn);clear m2 hn m3 m4 m5
   cases k with
   | zero=>
    obtain rfl:bo=Ax:=by rw[<-bD.out];rfl
    have g0:decide ((0:Int)<0)=Ax:=by decide
    clear bD HX n3;go_wp2_with fail;go_quiet (fail)
    by_cases ht:m.to<0\/(a.sts.length:Int)<=m.to
    . have he:=n4.out (by simp) ht
      have hR:=zH (ai.out.trans ((aG.out (by rw[he];decide)).trans he));clear aG az n4 n5 he ai
      by_cases su:m.to<0
      . clear ht
        go_wp2_with fail;go_ret;exact⟨zc hR.out.symm,zx dJ.out _⟩
      . have st:(a.sts.length:Int)<=m.to:=by omega
        clear ht;go_wp2_with fail
        all_goals first | (exfalso;omega) | skip
        go_ret;exact⟨zc hR.out.symm,zx dJ.out _⟩
    . have hR:=zH (ai.out.trans (az.out (n5.out (by simp) ht)))
      have su:¬m.to<0:=by omega
      have st:¬(a.sts.length:Int)<=m.to:=by omega
      clear aG az n4 n5 ai ht;go_wp2_with fail
      all_goals first | (exfalso;omega) | skip
      go_roundw
      case rel=>exact⟨0+1,by omega,by go_num,hR,zx nJ.out _⟩
      case measure=>simp[Aq];omega
   | succ j=>
    have hj:j<l.length:=by omega
    have bV:uH (zp l (j+1)) l[j+1]=decide (0<=zj l[j].r.l l[j+1].r.l):=by rw[zT l j hj];rfl
    rw[HX.out] at bV;rw[show uH (zp l (j+1)) m=bo by have:=bD.out;rwa[HX.out] at this] at bV;obtain⟨b',o',e',_,u0,u1,u2,u3,u4,u5,u6,u7⟩:=(HA.out.keep dJ.out).row j hj
    cases e'
    have hc:=fun w'=>gJ l[j].r m.r w'
    obtain⟨mj,CW⟩:=Kh (l[j]);rw[CW] at bV hc u0 u1 u2 u3 u4 u5 u6 u7;obtain⟨r,hr⟩:=Kh (zj mj.r.l m.r.l);rw[hr] at bV hc;unfold Rd.cells at hc;have cG:=zH bV;have HC:=zH hc;have g1:((j:Int)+1).toNat=j+1:=by omega
    have g3:IntKind.i64.wrap ((j:Int)+1-1)=(j:Int):=by rw[Lw];omega
    have g5:IntKind.i64.wrap ((j:Int)+1)=(j:Int)+1:=by rw[Lw];omega
    have g6:decide ((0:Int)<(j:Int)+1)=Av:=Ll (by omega);have g7:IntKind.i64.wrap (j:Int)=(j:Int):=by rw[Lw];omega
    have g8:(0:Int)<=(j:Int):=by omega
    have g9:(j:Int)<(l.length:Int):=by omega
    clear bV hc hr CW bD HX;go_wp2_with fail
    go_still_tail 11,(by kernel_rfl)
    change wpList _ _ _ _ _ w1.drew;obtain⟨w2,cx⟩:∃w2,w2=w1.drew:=⟨_,rfl⟩;have AC:As (Ao w.heap.size w w2):=by rw[cx];exact dJ.out.drew
    have EZ:As (Ao W0.heap.size W0 w2):=by rw[cx];exact nJ.out.drew
    have ay:As (w2.heap[wr.heap.size]?=J (Ah #[O U m.r.n,O U m.r.h0,O U m.r.h1,O U m.r.h2,O U m.r.h3,O U m.r.h4,O U m.r.f,O U m.to] 121 (0,0))):=by rw[cx];exact bQ.out
    have eS:As (w2.heap[w.heap.size]?=J (Ah #[O U a.n,I SV a.sts.length ks] 27 (0,0))):=by rw[cx];exact bu.out
    rw[<-cx];clear bu bQ cx q1 p1 p2 p3 p4 p5 p6 p7 u0 u1 u2 u3 u4 u5 u6 u7 g1 g3 g5 g7 g8 g9;go_wp2_with fail;refine(HC.out w2).mono ?_;rintro e w3 ⟨rfl,ap⟩;have lF:=zH (Lc AC.out ap);have BW3:=zH (Lc EZ.out ap);have d0:=La ap eS.out;have d1:=La ap ay.out;have q1:=za d0 1 rfl;have p7:=za d1 7 rfl
    cases bo with
    | true=>
     have KV:0<=r:=LK cG.out.symm;have he:=n3.out (by simp);have hR:=zH (ai.out.trans ((aG.out (by rw[he];decide)).trans he));go_wp2_with fail
     all_goals first | (exfalso;omega) | skip
     go_ret;exact⟨zc hR.out.symm,lF.out⟩
    | false=>
     have KV:¬0<=r:=NG cG.out.symm
     by_cases ht:m.to<0\/(a.sts.length:Int)<=m.to
     . have he:=n4.out (by simp) ht
       have hR:=zH (ai.out.trans ((aG.out (by rw[he];decide)).trans he))
       by_cases su:m.to<0
       . clear ht
         go_wp2_with fail
         all_goals first | (exfalso;omega) | skip
         go_ret;exact⟨zc hR.out.symm,lF.out⟩
       . have st:(a.sts.length:Int)<=m.to:=by omega
         go_wp2_with fail
         all_goals first | (exfalso;omega) | skip
         go_ret;exact⟨zc hR.out.symm,lF.out⟩
     . have hR:=zH (ai.out.trans (az.out (n5.out (by simp) ht)))
       have su:¬m.to<0:=by omega
       have st:¬(a.sts.length:Int)<=m.to:=by omega
       go_wp2_with fail
       all_goals first | (exfalso;omega) | skip
       go_roundw
       case rel=>exact⟨j+1+1,by omega,by go_num,hR,BW3.out⟩
       case measure=>simp[Aq];omega
 obtain rfl:k=l.length:=by omega
 have hR:=zH (ai.out.trans uj);go_wp2_with fail;go_ret;exact⟨zc hR.out.symm,ce.out⟩
end
section
open Go.RowKit Go.Shelf
structure KeepB(K:Nat->Prop)(W W':Ba):Prop where
 size:W.heap.size<=W'.heap.size
 same:∀k,K k->k<W.heap.size->W'.heap[k]?=W.heap[k]?
theorem KeepB.trans{K:Nat->Prop}{A B C:Ba}(h:KeepB K A B)(k:KeepB K B C):KeepB K A C:=
 ⟨Lx h.size k.size,fun i hi hl=>(k.same i hi (LE hl h.size)).trans (h.same i hi hl)⟩
theorem KeepB.drew(K:Nat->Prop)(W:Ba):KeepB K W W.drew:=⟨Lh _,fun _ _ _=>rfl⟩
theorem KeepB.alloc(K:Nat->Prop)(W:Ba)(o:Obj):KeepB K W (W.alloc o):=⟨by simp,fun k _ hk=>NZ W o k hk⟩
theorem KeepB.setCell{K:Nat->Prop}{W:Ba}{a:Addr}(h:¬K a.block)(v:Au):KeepB K W (W.setCell a v):=
 ⟨by simp[World.setCell],fun k hk _=>Lf W a v k (fun e=>h (e▸hk))⟩
theorem KeepB.of_below{K:Nat->Prop}{W W':Ba}{B:Nat}(h:Ao B W W')(hK:∀k,K k->k<B):KeepB K W W':=
 ⟨h.size,fun k hk _=>h.block k (hK k hk)⟩
theorem KeepB.of_grown{K:Nat->Prop}{W W':Ba}{row:Option Nat}(h:W.grownBy W' row)(hK:∀k,row=J k->¬K k):KeepB K W W':=
 ⟨h.size,fun k hk hl=>h.block k hl (fun e=>hK k e.symm hk)⟩
theorem KeepB.mono{K K':Nat->Prop}{W W':Ba}(h:KeepB K W W')(hK:∀k,K' k->K k):KeepB K' W W':=⟨h.size,fun k hk=>h.same k (hK k hk)⟩
theorem KeepB.putObj{K:Nat->Prop}{W:Ba}{l:Nat}(h:¬K l)(o:Obj):KeepB K W (W.putObj l o):=
 ⟨by simp,fun k hk _=>NX (fun e=>h (e▸hk))⟩
def Iter{β:Type}(P:Program)(g:Nat)(lb:Array Au)(fO:β->Array Au)(K:Nat->Prop)(xs:List β)(w:Ba):Prop:=
 ∀n,1<=n->SeqStopsK Fence.wide n P g lb (fun x:{ x:β // x∈xs }=>fO x.1) (KeepB K) (fun ys=>ys.map (·.1)=xs) (fun pre=>pre.map (·.1) <+: xs) xs.length w
section
variable {P:Program}
theorem kg{β:Type}{g:Operand}{ps:Array Tmp}{assign body:Code}{Q:Exit->Act->Ba->Prop}{a:Act}{w:Ba}
  {gf:Nat} {lb:Array Au} (hg:a.eval g=.func (.func gf) #[] lb) (eg:Enters P gf)
  {fO:β->Array Au} {K:Nat->Prop} {xs:List β} (ee:Iter P gf lb fO K xs w) (hK:∀k,K k->k<w.heap.size) (mW:∀x,(fO x).size=ps.size)
  (Ae:List { x:β // x∈xs }->Ba->Prop) (Ix:Code->List { x:β // x∈xs }->Ba->Prop) (hI:OwnFrom w.heap.size Ae) (KI:∀c,OwnFrom w.heap.size (Ix c)) (h0:Ae [] w) (a₁:{ x:β // x∈xs }->Act)
  (fL:∀(l:Nat) (x:{ x:β // x∈xs }) (W:Ba) (K:Act->Ba->Prop),K (a₁ x) W ->
   assign.wpIn (Fence.wide.inRound l) 7 P (Exit.then K (fun _ _ _=>False)) { tmps:=(ps.zip (fO x.1)).foldl (fun t (p,v)=>t.setIfInBounds p v) a.tmps,defers:=[] } W)
  (nm:∀(l:Nat) (pre:List { x:β // x∈xs }) (x:{ x:β // x∈xs }) (W:Ba),Ae pre W->pre.length<xs.length->body.wpIn (Fence.wide.inRound l) 7 P (ownPostG w.heap.size (KeepB K) Ae Ix (pre++[x]) W) (a₁ x) W)
  (nj:∀(D:Nat) (ys:List { x:β // x∈xs }) (W:Ba),w.heap.size<=D->ys.map (·.1)=xs->Ae ys W->W.heap[D]?=J (.deferred (J []))->Q .normal { a with defers:={ target:=.collected D,args:=#[] }::a.defers } W)
  (mS:∀(D:Nat) (c:Code) (pre:List { x:β // x∈xs }) (W:Ba),w.heap.size<=D->pre.map (·.1) <+: xs->Ix c pre W->W.heap[D]?=J (.deferred (J []))->c.wp P Q { a with defers:={ target:=.collected D,args:=#[] }::a.defers } W) :
  (Code.rangeFunc g ps assign body).wp P Q a w:=
 (RE (n:=9)).1 (wpIn_rangeFunc_ownG (F:=Fence.wide) (n:=9) rfl (by omega) hg trivial eg (ee 8 (by omega)) KeepB.trans
  (fun W l o o' hl _ _ _=>KeepB.putObj (fun hk=>by have:=hK l hk;omega) o') (Lp _ _) (fun x=>mW x.1) Ae Ix hI KI h0 a₁ fL nm nj
  (fun D c pre W hD hS hc hk=>RE.2 (mS D c pre W hD hS hc hk)))
def Marks(B:Nat)(ds:List Deferred)(w:Ba):Prop:=
 ∃rs:List Nat,ds=rs.map (fun r=>{ target:=.collected r,args:=#[] })/\rs.Nodup/\∀r∈rs,B<=r/\w.heap[r]?=J (.deferred (J []))
theorem Marks.nil(B:Nat)(w:Ba):Marks B [] w:=⟨[],rfl,List.nodup_nil,fun _ h=>by cases h⟩
structure Shut(B:Nat)(w w':Ba):Prop where
 below:Ao B w w'
 same:∀(k:Nat) (o:Obj),w.heap[k]?=J o->o.isCells=Av->w'.heap[k]?=J o
theorem Shut.refl(B:Nat)(w:Ba):Shut B w w:=⟨Lp _ _,fun _ _ h _=>h⟩
theorem Shut.own{B:Nat}{w w':Ba}(h:Shut B w w'){aa:Nat}{e:TypeId}{size:Nat}{v:Au}{k:Nat}{xs:List Au}(hr:w.ownsRow aa e size v k xs):w'.ownsRow aa e size v k xs:=by
 refine⟨hr.1,?_⟩;rcases hr.2 with hn | ⟨g,cap,cur,hv,hb,hg,rest⟩
 . exact .inl hn
 exact .inr ⟨g,cap,cur,hv,hb,h.same g _ hg rfl,rest⟩
theorem Shut.cell{B:Nat}{w w':Ba}(h:Shut B w w'){a:Addr}{v:Au}(hc:w.cell? a=J v):w'.cell? a=J v:=by
 obtain⟨o,ho,iW⟩:=Ro hc;rw[L7 ((h.same _ _ ho iW).trans ho.symm)];exact hc
theorem qU{fn:Func}{tmps:Array Au}{R:Ending->Ba->Prop}{B n:Nat}{v:Au}(aR:∀W,(results fn tmps).run P W=.ok v W) :
  ∀(rs:List Nat) (w:Ba),rs.Nodup->(∀r∈rs,B<=r/\w.heap[r]?=J (.deferred (J [])))->(∀W,Shut B w W->R (Am v) W) ->
   LeavesInM Fence.wide n P fn tmps R (rs.map (fun r=>{ target:=.collected r,args:=#[] })) .returning w
 | [],w,_,_,hR=>⟨v,aR w,hR w (Shut.refl _ _)⟩
 | r::rs,w,hn,hm,hR=>by
  obtain⟨hr,H9⟩:=PB.1 hn;obtain⟨hB,hk⟩:=hm r (by simp);refine⟨by simp,.inl ⟨r,_,rfl,run_takeDeferred hk,?_⟩⟩;refine qU aR rs _ H9 (fun r' fG=>⟨(hm r' (by simp[fG])).1,?_⟩) (fun W hW=>hR W ?_)
  . rw[NX (by rintro rfl;exact hr fG)]
    exact(hm r' (by simp[fG])).2
  . refine⟨((Lp B w).grown (grownBy_putObj' w r (.deferred Z)) (by have:=(Li.1 hk).1;omega) (fun k e=>by cases e;exact hB)).trans hW.below,fun k o ho hc=>?_⟩
    refine hW.same k o ?_ hc
    by_cases e:k=r
    . subst e;rw[hk] at ho;cases ho;cases hc
    . exact(NX e).trans ho
theorem yd{f:FuncId}{fn:Func}{c:Code}{args:Array Au}{w:Ba}{R:Ending->Ba->Prop}
  (hf:P.funcs[f]?=J fn) (hb:fn.body=J c)
  (h:c.wp P (bodyPostM Fence.wide 9 P fn R) { tmps:=args++Array.replicate (fn.ntmps-args.size) undef,defers:=[] } w):Ap P f args w R:=
 (Rs (n:=9)).1 (callsIn_of_wp_marks hf hb trivial (RE.2 h))
theorem zX{fn:Func}{R:Ending->Ba->Prop}{a:Act}{w:Ba}{B:Nat}{v:Au}(hm:Marks B a.defers w)(aR:∀W,(results fn a.tmps).run P W=.ok v W)
  (hR:∀W,Shut B w W->R (Am v) W):bodyPostM Fence.wide 9 P fn R .ret a w:=by
 obtain⟨rs,hd,hn,hk⟩:=hm;show LeavesInM Fence.wide 9 P fn a.tmps R a.defers .returning w;rw[hd];exact qU aR rs w hn hk hR
theorem end_marks{fn:Func}{R:Ending->Ba->Prop}{a:Act}{w:Ba}{B:Nat}{v:Au}(hm:Marks B a.defers w)(aR:∀W,(results fn a.tmps).run P W=.ok v W)
  (hR:∀W,Shut B w W->R (Am v) W):bodyPostM Fence.wide 9 P fn R .normal a w:=by
 obtain⟨rs,hd,hn,hk⟩:=hm;show LeavesInM Fence.wide 9 P fn a.tmps R a.defers .returning w;rw[hd];exact qU aR rs w hn hk hR
theorem Marks.cons{B D:Nat}{ds:List Deferred}{w w':Ba}(h:Marks B ds w)(hs:∀(k:Nat),w.heap[k]?=J (Obj.deferred (J []))->w'.heap[k]?=J (Obj.deferred (J [])))
  (hB:B<=w.heap.size) (hD:w.heap.size<=D) (hk:w'.heap[D]?=J (.deferred (J []))):Marks B ({ target:=.collected D,args:=#[] }::ds) w':=by
 obtain⟨rs,rfl,hn,hr⟩:=h;refine⟨D::rs,rfl,PB.2 ⟨fun WE=>?_,hn⟩,fun r fG=>?_⟩
 . have:=(Li.1 (hr D WE).2).1;omega
 rcases LT.1 fG with rfl | fG
 . exact⟨by omega,hk⟩
 exact⟨(hr r fG).1,hs r (hr r fG).2⟩
end
end
section
open Go.RowKit Go.Shelf
attribute [local go_sem] Oper.semAt_some
def zu:Nat->List (List Mv)->List (Int×Mv)
 | _,[]=>[]
 | s,l::r=>l.map (fun m=>((s:Int),m))++zu (s+1) r
theorem ZN{xss:List (List Mv)}{s:Nat}(h:s<xss.length):zu s (xss.drop s)=(xss[s]).map (fun m=>((s:Int),m))++zu (s+1) (xss.drop (s+1)):=by
 rw[Ly h];rfl
theorem qu:∀(s:Nat) (xss:List (List Mv)),(zu s xss).map Prod.snd=xss.flatten
 | _,[]=>rfl
 | s,l::r=>by
  rw[zu,LI,qu (s+1) r,N3,PS]
  congr 1
  exact List.map_id' l
theorem Yz(a:Ad):(zu 0 a.sts).length=a.mvs.length:=by
 rw[<-LG (f:=Prod.snd),qu];rfl
theorem gA{B:Nat}{w w':Ba}(hs:w.heap.size<=w'.heap.size)(h:∀k,k<B->w'.heap[k]?=w.heap[k]?):Ao B w { w' with os:=w.os,tape:=w.tape,output:=w.output }:=⟨rfl,rfl,rfl,hs,h⟩
theorem SAt.same{w w':Ba}{B:Nat}{A:Bb}{xss:List (List Mv)}(h:SAt w B A xss)(hs:w.heap.size<=w'.heap.size)(hk:∀k,k<B->w'.heap[k]?=w.heap[k]?):SAt w' B A xss:=by
 have h2:=h.keep (gA hs hk);exact h2
theorem MAt.same{w w':Ba}{B:Nat}{A:Bb}{xs:List Mv}(h:MAt w B A xs)(hs:w.heap.size<=w'.heap.size)(hk:∀k,k<B->w'.heap[k]?=w.heap[k]?):MAt w' B A xs:=by
 have h2:=h.keep (gA hs hk);exact h2
theorem vB(n:Int)(SV:Au)(w:Ba):Ap An 115 #[Aj #[O U n,SV]] w fun e w'=>
  e=Am (.func (.func 142) #[] #[Ak (J ⟨w.heap.size,0,Z⟩)])/\w.alloc (Ah #[O U n,SV] 27)=w':=by
 go_enter func115,ntmps115;go_wp2;go_ret;exact⟨rfl,rfl⟩
theorem kn(a:Ad)(hf:FewA a)(SV:Bb)(ks B bx:Nat)(w:Ba)(hb:w.heap[bx]?=J (Ah #[O U a.n,I SV a.sts.length ks] 27))(hS:SAt w B SV a.sts)(hB:B<=w.heap.size) :
  Iter An 142 #[Ak (J ⟨bx,0,Z⟩)] (fun x:Int×Mv=>#[O U x.1,.agg x.2.cells]) (fun k=>k<B\/k=bx) (zu 0 a.sts) w:=fun n hn l Ag Jx W hW hJ SM hY h0=>by
 have aM:bx<w.heap.size:=(Li.1 hb).1;have de:W.heap[bx]?=J (Ah #[O U a.n,I SV a.sts.length ks] 27):=(hW.block bx aM).trans hb;have mt:SAt W B SV a.sts:=hS.keep (hW.mono hB);have HF:=zH (fun l hl=>hf.each (l:=l) hl);have R5:=hf.1;have HY:=zH hY;have HJA:As (∀s X o,Ag s X->Ag s (X.alloc o)):=fun s X o hs=>hJ s X (X.alloc o) Z hs (World.grownBy_alloc X o Z) (fun r e=>by cases e)
 have c1:=za de 1 rfl;have lE:=zH mt;have H0:=zH h0;have fh:=zH de;have WH:B<=W.heap.size:=Lx hB hW.size;have hbW:bx<W.heap.size:=LE aM hW.size;obtain⟨n0,sts⟩:=a;dsimp only at fh c1 lE HF R5 HY ⊢;refine callsIn_of_wp Rw rfl trivial ?_ rfl;simp only[ntmps142,List.size_toArray,List.length_cons,List.length_nil,Nat.reduceAdd,Nat.reduceSub,Array.replicate_succ,Array.replicate_zero,List.push_toArray,List.append_toArray,List.nil_append,List.cons_append];gi_wp2
 gi_loopw [10] (fun p wr=>∃s:Nat,s<=sts.length/\p=O U (s:Int)/\∃pre:List { x:Int×Mv // x∈zu 0 sts },As (pre.map (·.1)++zu s (sts.drop s)=zu 0 sts)/\As (Ag pre wr)/\As (SAt wr B SV sts)/\As (wr.heap[bx]?=J (Ah #[O U n0,I SV sts.length ks] 27))/\W.heap.size<=wr.heap.size) (fun p _=>sts.length-(Aq p).toNat)
 case atStart=>exact⟨0,by omega,rfl,[],by simp[As],H0,lE,fh,Lh _⟩
 case round=>
  obtain⟨s,hs,rfl,pre,hp,iE,np,ii,bn⟩:=hrel
  by_cases ac:s<sts.length
  . obtain⟨b,o,A',k',rfl,dH,q1,hM⟩:=np.out.at_ s ac
    have dn:=HF.out _ (Ld ac);have FF:=ZN ac;obtain⟨L,hL⟩:=Kh (sts[s]);rw[hL] at q1 hM dn FF;have HP:As (pre.map (·.1)++((L.drop 0).map (fun m=>((s:Int),m))++zu (s+1) (sts.drop (s+1)))=zu 0 sts):=by rw[LQ,<-FF];exact hp.out
    have BQ:=zH hM;gi_wp2_with fail
    gi_loopw [17] (fun p wr=>∃j:Nat,j<=L.length/\p=O U (j:Int)/\∃pre:List { x:Int×Mv // x∈zu 0 sts },As (pre.map (·.1)++((L.drop j).map (fun m=>((s:Int),m))++zu (s+1) (sts.drop (s+1)))=zu 0 sts)/\As (Ag pre wr)/\As (SAt wr B (J ⟨b,o,Z⟩) sts)/\As (wr.heap[bx]?=J (Ah #[O U n0,I (J ⟨b,o,Z⟩) sts.length ks] 27))/\As (MAt wr B A' L)/\W.heap.size<=wr.heap.size) (fun p _=>L.length-(Aq p).toNat)
    case atStart=>exact⟨0,by omega,rfl,pre,HP,iE,np,ii,BQ,bn⟩
    case round=>
     obtain⟨j,hj,rfl,pre,hp,iE,np,ii,SK,bn⟩:=hrel
     by_cases bg:j<L.length
     . obtain⟨b2,o2,rfl,af,m0,m1,m2,m3,m4,m5,m6,m7⟩:=SK.out.row j bg
       have R7:L.drop j=L[j]::L.drop (j+1):=Ly bg;obtain⟨m,hm⟩:=Kh (L[j]);rw[hm] at m0 m1 m2 m3 m4 m5 m6 m7 R7
       have rg:pre.map (·.1)++(((s:Int),m)::((L.drop (j+1)).map (fun m=>((s:Int),m))++zu (s+1) (sts.drop (s+1))))=zu 0 sts:=by
        have:=hp.out;rw[R7,L4,Nf] at this;exact this
       have cB:((s:Int),m)∈zu 0 sts:=by rw[<-rg];simp
       have aO:pre.length<(zu 0 sts).length:=by
        have:=congrArg List.length rg;simp only[List.length_append,List.length_map,List.length_cons] at this;omega
       obtain⟨fn,tmps,assign,body,hy,hR⟩:=HY.out pre ⟨((s:Int),m),cB⟩ _ (HJA.out _ _ (Ah #[O U m.r.n,O U m.r.h0,O U m.r.h1,O U m.r.h2,O U m.r.h3,O U m.r.h4,O U m.r.f,O U m.to] 121) iE.out) aO;unfold Mv.cells at hy;dsimp only at hy
       have Es:As ((pre++[(⟨((s:Int),m),cB⟩:{ x:Int×Mv // x∈zu 0 sts })]).map (·.1)++((L.drop (j+1)).map (fun m=>((s:Int),m))++zu (s+1) (sts.drop (s+1)))=zu 0 sts):=by
        rw[LI,Ng];exact rg
       have HR:=zH hR;gi_wp2_with fail;refine HR.out.mono ?_;rintro e W3 (⟨rfl,DR,eo⟩ | ⟨rfl,ns⟩)
       . have bI:wr.heap.size<=W3.heap.size:=by have:=eo.size;simp at this;omega
         have cy:∀k,(k<B\/k=bx)->k<wr.heap.size->W3.heap[k]?=wr.heap[k]?:=fun k hk ac=>(eo.same k hk (by simp;omega)).trans (zB (RR ac) _ |>.trans (RR ac).symm)
         have S3:=zH (np.out.same bI (fun k hk=>cy k (.inl hk) (by omega)));have M3:=zH (SK.out.same bI (fun k hk=>cy k (.inl hk) (by omega)));have B3:=zH ((cy bx (.inr rfl) (by omega)).trans ii.out);have J3:=zH DR;have iO:W.heap.size<=W3.heap.size:=by omega
         gi_wp2_with fail
         go_roundw
         case rel=>exact⟨j+1,by omega,by go_num,_,Es,J3,S3,B3,M3,iO⟩
         case measure=>simp[Aq];omega
       . gi_wp2_with fail
         refine Na (Rr rfl _ _ _) rfl ?_;refine⟨⟨_,rfl⟩,.inr ⟨_,?_,ns⟩⟩;exact⟨_,Es.out⟩
     . obtain rfl:j=L.length:=by omega
       have HP:As (pre.map (·.1)++zu (s+1) (sts.drop (s+1))=zu 0 sts):=by have:=hp.out;rwa[NB,ND,Nb] at this
       gi_wp2_with fail
       go_roundw
       case rel=>exact⟨s+1,by omega,by go_num,pre,HP,iE,np,ii,bn⟩
       case measure=>simp[Aq];omega
  . obtain rfl:s=sts.length:=by omega
    have HP:As (pre.map (·.1)=zu 0 sts):=by have:=hp.out;rwa[NB,zu,Nc] at this
    gi_wp2_with fail
    go_end0
    exact⟨⟨_,rfl⟩,.inl ⟨pre,HP.out,iE.out⟩⟩
theorem vj{w:Ba}{g:Nat}{v:Au}{t:TypeId}(h:w.heap[g]?=J (Ah #[v] t (0,0)))(v':Au) :
  (w.setCell ⟨g,0,Z⟩ v').heap[g]?=J (Ah #[v'] t (0,0))/\(w.setCell ⟨g,0,Z⟩ v').heap.size=w.heap.size/\∀k,k≠g->(w.setCell ⟨g,0,Z⟩ v').heap[k]?=w.heap[k]?:=by
 refine⟨?_,by simp[World.setCell],fun k hk=>Lf w ⟨g,0,Z⟩ v' k hk⟩;rw[World.setCell,N9,Ln rfl,h]
 rfl
theorem kq{B D:Nat}{w:Ba}(hB:B<=D)(hk:w.heap[D]?=J (.deferred (J []))):Marks B [{ target:=.collected D,args:=#[] }] w:=
 ⟨[D],rfl,by simp,fun r hr=>by simp only[List.mem_singleton] at hr;subst hr;exact⟨hB,hk⟩⟩
structure SzIn(B:Nat)(C:Array Au)(T:TypeId)(rH:Int)(w W:Ba):Prop where
 below:Ao B w W
 b0:W.heap[B]?=J (Ah C T (0,0))
 b1:W.heap[B+1]?=J (Ah #[O U rH] 3 (0,0))
theorem SzIn.turn{B:Nat}{C:Array Au}{T:TypeId}{rH:Int}{w W W':Ba}{row:Option Nat}(h:SzIn B C T rH w W)(hg:W.grownBy W' row)(hr:∀r,row=J r->B<=r/\∃o:Obj,W.heap[r]?=J o/\o.isCells=Ax):SzIn B C T rH w W':=
 ⟨h.below.grown hg (by have:=(Li.1 h.b0).1;omega) (fun k hk=>(hr k hk).1),(LO hg (fun r e=>(hr r e).2) h.b0 rfl).trans h.b0,(LO hg (fun r e=>(hr r e).2) h.b1 rfl).trans h.b1⟩
theorem SzIn.set{B:Nat}{C:Array Au}{T:TypeId}{rH:Int}{w W:Ba}(h:SzIn B C T rH w W)(c':Int):SzIn B C T c' w (W.setCell ⟨B+1,0,Z⟩ (O U c')):=by
 obtain⟨x1,x2,x3⟩:=vj h.b1 (O U c');exact⟨h.below.setCell (by simp) _,(x3 B (by omega)).trans h.b0,x1⟩
theorem SzIn.keeps{B D:Nat}{C:Array Au}{T:TypeId}{rH:Int}{w W:Ba}(h:SzIn B C T rH w W)(c':Int)(K:Nat->Prop)(hK:¬K (B+1)):KeepsFrom D W (W.setCell ⟨B+1,0,Z⟩ (O U c'))/\KeepB K W (W.setCell ⟨B+1,0,Z⟩ (O U c')):=by
 obtain⟨x1,x2,x3⟩:=vj h.b1 (O U c');refine⟨⟨by omega,fun k o _ hk ho=>?_⟩,KeepB.setCell hK _⟩;have k1:k≠B+1:=by rintro rfl;rw[h.b1] at hk;cases hk;cases ho
 exact(x3 k k1).trans hk
theorem Jy(a:Ad)(hf:FewA a)(SV:Bb)(ks:Nat)(w:Ba)(hS:SAt w w.heap.size SV a.sts) :
  Ap An 113 #[Aj #[O U a.n,I SV a.sts.length ks]] w fun e w'=>e=Am (O U (if a.sts.length<1 then 5 else 0))/\Ao w.heap.size w w':=by
 have dR:=hf.1;have fq:=hf.2;have Bh:=Yz a;have HI:=zH (fun (bx:Nat) (w':Ba) (hb:w'.heap[bx]?=J (Ah #[O U a.n,I SV a.sts.length ks] 27)) (h:SAt w' w.heap.size SV a.sts) (hB:w.heap.size<=w'.heap.size)=>kn a hf SV ks w.heap.size bx w' hb h hB);have HS:=zH hS;obtain⟨nl,eG⟩:=Kh ((zu 0 a.sts).length);have HNL:=zH eG;clear hS;refine yd func113 rfl ?_;simp only[ntmps113,List.size_toArray,List.length_cons,List.length_nil,Nat.reduceAdd,Nat.reduceSub,Array.replicate_succ,Array.replicate_zero,List.push_toArray,List.append_toArray,List.nil_append,List.cons_append];go_wp2_with fail;obtain⟨w2,cx,b0,b1,bn,hB⟩:=zZ w #[O U a.n,I SV a.sts.length ks] #[O U 0] 27 3;rw[cx];have cH:w2.heap.size=w.heap.size+2:=by rw[<-cx];simp
 refine(vB a.n (I SV a.sts.length ks) w2).mono ?_;rintro e W ⟨rfl,hW⟩;have bb:=zh w2 (Ah #[O U a.n,I SV a.sts.length ks] 27);have aQ:Ao w2.heap.size w2 W:=by rw[<-hW];exact zw _ _
 have bI:w2.heap.size<W.heap.size:=by rw[<-hW];simp
 rw[hW] at bb;have KL:SzIn w.heap.size #[O U a.n,I SV a.sts.length ks] 27 0 w W:=⟨hB.trans (aQ.mono (by omega)),Zv b0 aQ (by omega),Zv b1 aQ (by omega)⟩;have Rf:=HI.out w2.heap.size W bb ((HS.out.keep hB).keep (aQ.mono (by omega))) (by omega);have H0:=zH KL;have mc:=zH Rf;have HZ:=zH cH;have bS:w.heap.size+2<=w2.heap.size:=bn;clear cx hW bb b0 b1 hB aQ KL Rf cH bn HI HS eG;go_wp2_with fail
 refine kg rfl (PX Rw (by kernel_rfl) rfl) mc.out (by rintro k (h | rfl)<;>omega) (fun _=>rfl)
  (fun (pre:List { x:Int×Mv // x∈zu 0 a.sts }) W=>SzIn w.heap.size #[O U a.n,I SV a.sts.length ks] 27 ((pre.length:Nat):Int) w W) (fun _ _ _=>False) (fun _ _ _ _ h hg hr=>h.turn hg (fun r e=>⟨by have:=(hr r e).1;omega,(hr r e).2⟩)) (fun _ _ _ _ _ h _ _=>h)
  H0.out ?a1 ?assign ?body ?done ?stop
 case assign=>
  intro l x W K hK;gi_wp2;exact hK
 case body=>
  intro l pre x W hI ac;have ib:pre.length<100:=by have:=HNL.out;omega
  have c1:=za hI.b1 0 rfl;have f1:=zb hI.b1 0;have HI:=zH hI;clear hI ac;gi_wp2_with fail;have hK:¬(w.heap.size+1<w.heap.size\/w.heap.size+1=w2.heap.size):=by have:=HZ.out;omega
  refine⟨(HI.out.keeps _ (fun k=>k<w.heap.size\/k=w2.heap.size) hK).1,(HI.out.keeps (D:=0) _ (fun k=>k<w.heap.size\/k=w2.heap.size) hK).2,?_⟩;have:=HI.out.set ((pre.length:Int)+1);dsimp only;rw[show(((pre++[x]).length:Nat):Int)=(pre.length:Int)+1 by simp];exact this
 case done=>
  intro D ys W hD fB hI ex;have aO:ys.length=(zu 0 a.sts).length:=by have:=congrArg List.length fB;rwa[LG] at this
  have cz:ys.length<=40:=by omega
  obtain⟨q0,q1,_⟩:=Ka hI.b0;have c1:=za hI.b1 0 rfl;have HI:=zH hI;have HD:=zH ex
  by_cases hz:a.sts.length<1
  . clear hI ex aO fB
    go_wp2_with fail
    all_goals first | (exfalso;omega) | skip
    refine zX (B:=w.heap.size) (kq (by omega) HD.out) (v:=O U 5) (fun W=>by kernel_rfl) ?_;intro W hS;exact⟨by first | rfl | rw[Ln hz],HI.out.below.trans hS.below⟩
  have bS:¬((a.sts.length:Int)<1):=by omega
  clear hI ex aO fB;go_wp2_with fail
  all_goals first | (exfalso;omega) | skip
  refine zX (B:=w.heap.size) (kq (by omega) HD.out) (v:=O U 0) (fun W=>by kernel_rfl) ?_;intro W hS;exact⟨by first | rfl | rw[Lj hz],HI.out.below.trans hS.below⟩
 intro D c pre W _ _ h;exact h.elim
theorem jL{a:Ad}(h:a.n<1\/5<a.n):xM a=2:=Ln h
theorem vN{a:Ad}(h:¬(a.n<1\/5<a.n))(h2:a.sts.length<1):xM a=5:=by unfold xM;rw[Lj h,Ln (.inl h2)]
theorem jK{a:Ad}(h:¬(a.n<1\/5<a.n))(h2:1<=a.sts.length)(hf:FewA a)(h3:zl a a.sts≠0):xM a=zl a a.sts:=by
 unfold xM;rw[Lj h,Lj (by have:=hf.1;have:=hf.2;omega),Ln h3]
theorem jM{a:Ad}(h:¬(a.n<1\/5<a.n))(h2:1<=a.sts.length)(hf:FewA a)(h3:zl a a.sts=0):xM a=if xd a=Av then 0 else 21:=by
 unfold xM;rw[Lj h,Lj (by have:=hf.1;have:=hf.2;omega),Lj (by simpa using h3)]
theorem jm{a:Ad}:∀ {p:Option Mv} {l:List Mv},xg a p l=0->∀m∈l,zQ m.r=0/\m.r.n=a.n/\0<=m.to/\m.to<a.sts.length
 | _,[],_,m,hm=>by cases hm
 | p,x::r,h,m,hm=>by
  rw[xg] at h
  split at h
  . rename_i h1;exact absurd h h1
  . rename_i h1
    have h1:yK a p x=0:=by simpa using h1
    rcases LT.1 hm with rfl | hm
    . unfold yK at h1
      split at h1
      . rename_i h2;exact absurd h1 h2
      . split at h1
        . cases h1
        . split at h1
          . cases h1
          . split at h1
            . cases h1
            . rename_i h2 h3 h4 h5
              exact⟨by simpa using h2,by simpa using h3,by omega,by omega⟩
    . exact jm h m hm
theorem ua{a:Ad}:∀ {xs:List (List Mv)},zl a xs=0->∀l∈xs,l.length≠0/\∀m∈l,zQ m.r=0/\m.r.n=a.n/\0<=m.to/\m.to<a.sts.length
 | [],_,l,hl=>by cases hl
 | x::r,h,l,hl=>by
  rw[zl] at h
  split at h
  . rename_i h1;exact absurd h h1
  . rename_i h1
    have h1:yS a x=0:=by simpa using h1
    rcases LT.1 hl with rfl | hl
    . unfold yS at h1
      split at h1
      . cases h1
      . rename_i h2
        exact⟨h2,fun m hm=>jm (p:=zp l 0) (l:=l) (by have:=h1;unfold yJ at this;rwa[LQ] at this) m hm⟩
    . exact ua h l hl
theorem qT{r:Rd}(h:zQ r=0):1<=r.n/\r.n<=5/\yv r=0/\xA r.n r.f=0:=by
 unfold zQ at h
 split at h
 . rename_i h1;exact absurd h h1
 rename_i h1;have h1:yv r=0:=by simpa using h1
 refine⟨?_,?_,h1,h⟩
 . unfold yv at h1
   split at h1
   . cases h1
   omega
 unfold yv at h1
 split at h1
 . cases h1
 omega
theorem xv{a:Ad}(h:zl a a.sts=0):∀m∈a.mvs,zQ m.r=0/\m.r.n=a.n/\0<=m.to/\m.to<a.sts.length:=fun m hm=>by
 obtain⟨l,hl,Bh⟩:=NA.1 hm;exact(ua h l hl).2 m Bh
theorem xz{m:Mv}(h:zQ m.r=0):∃f:Nat,m.r.f=(f:Int)/\f<32:=by
 obtain⟨_,k,_,e,_,_,_,hk⟩:=check_ok (qT h).2.2.2;exact⟨k,e,hk⟩
theorem Y8{s x:Nat}(hs:s<32)(hx:x<32):(bits BinOp.andNot U (x:Int) (s:Int)=0)↔(x &&& s=x):=by
 have h1:=j5 (p:=fun s=>kW fun x=>decide ((bits BinOp.andNot U (x:Int) (s:Int)=0)↔(x &&& s=x))) (by decide +kernel) hs;have h2:=j5 h1 hx;simpa using h2
theorem ZM{a:Ad}{x:Int×Mv}(h:x∈zu 0 a.sts):x.2∈a.mvs:=by
 have:x.2∈(zu 0 a.sts).map Prod.snd:=LA.2 ⟨x,h,rfl⟩;rwa[qu] at this
end
section
open Go.RowKit
theorem J6{xss:List (List Mv)}{k:Nat}(h:k<xss.length):((xss.take (k+1)).flatten).length=((xss.take k).flatten).length+xss[k].length:=by
 rw[Lu h,List.flatten_append,Lq];simp
theorem flat_le{xss:List (List Mv)}{k:Nat}:((xss.take k).flatten).length<=xss.flatten.length:=by
 conv=>rhs;rw[<-Rc k xss]
 rw[List.flatten_append,Lq];omega
theorem wz(a:Ad)(SV:Bb)(ks:Nat)(hl:a.sts.length<=17592186044416)(hm:a.mvs.length<=4611686018427387904)(aL:∀l∈a.sts,l.length<=17592186044416)(w:Ba)(hS:SAt w w.heap.size SV a.sts) :
  Ap An 119 #[Aj #[O U a.n,I SV a.sts.length ks]] w fun e w'=>e=Am (O U (a.mvs.length:Nat))/\w'=w.alloc (Ah #[O U a.n,I SV a.sts.length ks] 27):=by
 have HS:=zH (hS.keep (zw w (Ah #[O U a.n,I SV a.sts.length ks] 27)));have fA:=zH aL;obtain⟨n0,sts⟩:=a;unfold Ad.mvs at hm ⊢;dsimp only at hl hm fA HS ⊢;go_enter func119,ntmps119;go_wp2_with fail
 go_loop [3,4] (fun v i=>∃k c:Nat,k<=sts.length/\i=O U (k:Int)/\v=O U (c:Int)/\As (c=((sts.take k).flatten).length)) (fun _ i=>sts.length-(Aq i).toNat)
 case atStart=>exact⟨0,0,by omega,rfl,rfl,rfl⟩
 obtain⟨k,c,hk,rfl,rfl,hc⟩:=hrel
 by_cases ac:k<sts.length
 . obtain⟨b,o,A',k',rfl,dH,c1,_⟩:=HS.out.at_ k ac
   have cC:=fA.out _ (Ld ac);have fR:=J6 ac;have du:=flat_le (xss:=sts) (k:=k+1);obtain⟨ll,aL⟩:=Kh (sts[k].length);rw[aL] at c1 cC fR;have Bu:c+ll=((sts.take (k+1)).flatten).length:=by rw[fR,hc.out]
   have hb:c+ll<=4611686018427387904:=by omega
   have HC:=zH Bu;go_wp2_with fail
   go_round
   case rel=>exact⟨k+1,c+ll,by omega,by go_num,by go_num,HC.out⟩
   simp[Aq];omega
 obtain rfl:k=sts.length:=by omega
 have Bu:c=sts.flatten.length:=by rw[hc.out,LD]
 subst Bu;go_wp2_with fail;go_ret;exact⟨rfl,rfl⟩
theorem mvs_le{a:Ad}(h8:a.sts.length<=8)(aL:∀l∈a.sts,l.length<=17592186044416):a.mvs.length<=4611686018427387904:=by
 have h:∀(xs:List (List Mv)),(∀l∈xs,l.length<=17592186044416)->xs.flatten.length<=xs.length*17592186044416:=by
  intro xs
  induction xs with
  | nil=>intro _;simp
  | cons x xs ih=>
   intro hx;have h1:=ih fun l hl=>hx l (Rh _ hl)
   have h2:=hx x (Rq ..);rw[PS,Lq,Lz,Nat.succ_mul];omega
 have h1:=h a.sts aL;unfold Ad.mvs;omega
theorem JG(a:Ad)(SV:Bb)(ks:Nat)(hl:a.sts.length<=17592186044416)(aL:∀l∈a.sts,l.length<=17592186044416)(w:Ba)(hS:SAt w w.heap.size SV a.sts) :
  Ap An 92 #[Aj #[O U a.n,I SV a.sts.length ks]] w fun e w'=>e=Am (Ai (decide (a.sts.length<=8)&&decide (a.mvs.length<=40)))/\Ao w.heap.size w w':=by
 have HC:=zH (fun (hm:a.mvs.length<=4611686018427387904)=>wz a SV ks hl hm aL (w.alloc (Ah #[O U a.n,I SV a.sts.length ks] 27)) ((hS.keep (zw w _)).more (by simp)));have H':=zH (fun (h8:a.sts.length<=8)=>mvs_le h8 aL);obtain⟨q,hq⟩:=Kh a.mvs.length;rw[hq] at HC H' ⊢;obtain⟨sl,mh⟩:=Kh a.sts.length;rw[mh] at HC H' hl ⊢;go_enter func92,ntmps92
 by_cases h1:sl<=8
 . have hm:=H'.out h1
   go_wp2_with fail
   all_goals first | (exfalso;omega) | skip
   refine(HC.out hm).mono ?_;rintro e w1 ⟨rfl,rfl⟩;go_wp2_with fail;go_ret;exact⟨ze (by first | (rw[Ll h1,Nq];exact ZV (by omega)) | exact ZV (by omega)),xX w _ _⟩
 go_wp2_with fail
 all_goals first | (exfalso;omega) | skip
 go_ret;exact⟨ze (by first | rfl | rw[Lm h1,NE]),zw w _⟩
theorem YA{a:Ad}(hf:FewA a):(∀l∈a.sts,l.length<=17592186044416)/\a.sts.length<=17592186044416/\a.mvs.length<=4611686018427387904:=
 ⟨fun l hl=>by have:=hf.each hl;omega,by have:=hf.1;omega,by have:=hf.2;omega⟩
theorem JD(a:Ad)(SV:Bb)(ks:Nat)(_hsl:a.sts.length<=8)(A:Bb)(k0:Nat)(l:List Mv)(hl:l.length<=40)(k:Nat)(ac:k<l.length)(w:Ba)(hA:MAt w w.heap.size A l) :
  Ap An 144 #[Aj #[O U a.n,I SV a.sts.length ks],I A l.length k0,O U k] w fun e w'=>e=Am (O U (yK a (zp l k) l[k]))/\Ao w.heap.size w w':=by
 have HA:=zH hA;obtain⟨b,o,rfl,dH,c0,c1,c2,c3,c4,c5,c6,c7⟩:=hA.row k ac;obtain⟨bo,bJ⟩:=Kh (uH (zp l k) l[k]);have bD:=zH bJ;have m1:=zH (@ul a (zp l k) l[k]);have m2:=zH (@QX a (zp l k) l[k]);have m3:=zH (@um a (zp l k) l[k]);have m4:=zH (@YC a (zp l k) l[k]);have m5:=zH (@YD a (zp l k) l[k]);rw[bJ] at m3 m4 m5;obtain⟨m,hm⟩:=Kh (l[k]);have HX:=zH hm;obtain⟨mE,CY⟩:=Kh (yK a (zp l k) l[k]);rw[CY] at m1 m2 m3 m4 m5 ⊢;rw[hm] at c0 c1 c2 c3 c4 c5 c6 c7 m1 m2 m3 m4 m5;have HR:=zH (fun w'=>uC m.r w');obtain⟨rE,CM⟩:=Kh (zQ m.r);rw[CM] at m1 m2 m3 m4 m5 HR;unfold Rd.cells at HR;clear bJ hm CY CM hA;go_enter func144,ntmps144;go_wp2_with fail;obtain⟨W1,cO,b0,b1,bI,aB⟩:=zZ w #[O U a.n,I SV a.sts.length ks] #[O U m.r.n,O U m.r.h0,O U m.r.h1,O U m.r.h2,O U m.r.h3,O U m.r.h4,O U m.r.f] 27 75;rw[cO];refine(HR.out W1).mono ?_;rintro e w1 ⟨rfl,aC⟩;have dJ:=zH (aB.trans (aC.mono (by omega)));have d0:=Lb aC (by omega) b0;have d1:=Lb aC (by omega) b1;have bQ:=zH d1;have bu:=zH d0;obtain⟨q0,q1,_⟩:=Ka d0;obtain⟨p0,p1,p2,p3,p4,p5,p6,_⟩:=Kf d1;have Fl:=zd d1;obtain⟨_,_,e7,_,_,_,_,_,_,_,_,p7⟩:=(HA.out.keep dJ.out).row k ac
 cases e7
 rw[HX.out] at p7;clear cO b0 b1 aB aC d0 d1 c0 c1 c2 c3 c4 c5 c6 c7 HR
 by_cases hr:rE=0
 case neg=>
  have he:=zH (m1.out hr);have e0:(rE != 0)=Av:=by simpa using hr
  clear m1 m2 m3 m4 m5 hr bD HX;go_wp2_with fail;go_ret;exact⟨zc he.out.symm,dJ.out⟩
 case pos=>
 subst hr;clear m1
 by_cases hn:m.r.n=a.n
 case neg=>
  have he:=zH (m2.out (by simp) hn);have e0:(m.r.n != a.n)=Av:=by simpa using hn
  clear m2 m3 m4 m5 hn bD HX;go_wp2_with fail;go_ret;exact⟨zc he.out.symm,dJ.out⟩
 case pos=>
 have e0:(m.r.n != a.n)=Ax:=by simpa using hn
 have n3:=zH (m3.out (by simp) hn);have n4:=zH (m4.out (by simp) hn);have n5:=zH (m5.out (by simp) hn);clear m2 hn m3 m4 m5
 cases k with
 | zero=>
  obtain rfl:bo=Ax:=by rw[<-bD.out];rfl
  have g0:decide ((0:Int)<0)=Ax:=by decide
  rw[Rz,Pq] at p7;clear bD HX n3;go_wp2_with fail;go_quiet (fail)
  by_cases ht:m.to<0\/(a.sts.length:Int)<=m.to
  . have he:=zH (n4.out (by simp) ht)
    clear n4 n5
    by_cases su:m.to<0
    . clear ht
      go_wp2_with fail;go_quiet (fail);go_wp2_with fail;go_ret;exact⟨zc he.out.symm,by repeat (first | exact dJ.out | refine zx ?_ _)⟩
    . have st:(a.sts.length:Int)<=m.to:=by omega
      clear ht;go_wp2_with fail;go_quiet (fail);go_wp2_with fail;go_ret;exact⟨zc he.out.symm,by repeat (first | exact dJ.out | refine zx ?_ _)⟩
  . have he:=zH (n5.out (by simp) ht)
    have su:¬m.to<0:=by omega
    have st:¬(a.sts.length:Int)<=m.to:=by omega
    clear n4 n5 ht;go_wp2_with fail;go_quiet (fail);go_wp2_with fail;go_ret;exact⟨zc he.out.symm,by repeat (first | exact dJ.out | refine zx ?_ _)⟩
 | succ j=>
  have hj:j<l.length:=by omega
  have bV:uH (zp l (j+1)) l[j+1]=decide (0<=zj l[j].r.l l[j+1].r.l):=by rw[zT l j hj];rfl
  rw[HX.out] at bV;rw[show uH (zp l (j+1)) m=bo by have:=bD.out;rwa[HX.out] at this] at bV;obtain⟨b',o',e',_,u0,u1,u2,u3,u4,u5,u6,u7⟩:=(HA.out.keep dJ.out).row j hj
  cases e'
  have hc:=fun w'=>wn l[j].r m.r w'
  obtain⟨mj,CW⟩:=Kh (l[j]);rw[CW] at bV hc u0 u1 u2 u3 u4 u5 u6 u7;obtain⟨r,hr⟩:=Kh (zj mj.r.l m.r.l);rw[hr] at bV hc;unfold Rd.cells at hc;have cG:=zH bV;have HC:=zH hc;have g1:((j:Int)+1).toNat=j+1:=by omega
  have g3:IntKind.i64.wrap ((j:Int)+1-1)=(j:Int):=by rw[Lw];omega
  have g5:IntKind.i64.wrap ((j:Int)+1)=(j:Int)+1:=by rw[Lw];omega
  have g6:decide ((0:Int)<(j:Int)+1)=Av:=Ll (by omega);have g7:IntKind.i64.wrap (j:Int)=(j:Int):=by rw[Lw];omega
  have g8:(0:Int)<=(j:Int):=by omega
  have g9:(j:Int)<(l.length:Int):=by omega
  clear bV hc hr CW bD;go_wp2_with fail
  go_still_tail 10,(by kernel_rfl)
  change wpList _ _ _ _ _ w1.drew;obtain⟨w2,cx⟩:∃w2,w2=w1.drew:=⟨_,rfl⟩;have AC:As (Ao w.heap.size w w2):=by rw[cx];exact dJ.out.drew
  have ay:As (w2.heap[w.heap.size]?=J (Ah #[O U a.n,I SV a.sts.length ks] 27 (0,0))):=by rw[cx];exact bu.out
  rw[<-cx];clear bu bQ cx q0 q1 p0 p1 p2 p3 p4 p5 p6 p7 u0 u1 u2 u3 u4 u5 u6 u7 g3 g7 g8 g9;go_wp2_with fail;refine(HC.out w2).mono ?_;rintro e w3 ⟨rfl,ap⟩;have lF:=zH (Lc AC.out ap);have d0:=La ap ay.out;obtain⟨q0,q1,_⟩:=Ka d0;obtain⟨_,_,e7,_,_,_,_,_,_,_,_,p7⟩:=(HA.out.keep lF.out).row (j+1) ac
  cases e7
  rw[HX.out] at p7;have i1:(0:Int)<=(j:Int)+1:=by omega
  have i2:(j:Int)+1<(l.length:Int):=by omega
  clear d0 ap HC HX
  cases bo with
  | true=>
   have KV:0<=r:=LK cG.out.symm;have he:=zH (n3.out (by simp));clear n3 n4 n5 cG;go_wp2_with fail
   all_goals first | (exfalso;omega) | skip
   go_ret;exact⟨zc he.out.symm,lF.out⟩
  | false=>
   have KV:¬0<=r:=NG cG.out.symm;clear n3 cG
   by_cases ht:m.to<0\/(a.sts.length:Int)<=m.to
   . have he:=zH (n4.out (by simp) ht)
     clear n4 n5
     by_cases su:m.to<0
     . clear ht
       go_wp2_with fail
       all_goals first | (exfalso;omega) | skip
       go_quiet (fail);go_wp2_with fail;go_ret;exact⟨zc he.out.symm,by repeat (first | exact lF.out | refine zx ?_ _)⟩
     . have st:(a.sts.length:Int)<=m.to:=by omega
       clear ht;go_wp2_with fail
       all_goals first | (exfalso;omega) | skip
       go_quiet (fail);go_wp2_with fail;go_ret;exact⟨zc he.out.symm,by repeat (first | exact lF.out | refine zx ?_ _)⟩
   . have he:=zH (n5.out (by simp) ht)
     have su:¬m.to<0:=by omega
     have st:¬(a.sts.length:Int)<=m.to:=by omega
     clear n4 n5 ht;go_wp2_with fail
     all_goals first | (exfalso;omega) | skip
     go_quiet (fail);go_wp2_with fail;go_ret;exact⟨zc he.out.symm,by repeat (first | exact lF.out | refine zx ?_ _)⟩
end
section
open Go.RowKit
attribute [local go_sem] Oper.semAt_some
def okB(a:Ad)(m:Mv):Bool:=(a.at_ m.to).all fun k=>ql m k
theorem JV{a:Ad}(h:∀t (ht:t<a.sts.length),∀m∈a.sts[t],okB a m=Av):xd a=Av:=by
 unfold xd;rw[LH];intro m hm;obtain⟨l,hl,Bh⟩:=NA.1 hm;obtain⟨t,ht,rfl⟩:=Nz.1 hl;exact h t ht m Bh
theorem Qd{a:Ad}{m k:Mv}(hm:m∈a.mvs)(hk:k∈a.at_ m.to)(h:ql m k=Ax):xd a=Ax:=by
 rw[PT];intro hg;unfold xd at hg;have:=LH.1 (LH.1 hg m hm) k hk;rw[this] at h
 cases h
theorem at_get{a:Ad}{t:Nat}(h:t<a.sts.length){x:Int}(hx:x=(t:Int)):a.at_ x=a.sts[t]:=by
 subst hx;unfold Ad.at_;rw[Lv,Le,Lg h];rfl
theorem Xu(a:Ad)(hf:FewA a)(hz:zl a a.sts=0)(SV:Bb)(ks:Nat)(w:Ba)(hS:SAt w w.heap.size SV a.sts) :
  Ap An 145 #[Aj #[O U a.n,I SV a.sts.length ks]] w fun e w'=>e=Am (Ai (xd a))/\Ao w.heap.size w w':=by
 have dR:=hf.1;have lk:=zH (fun l hl=>hf.each (l:=l) hl);have HZ:=zH (@xv a hz);have T5:=zH (@JV a);have ou:=zH (fun m k hm hk h=>@Qd a m k hm hk h);obtain⟨G,hG⟩:=Kh (xd a);rw[hG] at T5 ⊢;simp only[hG] at ou;go_enter func145,ntmps145;go_wp2_with fail;obtain⟨w1,ah⟩:=Kh (w.alloc (Ah #[O U a.n,I SV a.sts.length ks] 27));have aI:=zh w (Ah #[O U a.n,I SV a.sts.length ks] 27);have am:Ao w.heap.size w w1:=by rw[<-ah];exact zw w _
 have co:w1.heap.size=w.heap.size+1:=by rw[<-ah];simp
 rw[ah] at aI ⊢;have bK:=zH aI;have aY:=zH am;have HS:=zH ((hS.keep am).more (by omega:w.heap.size<=w1.heap.size))
 go_loopw [3] (fun i wr=>∃s:Nat,s<=a.sts.length/\i=O U (s:Int)/\As (∀t (ht:t<a.sts.length),t<s->∀m∈a.sts[t],okB a m=Av)/\As (Ao w1.heap.size w1 wr)) (fun i _=>a.sts.length-(Aq i).toNat)
 case atStart=>exact⟨0,by omega,rfl,(fun t ht h0=>by omega),Lp _ _⟩
 obtain⟨s,hs,rfl,mW,bG⟩:=hrel;have aN:=La bG.out bK.out;have q1:=za aN 1 rfl
 by_cases ac:s<a.sts.length
 case neg=>
  obtain rfl:s=a.sts.length:=by omega
  have hg:=zH (T5.out (fun t ht=>mW.out t ht ht));go_wp2_with fail;go_ret;exact⟨ze hg.out.symm,aY.out.trans (bG.out.mono (by omega))⟩
 case pos=>
 obtain⟨b,o,A',k',rfl,dH,c1,hM⟩:=(HS.out.keep bG.out).at_ s ac;have dn:=lk.out _ (Ld ac);have Ey:As (∀m∈a.sts[s],m∈a.mvs):=fun m hm=>NA.2 ⟨_,Ld ac,hm⟩
 have BT:As ((∀m∈a.sts[s],okB a m=Av)->∀t (ht:t<a.sts.length),t<s+1->∀m∈a.sts[t],okB a m=Av):=fun h t ht h2 m hm=>by
  by_cases e:t=s
  . subst e;exact h m hm
  . exact mW.out t ht (by omega) m hm
 have oE:As (∀wr:Ba,Ao w1.heap.size w1 wr->wr.cell? ⟨b,o+s,Z⟩=J (.slice A' (a.sts[s]).length k')/\MAt wr w1.heap.size A' a.sts[s]):=fun Cd cF=>
  ⟨((cF.cell (p:=⟨b,_,Z⟩) dH).trans ((bG.out.cell (p:=⟨b,_,Z⟩) dH).symm)).trans c1,(by
   obtain⟨b2,o2,A2,k2,e2,aQ,c2,rF⟩:=(HS.out.keep cF).at_ s ac
   cases e2
   have:=(((cF.cell (p:=⟨b,o+s,Z⟩) dH).trans ((bG.out.cell (p:=⟨b,o+s,Z⟩) dH).symm)).trans c1).symm.trans c2
   cases this
   exact rF)⟩
 obtain⟨L,hL⟩:=Kh (a.sts[s]);rw[hL] at c1 dn Ey BT oE;go_wp2_with fail
 go_loopw [4] (fun i wr=>∃j:Nat,j<=L.length/\i=O U (j:Int)/\As (∀u (hu:u<L.length),u<j->okB a L[u]=Av)/\As (Ao w1.heap.size w1 wr)) (fun i _=>L.length-(Aq i).toNat)
 case atStart=>exact⟨0,by omega,rfl,(fun u hu h0=>by omega),bG⟩
 obtain⟨j,hj,rfl,re,bG⟩:=hrel;have aN:=La bG.out bK.out;have q1:=za aN 1 rfl;obtain⟨c1,hM⟩:=oE.out _ bG.out
 by_cases bg:j<L.length
 case neg=>
  obtain rfl:j=L.length:=by omega
  have hg:=zH (BT.out (fun m hm=>by
   obtain⟨u,hu,rfl⟩:=Nz.1 hm
   exact re.out u hu hu))
  go_wp2_with fail
  go_roundw
  case rel=>exact⟨s+1,by omega,by go_num,hg,bG⟩
  simp[Aq];omega
 case pos=>
 obtain⟨b',o',e',We,d0,d1,d2,d3,d4,d5,d6,d7⟩:=hM.row j bg
 cases e'
 have MT:As (L[j]∈a.mvs):=Ey.out _ (Ld bg)
 have TX:As (okB a L[j]=Av->∀u (hu:u<L.length),u<j+1->okB a L[u]=Av):=fun h u hu h2=>by
  by_cases e:u=j
  . subst e;exact h
  . exact re.out u hu (by omega)
 obtain⟨m,hm⟩:=Kh (L[j]);rw[hm] at d0 d1 d2 d3 d4 d5 d6 d7 MT TX;obtain⟨z1,z2,z3,z4⟩:=HZ.out m MT.out;obtain⟨f1,DX,GM⟩:=xz z1;obtain⟨t,et⟩:=Lr z3;have lz:t<a.sts.length:=by omega
 have bz:=at_get lz et;have TS:As (∀y∈a.at_ m.to,y∈a.mvs):=by rw[bz];exact fun y hy=>NA.2 ⟨_,Ld lz,hy⟩
 have C0:=lk.out _ (Ld lz)
 have rM:As (∀wr:Ba,Ao w1.heap.size w1 wr->∃A' c,wr.cell? ⟨b,o+t,Z⟩=J (.slice A' (a.at_ m.to).length c)/\MAt wr w1.heap.size A' (a.at_ m.to)):=fun Cd cF=>by
  rw[bz];obtain⟨b2,o2,A2,k2,e2,aQ,c2,rF⟩:=(HS.out.keep cF).at_ t lz
  cases e2
  exact⟨A2,k2,c2,rF⟩
 rw[<-bz] at C0;have TL:As ((∀y∈a.at_ m.to,ql m y=Av)->okB a m=Av):=fun h=>LH.2 h
 obtain⟨L2,DP⟩:=Kh (a.at_ m.to)
 have rV:As (∀y∈L2,ql m y=Ax->G=Ax):=by
  rw[<-DP];exact fun y hy h=>ou.out m y MT.out hy h
 rw[DP] at TS C0 rM TL;have ay:=zH DX;have HET:=zH et;rw[et] at d7;clear hM hm z1 z2 z3 z4 et DX bz DP re;go_wp2_with fail;obtain⟨wm,iA⟩:=Kh (wr.alloc (Ah m.cells 121));have sJ:=zh wr (Ah m.cells 121);have Vl:Ao w1.heap.size w1 wm:=by rw[<-iA];exact bG.out.trans ((zw wr _).mono bG.out.size)
 have iP:wm.heap.size=wr.heap.size+1:=by rw[<-iA];simp
 have pZ:=bG.out.size;rw[iA] at sJ;unfold Mv.cells at iA sJ;rw[HET.out] at iA sJ;rw[iA];obtain⟨g,hg⟩:=Kh wr.heap.size;rw[hg] at sJ iP pZ ⊢;have HMB:=zH sJ;have HMW:=zH Vl
 go_loopw [6] (fun i wx=>∃q:Nat,q<=L2.length/\i=O U (q:Int)/\As (∀u (hu:u<L2.length),u<q->ql m L2[u]=Av)/\As (Ao wm.heap.size wm wx)) (fun i _=>L2.length-(Aq i).toNat)
 case atStart=>exact⟨0,by omega,rfl,(fun u hu h0=>by omega),Lp _ _⟩
 obtain⟨q,hq,rfl,Fo,aM⟩:=hrel;have cD:=HMW.out.trans (aM.out.mono (by omega));have aN:=La cD bK.out;have q1:=za aN 1 rfl;have dF:=Lb aM.out (by omega) HMB.out;have p6:=za dF 6 rfl;have p7:=za dF 7 rfl;obtain⟨A2,k2,c2,rF⟩:=rM.out _ cD;have bk:=zH cD
 by_cases f':q<L2.length
 case neg=>
  obtain rfl:q=L2.length:=by omega
  have hg:=zH (TX.out (TL.out (fun y hy=>by
   obtain⟨u,hu,rfl⟩:=Nz.1 hy
   exact Fo.out u hu hu)))
  go_wp2_with fail
  go_roundw
  case rel=>exact⟨j+1,by omega,by go_num,hg,bk⟩
  simp[Aq];omega
 case pos=>
 obtain⟨b3,o3,e3,aZ,_,_,_,_,_,_,c6,_⟩:=rF.row q f';subst e3;have cB:=Ld f';obtain⟨f2,pC,GL⟩:=xz (HZ.out _ (TS.out _ cB)).1;have Ex:=zH (rV.out _ cB)
 have TJ:As (ql m L2[q]=Av->∀u (hu:u<L2.length),u<q+1->ql m L2[u]=Av):=fun h u hu h2=>by
  by_cases e:u=q
  . subst e;exact h
  . exact Fo.out u hu (by omega)
 have pb:ql m L2[q]=(f1 &&& f2==f1):=by unfold ql;rw[ay.out,pC,Lv,Lv]
 have HC:=zH (fun w'=>X9 f1 f2 GM GL w');obtain⟨y,hy⟩:=Kh (L2[q]);rw[hy] at c6 Ex TJ pb pC;obtain⟨bo,bJ⟩:∃bo,(f1 &&& f2==f1)=bo:=⟨_,rfl⟩;rw[bJ] at pb HC;have tZ:=zH pb;have VR:=ay.out;rw[VR] at p6;rw[pC] at c6
 cases bo with
 | true=>
  have hg:=zH (TJ.out tZ.out);go_wp2_with fail;go_quiet ((go_at_call 163;exact(HC.out _).mono fun e w' h=>⟨h.1,_,h.2.symm⟩));go_wp2_with fail
  go_roundw
  case rel=>exact⟨q+1,by omega,by go_num,hg,zx aM.out _⟩
  case measure=>simp[Aq];omega
 | false=>
  have hg:=zH (Ex.out tZ.out);go_wp2_with fail;go_quiet ((go_at_call 163;exact(HC.out _).mono fun e w' h=>⟨h.1,_,h.2.symm⟩));go_wp2_with fail;go_ret;exact⟨ze hg.out.symm,zx (aY.out.trans (bk.out.mono (by omega))) _⟩
theorem Yp(a:Ad)(hf:FewA a)(SV:Bb)(ks:Nat)(w:Ba)(hS:SAt w w.heap.size SV a.sts) :
  Ap An 121 #[Aj #[O U a.n,I SV a.sts.length ks]] w fun e w'=>e=Am (O U (xM a))/\Ao w.heap.size w w':=by
 have dR:=hf.1;have fq:=hf.2;obtain⟨Bh,Vh,ie⟩:=YA hf;have Gk:=zH (fun (w':Ba) (h:SAt w' w'.heap.size SV a.sts)=>wz a SV ks Vh ie Bh w' h);have ot:=zH (fun hz (w':Ba) (h:SAt w' w'.heap.size SV a.sts)=>Xu a hf hz SV ks w' h);have BP:=zH (fun (A:Bb) (k0:Nat) (l:List Mv) (hl:l.length<=40) (k:Nat) (ac:k<l.length) (w':Ba) (h:MAt w' w'.heap.size A l)=>JD a SV ks dR A k0 l hl k ac w' h);have lk:=zH (fun l hl=>hf.each (l:=l) hl);have ay:=zH (@jL a);have al:=zH (@vN a);have aw:=zH (fun h h2=>@jK a h h2 hf);have cA:=zH (fun h h2=>@jM a h h2 hf);obtain⟨E,hE⟩:=Kh (xM a);rw[hE] at ay al aw cA ⊢;obtain⟨ml,CV⟩:=Kh a.mvs.length;rw[CV] at Gk fq;go_enter func121,ntmps121
 by_cases hr:a.n<1\/5<a.n
 . have hR:=zH (ay.out hr)
   have HN:=zH hr;go_wp2_with fail
   all_goals first | (exfalso;have:=HN.out;omega) | skip
   all_goals
    go_ret;exact⟨zc hR.out.symm,zw w _⟩
 have r1:¬a.n<1:=by omega
 have r2:¬5<a.n:=by omega
 have al:=zH (al.out hr);have aw:=zH (aw.out hr);have cA:=zH (cA.out hr);obtain⟨w1,ah⟩:=Kh (w.alloc (Ah #[O U a.n,I SV a.sts.length ks] 27));have aI:=zh w (Ah #[O U a.n,I SV a.sts.length ks] 27);have am:Ao w.heap.size w w1:=by rw[<-ah];exact zw w _
 have co:w1.heap.size=w.heap.size+1:=by rw[<-ah];simp
 rw[ah] at aI;have bK:=zH aI;have aY:=zH am;have HS:=zH ((hS.keep am).more (by omega:w.heap.size<=w1.heap.size));have aq:=zH ah;clear hS ah am;obtain⟨q0,q1,_⟩:=Ka aI
 by_cases hz:a.sts.length<1
 . have hR:=zH (al.out hz)
   clear al aw cA Gk ot BP lk;go_wp2_with fail;rw[aq.out];go_wp2_with fail;go_ret;exact⟨zc hR.out.symm,aY.out⟩
 have bS:1<=a.sts.length:=by omega
 have G3:=zH (aw.out bS);have G4:=zH (cA.out bS);clear al hz aw cA;obtain⟨F,hF⟩:=Kh (zl a a.sts);have HF:As (F=zl a (a.sts.drop 0)):=by rw[LQ];exact hF.symm
 rw[hF] at G3 G4 ot;clear hF;have g1:=zH (fun k h=>@ji a a.sts k h);have g2:=zH (fun k h=>@jQ a a.sts k h);have g3:=zH (fun k h=>@jh a a.sts k h);go_wp2_with fail;rw[aq.out];refine(Gk.out w1 HS.out).mono ?_;rintro e w2 ⟨rfl,cx⟩;have af:Ao w1.heap.size w1 w2:=by rw[cx];exact zw w1 _
 have aW:=zH af;have aN:=La af bK.out;have q1:=za aN 1 rfl;clear cx af aN aI Gk aq;go_wp2_with fail
 all_goals first | (exfalso;omega) | skip
 clear q1
 go_loopw [3] (fun i wr=>∃s:Nat,s<=a.sts.length/\i=O U (s:Int)/\As (F=zl a (a.sts.drop s))/\As (Ao w1.heap.size w1 wr)) (fun i _=>a.sts.length-(Aq i).toNat)
 case atStart=>exact⟨0,by omega,rfl,HF,aW⟩
 obtain⟨s,hs,rfl,ai,bG⟩:=hrel;have aN:=La bG.out bK.out;obtain⟨q0,q1,_⟩:=Ka aN
 by_cases ac:s<a.sts.length
 case neg=>
  obtain rfl:s=a.sts.length:=by omega
  have tw:F=0:=ai.out.trans (g3.out _ rfl);have hR:=zH (G4.out tw);have HG:=zH (ot.out tw wr ((HS.out.keep bG.out).more bG.out.size));obtain⟨gb,fK⟩:=Kh (xd a);rw[fK] at hR HG;clear G3 G4 g1 g2 g3 ai fK tw ot BP lk aN;go_wp2_with fail;refine HG.out.mono ?_;rintro e w3 ⟨rfl,ap⟩;have bL:=zH (aY.out.trans ((Lc bG.out ap).mono (by omega)));clear HG ap q1
  cases gb with
  | true=>
   go_wp2_with fail;go_ret;exact⟨zc hR.out.symm,bL.out⟩
  | false=>
   go_wp2_with fail;go_ret;exact⟨zc hR.out.symm,bL.out⟩
 case pos=>
 have aG:=zH (g1.out s ac);have az:=zH (g2.out s ac);obtain⟨b,o,A',k',e',dH,c1,hM⟩:=(HS.out.keep bG.out).at_ s ac;subst e';have dn:=lk.out _ (Ld ac)
 have oE:As (∀wr:Ba,Ao w1.heap.size w1 wr->wr.cell? ⟨b,o+s,Z⟩=J (.slice A' (a.sts[s]).length k')/\MAt wr w1.heap.size A' a.sts[s]):=fun Cd cF=>
  ⟨((cF.cell (p:=⟨b,_,Z⟩) dH).trans ((bG.out.cell (p:=⟨b,_,Z⟩) dH).symm)).trans c1,(by
   obtain⟨b2,o2,A2,k2,e2,aQ,c2,rF⟩:=(HS.out.keep cF).at_ s ac
   cases e2
   have:=(((cF.cell (p:=⟨b,o+s,Z⟩) dH).trans ((bG.out.cell (p:=⟨b,o+s,Z⟩) dH).symm)).trans c1).symm.trans c2
   cases this
   exact rF)⟩
 obtain⟨L,hL⟩:=Kh (a.sts[s]);rw[hL] at c1 dn oE aG az;clear hM hL g1 g2 g3 aN lk ot
 by_cases iS:L.length=0
 . have he:=uc (a:=a) iS
   rw[he] at aG;have od:=ai.out.trans (aG.out (by decide));have hR:=zH ((G3.out (by rw[od];decide)).trans od);rw[iS] at c1;clear G3 G4 aG az ai he od iS dn oE BP;go_wp2_with fail;go_ret;exact⟨zc hR.out.symm,aY.out.trans (bG.out.mono (by omega))⟩
 have rN:=zH (wh (a:=a) iS);have e0:(((L.length:Nat):Int)==0)=Ax:=by simpa using iS
 have e1:¬((L.length:Nat):Int)=0:=by omega
 have b1:=zH (fun k h=>@uk a L k h);have b2:=zH (fun k h=>@wK a L k h);have b3:=zH (@uj a L);obtain⟨V,hV⟩:=Kh (yS a L);rw[hV] at rN aG az;clear hV iS;go_wp2_with fail;clear q1 c1
 go_loopw [4] (fun i wr=>∃j:Nat,j<=L.length/\i=O U (j:Int)/\As (V=yJ a L j)/\As (Ao w1.heap.size w1 wr)) (fun i _=>L.length-(Aq i).toNat)
 case atStart=>exact⟨0,by omega,rfl,rN,bG⟩
 clear bG rN;obtain⟨j,hj,rfl,re,bG⟩:=hrel;have aN:=La bG.out bK.out;obtain⟨q0,q1,_⟩:=Ka aN;obtain⟨c1,hM⟩:=oE.out _ bG.out
 by_cases bg:j<L.length
 case neg=>
  obtain rfl:j=L.length:=by omega
  have Sv:V=0:=re.out.trans b3.out;have hR:=zH (ai.out.trans (az.out Sv));clear re hM b1 b2 b3 aG az ai Sv aN oE BP G3 G4;go_wp2_with fail
  go_roundw
  case rel=>exact⟨s+1,by omega,by go_num,hR,bG⟩
  simp[Aq];omega
 case pos=>
 have hC:=BP.out A' k' L dn j bg;have x1:=b1.out j bg;have x2:=b2.out j bg;obtain⟨ev,cu⟩:=Kh (yK a (zp L j) L[j]);rw[cu] at hC x1 x2;have HC:=zH hC;have X1:=zH x1;have X2:=zH x2;have mz:=zH hM;have HBK:=zH aN;have i1:(0:Int)<=(s:Int):=by omega
 have i2:(s:Int)<(a.sts.length:Int):=by omega
 clear hC x1 x2 cu hM aN b1 b2 b3 BP;go_wp2_with fail
 go_still_tail 7,(by kernel_rfl)
 change wpList _ _ _ _ _ wr.drew;obtain⟨wd,iB⟩:∃wd,wd=wr.drew:=⟨_,rfl⟩;have BLd:As (Ao w1.heap.size w1 wd):=by rw[iB];exact bG.out.drew
 have HMd:As (MAt wd wd.heap.size A' L):=by rw[iB];exact(mz.out.keep (Lp _ wr).drew).more bG.out.size
 rw[<-iB];clear iB mz q1 c1 HBK;go_wp2_with fail;refine(HC.out wd HMd.out).mono ?_;rintro e w3 ⟨rfl,ap⟩;have lF:=zH (Lc BLd.out ap)
 by_cases he:ev=0
 . subst he
   have hR:=zH (re.out.trans (X2.out (by simp)));go_wp2_with fail
   go_roundw
   case rel=>exact⟨j+1,by omega,by go_num,hR,lF⟩
   simp[Aq];omega
 have St:=re.out.trans (X1.out he);have od:=(ai.out.trans (aG.out (by rw[St];exact he))).trans St;have hR:=zH ((G3.out (by rw[od];exact he)).trans od);have e2:(ev != 0)=Av:=by simpa using he
 go_wp2_with fail;go_ret;exact⟨zc hR.out.symm,aY.out.trans (lF.out.mono (by omega))⟩
end
section
open Go.RowKit Go.Shelf
section
variable {P:Program}
theorem jp{fn:Func}{tmps:Array Au}{R:Ending->Ba->Prop}{B n:Nat} :
  ∀(rs:List Nat) (w:Ba),rs.Nodup->(∀r∈rs,B<=r/\w.heap[r]?=J (.deferred (J [])))->(∀W,Shut B w W->∃v,(results fn tmps).run P W=.ok v W/\R (Am v) W) ->
   LeavesInM Fence.wide n P fn tmps R (rs.map (fun r=>{ target:=.collected r,args:=#[] })) .returning w
 | [],w,_,_,hR=>hR w (Shut.refl _ _)
 | r::rs,w,hn,hm,hR=>by
  obtain⟨hr,H9⟩:=PB.1 hn;obtain⟨hB,hk⟩:=hm r (by simp);refine⟨by simp,.inl ⟨r,_,rfl,run_takeDeferred hk,?_⟩⟩;refine jp rs _ H9 (fun r' fG=>⟨(hm r' (by simp[fG])).1,?_⟩) (fun W hW=>hR W ?_)
  . rw[NX (by rintro rfl;exact hr fG)]
    exact(hm r' (by simp[fG])).2
  . refine⟨((Lp B w).grown (grownBy_putObj' w r (.deferred Z)) (by have:=(Li.1 hk).1;omega) (fun k e=>by cases e;exact hB)).trans hW.below,fun k o ho hc=>?_⟩
    refine hW.same k o ?_ hc
    by_cases e:k=r
    . subst e;rw[hk] at ho;cases ho;cases hc
    . exact(NX e).trans ho
theorem yD{fn:Func}{R:Ending->Ba->Prop}{a:Act}{w:Ba}{B:Nat}(hm:Marks B a.defers w)
  (hR:∀W,Shut B w W->∃v,(results fn a.tmps).run P W=.ok v W/\R (Am v) W):bodyPostM Fence.wide 9 P fn R .ret a w:=by
 obtain⟨rs,hd,hn,hk⟩:=hm;show LeavesInM Fence.wide 9 P fn a.tmps R a.defers .returning w;rw[hd];exact jp rs w hn hk hR
theorem gP{β:Type}{g:Operand}{ps:Array Tmp}{assign body:Code}{Q:Exit->Act->Ba->Prop}{a:Act}{w:Ba}
  {gf:Nat} {lb:Array Au} (hg:a.eval g=.func (.func gf) #[] lb) (eg:Enters P gf)
  {fO:β->Array Au} {K:Nat->Prop} {xs:List β} (ee:Iter P gf lb fO K xs w) (hK:∀k,K k->k<w.heap.size) (mW:∀x,(fO x).size=ps.size)
  (Ae:List { x:β // x∈xs }->Ba->Prop) (Ix:Code->List { x:β // x∈xs }->Ba->Prop) (hI:OwnFrom w.heap.size Ae) (KI:∀c,OwnFrom w.heap.size (Ix c)) (h0:Ae [] w)
  (C:β->Array Au) (T:TypeId) (a₁:{ x:β // x∈xs }->Nat->Act)
  (fL:∀(l:Nat) (pre:List { x:β // x∈xs }) (x:{ x:β // x∈xs }) (W:Ba) (K':Act->Ba->Prop),Ae pre W->(∀g,g=W.heap.size->Ae pre (W.alloc (Ah (C x.1) T))->K' (a₁ x g) (W.alloc (Ah (C x.1) T))) ->
   assign.wpIn (Fence.wide.inRound l) 7 P (Exit.then K' (fun _ _ _=>False)) { tmps:=(ps.zip (fO x.1)).foldl (fun t (p,v)=>t.setIfInBounds p v) a.tmps,defers:=[] } W)
  (nm:∀(l:Nat) (pre:List { x:β // x∈xs }) (x:{ x:β // x∈xs }) (g:Nat) (W:Ba),w.heap.size<=g->W.heap[g]?=J (Ah (C x.1) T (0,0))->Ae pre W->pre.length<xs.length->body.wpIn (Fence.wide.inRound l) 7 P (ownPostG w.heap.size (KeepB K) Ae Ix (pre++[x]) W) (a₁ x g) W)
  (nj:∀(D:Nat) (ys:List { x:β // x∈xs }) (W:Ba),w.heap.size<=D->ys.map (·.1)=xs->Ae ys W->W.heap[D]?=J (.deferred (J []))->Q .normal { a with defers:={ target:=.collected D,args:=#[] }::a.defers } W)
  (mS:∀(D:Nat) (c:Code) (pre:List { x:β // x∈xs }) (W:Ba),w.heap.size<=D->pre.map (·.1) <+: xs->Ix c pre W->W.heap[D]?=J (.deferred (J []))->c.wp P Q { a with defers:={ target:=.collected D,args:=#[] }::a.defers } W)
  (hbig:∀pre W,Ae pre W->w.heap.size<=W.heap.size) :
  (Code.rangeFunc g ps assign body).wp P Q a w:=
 (RE (n:=9)).1 (wpIn_rangeFunc_ownH (F:=Fence.wide) (n:=9) rfl (by omega) hg trivial eg (ee 8 (by omega)) KeepB.trans
  (fun W l o o' hl _ _ _=>KeepB.putObj (fun hk=>by have:=hK l hk;omega) o') (Lp _ _) (fun x=>mW x.1) Ae Ix hI KI h0
  (fun x a' W=>∃g,a'=a₁ x g/\w.heap.size<=g/\W.heap[g]?=J (Ah (C x.1) T (0,0)))
  (fun x a' _ W W' row ⟨g,e,Bp,hc⟩ cS hr=>⟨g,e,Bp,(LO cS (fun r e=>(hr r e).2) hc rfl).trans hc⟩)
  (fun l pre x W K' hi ae=>fL l pre x W K' hi fun g Dh sS=>by
   refine ae _ _ ?_ ?_ sS ⟨g,rfl,by rw[Dh];exact hbig _ _ hi,by rw[Dh];exact zh _ _⟩
   . exact⟨by simp,fun k o _ hk ho=>(NZ W _ k (Li.1 hk).1).trans hk⟩
   . exact KeepB.alloc _ _ _)
  (fun l pre x a' W _ _ hi ⟨g,e,Bp,hc⟩ hl=>by subst e;exact nm l pre x g W Bp hc hi hl) nj
  (fun D c pre W hD hS hc hk=>RE.2 (mS D c pre W hD hS hc hk)))
end
structure RsIn(B:Nat)(C:Array Au)(T:TypeId)(r:Int)(w W:Ba):Prop where
 below:Ao B w W
 b0:W.heap[B]?=J (Ah C T (0,0))
 b1:W.heap[B+1]?=J (Ah #[O U r] 46 (0,0))
theorem RsIn.turn{B:Nat}{C:Array Au}{T:TypeId}{r:Int}{w W W':Ba}{row:Option Nat}(h:RsIn B C T r w W)(hg:W.grownBy W' row)(hr:∀r,row=J r->B<=r/\∃o:Obj,W.heap[r]?=J o/\o.isCells=Ax):RsIn B C T r w W':=
 ⟨h.below.grown hg (by have:=(Li.1 h.b0).1;omega) (fun k hk=>(hr k hk).1),(LO hg (fun r e=>(hr r e).2) h.b0 rfl).trans h.b0,(LO hg (fun r e=>(hr r e).2) h.b1 rfl).trans h.b1⟩
theorem RsIn.on{B D:Nat}{C:Array Au}{T:TypeId}{r:Int}{w W W':Ba}(h:RsIn B C T r w W)(hb:Ao D W W')(hD:B+2<=D):RsIn B C T r w W':=
 ⟨h.below.trans (hb.mono (by omega)),Lb hb (by omega) h.b0,Lb hb (by omega) h.b1⟩
theorem RsIn.set{B:Nat}{C:Array Au}{T:TypeId}{r:Int}{w W:Ba}(h:RsIn B C T r w W)(r':Int):RsIn B C T r' w (W.setCell ⟨B+1,0,Z⟩ (O U r')):=by
 obtain⟨x1,x2,x3⟩:=vj h.b1 (O U r');exact⟨h.below.setCell (by simp) _,(x3 B (by omega)).trans h.b0,x1⟩
theorem RsIn.keeps{B D:Nat}{C:Array Au}{T:TypeId}{r:Int}{w W:Ba}(h:RsIn B C T r w W)(r':Int):KeepsFrom D W (W.setCell ⟨B+1,0,Z⟩ (O U r')):=by
 obtain⟨x1,x2,x3⟩:=vj h.b1 (O U r');refine⟨by omega,fun k o _ hk ho=>?_⟩;have k1:k≠B+1:=by rintro rfl;rw[h.b1] at hk;cases hk;cases ho
 exact(x3 k k1).trans hk
theorem qv{D:Nat}{W W':Ba}(h:Ao W.heap.size W W'):KeepsFrom D W W':=⟨h.size,fun k _ _ hk _=>(h.block k (Li.1 hk).1).trans hk⟩
theorem RsIn.cell{B:Nat}{C:Array Au}{T:TypeId}{r:Int}{w W X:Ba}(h:RsIn B C T r w W)(hS:Shut B W X):X.cell? ⟨B+1,0,Z⟩=J (O U r):=hS.cell (za h.b1 0 rfl)
end
section
open Go.RowKit Go.Shelf
attribute [local go_sem] Oper.semAt_some
theorem gD(a:Ad)(hf:FewA a)(SV:Bb)(ks:Nat)(w:Ba)(hS:SAt w w.heap.size SV a.sts) :
  Ap An 78 #[Aj #[O U a.n,I SV a.sts.length ks]] w fun e w'=>e=Am (O U (xM a))/\Ao w.heap.size w w':=by
 have dR:=hf.1;have tN:=zH (fun (w':Ba) (h:SAt w' w'.heap.size SV a.sts)=>Jy a hf SV ks w' h);have dz:=zH (fun (A:Bb) (k0:Nat) (l:List Mv) (hl:l.length<=40) (w':Ba) (h:MAt w' w'.heap.size A l)=>Jw a SV ks dR A k0 l hl w' h);have HI:=zH (fun (bx:Nat) (w':Ba) (hb:w'.heap[bx]?=J (Ah #[O U a.n,I SV a.sts.length ks] 27)) (h:SAt w' w.heap.size SV a.sts) (hB:w.heap.size<=w'.heap.size)=>kn a hf SV ks w.heap.size bx w' hb h hB);have lk:=zH (fun l hl=>hf.each (l:=l) hl);have ay:=zH (@jL a);have al:=zH (@vN a);have aw:=zH (fun h h2=>@jK a h h2 hf);have cA:=zH (fun h h2=>@jM a h h2 hf);obtain⟨E,hE⟩:=Kh (xM a);rw[hE] at ay al aw cA ⊢;have HS:=zH hS;clear hS hE hf;refine yd func78 rfl ?_;simp only[ntmps78,List.size_toArray,List.length_cons,List.length_nil,Nat.reduceAdd,Nat.reduceSub,Array.replicate_succ,Array.replicate_zero,List.push_toArray,List.append_toArray,List.nil_append,List.cons_append]
 by_cases hr:a.n<1\/5<a.n
 . have hR:=zH (ay.out hr)
   have HN:=zH hr;clear ay al aw cA hr tN dz HI lk;go_wp2_with fail
   all_goals first | (exfalso;have:=HN.out;omega) | skip
   all_goals
    refine yD (B:=w.heap.size) (Marks.nil _ _) ?_;intro W hX;have c1:=hX.cell (za (zh (w.alloc (Ah #[O U a.n,I SV a.sts.length ks] 27)) (Ah #[O U 2] 46)) 0 rfl);rw[LZ] at c1;refine⟨O U 2,?_,zc hR.out.symm,(xX _ _ _).trans hX.below⟩;clear hX hR HN;simp[results,results78,go_sem,c1]
 have r1:¬a.n<1:=by omega
 have r2:¬5<a.n:=by omega
 have al:=zH (al.out hr);have aw:=zH (aw.out hr);have cA:=zH (cA.out hr);clear hr ay;go_wp2_with fail
 all_goals first | (exfalso;omega) | skip
 obtain⟨w2,cx,b0,b1,bn,hB⟩:=zZ w #[O U a.n,I SV a.sts.length ks] #[O U 0] 27 46;rw[cx];have H0:As (RsIn w.heap.size #[O U a.n,I SV a.sts.length ks] 27 0 w w2):=⟨hB,b0,b1⟩;have TA:=zH ((HS.out.keep hB).more hB.size);clear cx b0 b1 hB;refine(tN.out w2 TA.out).mono ?_;rintro e w3 ⟨rfl,hb⟩;have H1:=zH (H0.out.on hb bn);have fE:w.heap.size+2<=w3.heap.size:=by have:=hb.size;omega
 obtain⟨q0,q1,_⟩:=Ka H1.out.b0;have p0:=za H1.out.b1 0 rfl;have f0:=zb H1.out.b1 0;clear hb TA H0 tN
 by_cases hz:a.sts.length<1
 . have hR:=zH (al.out hz)
   rw[Ln hz];clear al aw cA dz HI lk;go_wp2_with fail;refine yD (B:=w.heap.size) (Marks.nil _ _) ?_;intro W hX;have hI:=H1.out.set 5;have c1:=hI.cell hX;refine⟨O U 5,?_,zc hR.out.symm,hI.below.trans hX.below⟩;clear hX hR hI;simp[results,results78,go_sem,c1]
 have bS:1<=a.sts.length:=by omega
 rw[Lj hz];have G3:=zH (aw.out bS);have G4:=zH (cA.out bS);clear al hz aw cA;obtain⟨F,hF⟩:=Kh (zl a a.sts);have HF:As (F=zl a (a.sts.drop 0)):=by rw[LQ];exact hF.symm
 have tM:=zH (fun h=>@xv a (hF.trans h));rw[hF] at G3 G4;clear hF;have g1:=zH (fun k h=>@ji a a.sts k h);have g2:=zH (fun k h=>@jQ a a.sts k h);have g3:=zH (fun k h=>@jh a a.sts k h);go_wp2_with fail
 all_goals first | (exfalso;omega) | skip
 clear q0 q1 p0 f0
 go_loopw [27] (fun i wr=>∃k:Nat,k<=a.sts.length/\i=O U (k:Int)/\As (F=zl a (a.sts.drop k))/\As (RsIn w.heap.size #[O U a.n,I SV a.sts.length ks] 27 0 w wr)/\w.heap.size+2<=wr.heap.size) (fun i _=>a.sts.length-(Aq i).toNat)
 case atStart=>exact⟨0,by omega,rfl,HF,H1,fE⟩
 obtain⟨k,hk,rfl,ai,tr,pZ⟩:=hrel;clear HF;obtain⟨q0,q1,_⟩:=Ka tr.out.b0;have p0:=za tr.out.b1 0 rfl;have f0:=zb tr.out.b1 0
 by_cases ac:k<a.sts.length
 . have aG:=zH (g1.out k ac)
   have az:=zH (g2.out k ac);obtain⟨b,o,A',k',e',dH,c1,hM⟩:=(HS.out.keep tr.out.below).at_ k ac;have dn:=lk.out _ (Ld ac);have HC:=zH (dz.out A' k' (a.sts[k]'ac) dn);have TO:=zH (hM.more tr.out.below.size);obtain⟨L,hL⟩:=Kh (a.sts[k]);rw[hL] at c1 dn HC TO aG az;obtain⟨ev,cu⟩:=Kh (yS a L);rw[cu] at HC aG az;subst e';clear hM hL cu g1 g2 g3 dz HI lk tM;go_wp2_with fail;refine(HC.out _ TO.out).mono ?_;rintro e w4 ⟨rfl,hb⟩;have H4:=zH (tr.out.on hb pZ);have iQ:w.heap.size+2<=w4.heap.size:=by have:=hb.size;omega
   obtain⟨q0,q1,_⟩:=Ka H4.out.b0;have p0:=za H4.out.b1 0 rfl;have f0:=zb H4.out.b1 0;clear hb HC
   by_cases he:ev=0
   . subst he
     have hR:=zH (ai.out.trans (az.out (by simp)));clear aG az ai;go_wp2_with fail
     go_roundw
     case rel=>exact⟨k+1,by omega,by go_num,hR,H4,iQ⟩
     simp[Aq];omega
   have od:=ai.out.trans (aG.out he);have hR:=zH ((G3.out (by rw[od];exact he)).trans od);have e0:(ev != 0)=Av:=by simpa using he
   clear aG az ai G3 G4 od he;go_wp2_with fail;refine yD (B:=w.heap.size) (Marks.nil _ _) ?_;intro W hX;have hI:=H4.out.set ev;have c1:=hI.cell hX;refine⟨O U ev,?_,zc hR.out.symm,hI.below.trans hX.below⟩;clear hX hR hI;simp[results,results78,go_sem,c1]
 obtain rfl:k=a.sts.length:=by omega
 have tw:F=0:=ai.out.trans (g3.out _ rfl);have hR:=zH (G4.out tw);have HZ:=zH (tM.out tw);clear G3 G4 ai g1 g2 g3 dz tM tw;go_wp2_with fail;refine(vB a.n (I SV a.sts.length ks) wr).mono ?_;rintro e W ⟨rfl,hW⟩;have bb:=zh wr (Ah #[O U a.n,I SV a.sts.length ks] 27);have aQ:Ao wr.heap.size wr W:=by rw[<-hW];exact zw _ _
 have bI:wr.heap.size<W.heap.size:=by rw[<-hW];simp
 rw[hW] at bb;have HW:=zH (tr.out.on aQ pZ);have mc:=zH (HI.out wr.heap.size W bb (HS.out.keep HW.out.below) (by omega));clear hW bb aQ HI q0 q1 p0 f0;go_wp2_with fail
 refine gP rfl (PX Rw (by kernel_rfl) rfl) mc.out (by rintro k (h | rfl)<;>omega) (fun _=>rfl)
  (fun (pre:List { x:Int×Mv // x∈zu 0 a.sts }) X=>RsIn w.heap.size #[O U a.n,I SV a.sts.length ks] 27 0 w X/\(∀x∈pre,((a.at_ x.1.2.to).all fun k=>ql x.1.2 k)=Av)/\W.heap.size<=X.heap.size)
  (fun c _ W=>c=.ret/\RsIn w.heap.size #[O U a.n,I SV a.sts.length ks] 27 21 w W/\xd a=Ax)
  (fun _ _ _ _ h hg hr=>⟨h.1.turn hg (fun r e=>⟨by have:=(hr r e).1;omega,(hr r e).2⟩),h.2.1,Lx h.2.2 hg.size⟩) (fun _ _ _ _ _ ⟨h1,h2,h3⟩ hg hr=>⟨h1,h2.turn hg (fun r e=>⟨by have:=(hr r e).1;omega,(hr r e).2⟩),h3⟩)
  ⟨HW.out,(fun x hx=>by cases hx),Lh _⟩ (fun x=>x.2.cells) 121 ?a1 ?assign ?body ?done ?stop (fun _ _ h=>h.2.2)
 case assign=>
  intro l pre x X K hI hK;obtain⟨g,hg⟩:∃g,g=X.heap.size:=⟨_,rfl⟩;have HK:=zH (hK g hg ⟨hI.1.on (zw X _) (zd hI.1.b1),hI.2.1,by have:=hI.2.2;simp;omega⟩);have HG:=zH hg;unfold Mv.cells at HK ⊢;dsimp only at HK ⊢;clear hK hg hI;gi_wp2;rw[<-HG.out];exact HK.out
 case body=>
  intro l pre x g W1 hg fK hI ac;obtain⟨eN,mu,fW⟩:=hI;obtain⟨z1,z2,z3,z4⟩:=HZ.out x.1.2 (ZM x.2);obtain⟨m,hm⟩:=Kh x.1.2;have HM:=zH hm;rw[hm] at z1 z2 z3 z4 fK;obtain⟨f1,DX,GM⟩:=xz z1;obtain⟨t,et⟩:=Lr z3;have lz:t<a.sts.length:=by omega
  have bz:a.at_ m.to=a.sts[t]:=by unfold Ad.at_;rw[et,Lv,Le,Lg lz];rfl
  obtain⟨b,o,A',k',e',dH,c1,tt⟩:=(HS.out.keep eN.below).at_ t lz;have dn:=lk.out _ (Ld lz);have rX:As (∀y∈a.sts[t],zQ y.r=0):=fun y hy=>(HZ.out y (NA.2 ⟨_,Ld lz,hy⟩)).1
  obtain⟨L,hL⟩:=Kh (a.sts[t]);rw[hL] at c1 tt dn rX bz;have oE:=zH bz;have mC:=zH eN;have pJ:=zH mu;have HGB:=zH fK;have pI:=zH (tt.more eN.below.size);obtain⟨q0,q1,_⟩:=Ka eN.b0;have u7:=za fK 7 (u:=O U m.to) rfl;have u6:=za fK 6 (u:=O U m.r.f) rfl;rw[et] at u7;have cJ:=zd fK;have aB:=zd eN.b1;have ay:=zH DX;subst e';clear hm z1 z2 z3 z4 et DX bz hL tt eN mu fK ac;gi_wp2_with fail
  gi_loopw [49] (fun i wr=>∃j:Nat,j<=L.length/\i=O U (j:Int)/\As (∀k (h:k<L.length),k<j->ql m L[k]=Av)/\As (Ao W1.heap.size W1 wr)) (fun i _=>L.length-(Aq i).toNat)
  case atStart=>exact⟨0,by omega,rfl,(fun k h h0=>by omega),Lp _ _⟩
  obtain⟨j,hj,rfl,Fz,aA⟩:=hrel;clear q0 q1 u6 u7 c1
  by_cases bg:j<L.length
  . obtain⟨b2,o2,rfl,af,m0,m1,m2,m3,m4,m5,m6,m7⟩:=(pI.out.keep aA.out).row j bg
    obtain⟨f2,pC,GL⟩:=xz (rX.out _ (Ld bg));have pb:ql m L[j]=decide (f1 &&& f2=f1):=by unfold ql;rw[ay.out,pC,Lv,Lv];rw[Nr];simp
    have cB:L[j]∈L:=Ld bg;obtain⟨y,hy⟩:=Kh (L[j]);have Tq:=zH hy;rw[hy] at m0 m1 m2 m3 m4 m5 m6 m7 pb pC cB;have HEF:=zH pC;have pf:=(aA.out.block g cJ).trans HGB.out;have u6:=za pf 6 (u:=O U m.r.f) rfl;have nZ:=mC.out.on aA.out (by omega);have p0:=za nZ.b1 0 rfl;have f0:=zb nZ.b1 0;have nU:=zd pf;have bG:=zd nZ.b1;have TG:=zH nZ;have tZ:=zH pb;rw[pC] at m6;rw[ay.out] at u6;have FK:=zH (@Y8 f2 f1 GL GM);clear hy pC pf nZ pb cB
    by_cases hk:f1 &&& f2=f1
    . have hz:=FK.out.2 hk
      have Fy:As (ql m y=Av):=tZ.out.trans (Ll hk);clear FK tZ hk;gi_wp2_with fail
      go_roundw
      case rel=>
       refine⟨j+1,by omega,by go_num,fun k h h1=>?_,?_⟩
       . by_cases e:k=j
         . subst e;rw[Tq.out];exact Fy.out
         exact Fz.out k h (by omega)
       exact aA.out.alloc aA.out.size _
      simp[Aq];omega
    have hz:¬(bits BinOp.andNot U (f1:Int) (f2:Int)=0):=fun h=>hk (FK.out.1 h)
    have e0:(bits BinOp.andNot U (f1:Int) (f2:Int) != 0)=Av:=by simpa using hz
    have sW:As (xd a=Ax):=by
     unfold xd As;rw[List.all_eq_false];refine⟨m,by rw[<-HM.out];exact ZM x.2,?_⟩;rw[oE.out];intro aj;have h1:=LH.1 aj y (by rw[<-Tq.out];exact Ld bg);rw[tZ.out,Lm hk] at h1
     cases h1
    clear FK tZ hk hz;gi_wp2_with fail;have dm:=TG.out.set 21;refine⟨((qv aA.out).trans (TG.out.keeps 21)).trans (qv (zw _ _)),rfl,dm.on (zw _ _) (zd dm.b1),sW.out⟩
  obtain rfl:j=L.length:=by omega
  gi_wp2_with fail;refine⟨qv aA.out,KeepB.of_below aA.out (by rintro k (h | rfl)<;>omega),mC.out.on aA.out (by omega),?_,Lx fW aA.out.size⟩;intro y hy;rcases LS.1 hy with hy | hy
  . exact pJ.out y hy
  simp only[List.mem_singleton] at hy;subst hy;rw[HM.out,oE.out,LH];intro z hz;obtain⟨k,hk,rfl⟩:=Nz.1 hz;exact Fz.out k hk hk
 case done=>
  intro D ys W1 hD fB hI ex
  have cS:xd a=Av:=by
   unfold xd;rw[LH];intro m hm;have fI:m∈(zu 0 a.sts).map Prod.snd:=by rw[qu];exact hm
   obtain⟨x,hx,rfl⟩:=LA.1 fI;rw[<-fB] at hx;obtain⟨y,hy,rfl⟩:=LA.1 hx;exact hI.2.1 y hy
  have hE:=zH (hR.out.trans (Ln cS));have HI:=zH hI.1;have p0:=za HI.out.b1 0 rfl;have f0:=zb HI.out.b1 0;have HD:=zH ex;clear hI fB cS ex hR mc HW;go_wp2_with fail;refine yD (B:=w.heap.size) (kq (by omega) ((HI.out.keeps (D:=D) 0).same D _ (Lh _) HD.out rfl)) ?_;intro X hX;have hI:=HI.out.set 0;have c1:=hI.cell hX;refine⟨O U 0,?_,zc hE.out.symm,hI.below.trans hX.below⟩;simp[results,results78,go_sem,c1]
 intro D c pre W1 hD Hv hI ex;obtain⟨rfl,hI,cS⟩:=hI;have hE:=zH (hR.out.trans (Lj (by rw[cS];decide)));have HI:=zH hI;have HD:=zH ex;clear hI cS ex hR mc HW Hv;go_wp2_with fail;refine yD (B:=w.heap.size) (kq (by omega) HD.out) ?_;intro X hX;have c1:=HI.out.cell hX;refine⟨O U 21,?_,zc hE.out.symm,HI.out.below.trans hX.below⟩;clear hX hE;simp[results,results78,go_sem,c1]
end
section
open Go.RowKit
attribute [local go_sem] Oper.semAt_some
def Pb.vs(p:Pb)(A:Bb)(kc:Nat)(SV:Bb)(ks:Nat):Array Au:=#[O U p.t.n,O U p.t.ins,O U p.t.outs,I A p.t.cases.length kc,O U p.a.n,I SV p.a.sts.length ks,O U p.k]
theorem jB{p:Pb}(h:yA p.t≠0):zC p=yA p.t:=Ln h
theorem vu{p:Pb}(h:yA p.t=0)(h2:xM p.a≠0):zC p=xM p.a:=by unfold zC;rw[Lj (by simpa using h),Ln h2]
theorem ZF{p:Pb}(h:yA p.t=0)(h2:xM p.a=0)(h3:p.t.n≠p.a.n):zC p=22:=by unfold zC;rw[Lj (by simpa using h),Lj (by simpa using h2),Ln h3]
theorem ZG{p:Pb}(h:yA p.t=0)(h2:xM p.a=0)(h3:p.t.n=p.a.n)(h4:p.k<0\/6<p.k):zC p=2:=by unfold zC;rw[Lj (by simpa using h),Lj (by simpa using h2),Lj (by simpa using h3),Ln h4]
theorem Yt{p:Pb}(h:yA p.t=0)(h2:xM p.a=0)(h3:p.t.n=p.a.n)(h4:¬(p.k<0\/6<p.k)):zC p=0:=by unfold zC;rw[Lj (by simpa using h),Lj (by simpa using h2),Lj (by simpa using h3),Lj h4]
def ZZ(p:Pb):Prop:=FewT p.t/\FewA p.a
theorem XC(p:Pb)(hf:ZZ p)(A:Bb)(kc:Nat)(SV:Bb)(ks:Nat)(w:Ba)(hA:CAt w w.heap.size A p.t.cases)(hS:SAt w w.heap.size SV p.a.sts) :
  Ap An 43 #[.agg (p.vs A kc SV ks)] w fun e w'=>e=Am (O U (zC p))/\Ao w.heap.size w w':=by
 have HT:=zH (fun (w':Ba) (h:CAt w' w'.heap.size A p.t.cases)=>Xh p.t A kc hf.1 w' h);have HD:=zH (fun (w':Ba) (h:SAt w' w'.heap.size SV p.a.sts)=>gD p.a hf.2 SV ks w' h);have ay:=zH (@jB p);have al:=zH (@vu p);have aw:=zH (@ZF p);have cA:=zH (@ZG p);have fg:=zH (@Yt p);obtain⟨E,hE⟩:=Kh (zC p);rw[hE] at ay al aw cA fg ⊢;obtain⟨tE,Hk⟩:=Kh (yA p.t);rw[Hk] at ay al aw cA fg HT;obtain⟨aE,Kt⟩:=Kh (xM p.a);rw[Kt] at al aw cA fg HD;unfold Pb.vs;obtain⟨w1,ah⟩:=Kh (w.alloc (Ah (p.vs A kc SV ks) 29));have aI:=zh w (Ah (p.vs A kc SV ks) 29);have am:Ao w.heap.size w w1:=by rw[<-ah];exact zw w _
 have co:w1.heap.size=w.heap.size+1:=by rw[<-ah];simp
 rw[ah] at aI;unfold Pb.vs at ah aI;have bK:=zH aI;have aY:=zH am;have HA:=zH ((hA.keep am).more (by omega:w.heap.size<=w1.heap.size));have HS:=zH ((hS.keep am).more (by omega:w.heap.size<=w1.heap.size));have aq:=zH ah;have q0:=za aI 0 rfl;clear hA hS ah am aI;go_enter func43,ntmps43;go_wp2_with fail;rw[aq.out];go_wp2_with fail;refine(HT.out w1 HA.out).mono ?_;rintro e w2 ⟨rfl,af⟩;have B2:=zH (aY.out.trans (af.mono (by omega)));have dg:=zH ((HS.out.keep af).more af.size);have aN:=La af bK.out;have aW:=zH aN;have dX:=af.size;have q4:=za aN 4 rfl;have q5:=za aN 5 rfl
 by_cases h1:tE=0
 case neg=>
  have hR:=zH (ay.out h1);go_wp2_with fail;go_ret;exact⟨zc hR.out.symm,B2.out⟩
 case pos=>
 subst h1;have F2:=zH (al.out (by simp));have F3:=zH (aw.out (by simp));have F4:=zH (cA.out (by simp));have F5:=zH (fg.out (by simp));go_wp2_with fail;refine(HD.out w2 dg.out).mono ?_;rintro e w3 ⟨rfl,ap⟩;have B3:=zH (B2.out.trans (ap.mono (by omega)));have aN:=La ap aW.out;have q0:=za aN 0 rfl;have q4:=za aN 4 rfl;have q6:=za aN 6 rfl;clear ap aN HD q5
 by_cases h2:aE=0
 case neg=>
  have hR:=zH (F2.out h2);have e0:(aE != 0)=Av:=by simpa using h2
  clear F2 F3 F4 F5 h2;go_wp2_with fail;go_ret;exact⟨zc hR.out.symm,B3.out⟩
 case pos=>
 subst h2;clear F2;have G3:=zH (F3.out (by simp));have G4:=zH (F4.out (by simp));have G5:=zH (F5.out (by simp));clear F3 F4 F5
 by_cases h3:p.t.n=p.a.n
 case neg=>
  have hR:=zH (G3.out h3);have e0:(p.t.n != p.a.n)=Av:=by simpa using h3
  clear G3 G4 G5;go_wp2_with fail
  all_goals
   go_ret;exact⟨zc hR.out.symm,B3.out⟩
 case pos=>
 have K4:=zH (G4.out h3);have K5:=zH (G5.out h3);rw[h3] at q0
 by_cases h4:p.k<0\/6<p.k
 . have hR:=zH (K4.out h4)
   by_cases h5:p.k<0
   . clear h4
     go_wp2_with fail
     all_goals first | (exfalso;omega) | skip
     go_ret;exact⟨zc hR.out.symm,B3.out⟩
   have h6:6<p.k:=by omega
   go_wp2_with fail
   all_goals first | (exfalso;omega) | skip
   go_ret;exact⟨zc hR.out.symm,B3.out⟩
 have hR:=zH (K5.out h4);have h5:¬p.k<0:=by omega
 have h6:¬6<p.k:=by omega
 go_wp2_with fail
 all_goals first | (exfalso;omega) | skip
 go_ret;exact⟨zc hR.out.symm,B3.out⟩
theorem ue(p:Pb)(hf:ZZ p)(A:Bb)(kc:Nat)(SV:Bb)(ks:Nat)(w:Ba)(hA:CAt w w.heap.size A p.t.cases)(hS:SAt w w.heap.size SV p.a.sts) :
  Ap An 93 #[.agg (p.vs A kc SV ks)] w fun e w'=>e=Am (O U (zC p))/\Ao w.heap.size w w':=by
 have HT:=zH (fun (w':Ba) (h:CAt w' w'.heap.size A p.t.cases)=>Yf p.t A kc hf.1 w' h);have HD:=zH (fun (w':Ba) (h:SAt w' w'.heap.size SV p.a.sts)=>Yp p.a hf.2 SV ks w' h);have ay:=zH (@jB p);have al:=zH (@vu p);have aw:=zH (@ZF p);have cA:=zH (@ZG p);have fg:=zH (@Yt p);obtain⟨E,hE⟩:=Kh (zC p);rw[hE] at ay al aw cA fg ⊢;obtain⟨tE,Hk⟩:=Kh (yA p.t);rw[Hk] at ay al aw cA fg HT;obtain⟨aE,Kt⟩:=Kh (xM p.a);rw[Kt] at al aw cA fg HD;unfold Pb.vs;obtain⟨w1,ah⟩:=Kh (w.alloc (Ah (p.vs A kc SV ks) 29));have aI:=zh w (Ah (p.vs A kc SV ks) 29);have am:Ao w.heap.size w w1:=by rw[<-ah];exact zw w _
 have co:w1.heap.size=w.heap.size+1:=by rw[<-ah];simp
 rw[ah] at aI;unfold Pb.vs at ah aI;have bK:=zH aI;have aY:=zH am;have HA:=zH ((hA.keep am).more (by omega:w.heap.size<=w1.heap.size));have HS:=zH ((hS.keep am).more (by omega:w.heap.size<=w1.heap.size));have aq:=zH ah;have q0:=za aI 0 rfl;clear hA hS ah am aI;go_enter func93,ntmps93;go_wp2_with fail;rw[aq.out];go_wp2_with fail;refine(HT.out w1 HA.out).mono ?_;rintro e w2 ⟨rfl,af⟩;have B2:=zH (aY.out.trans (af.mono (by omega)));have dg:=zH ((HS.out.keep af).more af.size);have aN:=La af bK.out;have aW:=zH aN;have dX:=af.size;have q4:=za aN 4 rfl;have q5:=za aN 5 rfl
 by_cases h1:tE=0
 case neg=>
  have hR:=zH (ay.out h1);go_wp2_with fail;go_ret;exact⟨zc hR.out.symm,B2.out⟩
 case pos=>
 subst h1;have F2:=zH (al.out (by simp));have F3:=zH (aw.out (by simp));have F4:=zH (cA.out (by simp));have F5:=zH (fg.out (by simp));go_wp2_with fail;refine(HD.out w2 dg.out).mono ?_;rintro e w3 ⟨rfl,ap⟩;have B3:=zH (B2.out.trans (ap.mono (by omega)));have aN:=La ap aW.out;have q0:=za aN 0 rfl;have q4:=za aN 4 rfl;have q6:=za aN 6 rfl;clear ap aN HD q5
 by_cases h2:aE=0
 case neg=>
  have hR:=zH (F2.out h2);have e0:(aE != 0)=Av:=by simpa using h2
  clear F2 F3 F4 F5 h2;go_wp2_with fail;go_ret;exact⟨zc hR.out.symm,B3.out⟩
 case pos=>
 subst h2;clear F2;have G3:=zH (F3.out (by simp));have G4:=zH (F4.out (by simp));have G5:=zH (F5.out (by simp));clear F3 F4 F5
 by_cases h3:p.t.n=p.a.n
 case neg=>
  have hR:=zH (G3.out h3);have e0:(p.t.n != p.a.n)=Av:=by simpa using h3
  clear G3 G4 G5;go_wp2_with fail
  all_goals
   go_ret;exact⟨zc hR.out.symm,B3.out⟩
 case pos=>
 have K4:=zH (G4.out h3);have K5:=zH (G5.out h3);rw[h3] at q0
 by_cases h4:p.k<0\/6<p.k
 . have hR:=zH (K4.out h4)
   by_cases h5:p.k<0
   . clear h4
     go_wp2_with fail
     all_goals first | (exfalso;omega) | skip
     go_ret;exact⟨zc hR.out.symm,B3.out⟩
   have h6:6<p.k:=by omega
   go_wp2_with fail
   all_goals first | (exfalso;omega) | skip
   go_ret;exact⟨zc hR.out.symm,B3.out⟩
 have hR:=zH (K5.out h4);have h5:¬p.k<0:=by omega
 have h6:¬6<p.k:=by omega
 go_wp2_with fail
 all_goals first | (exfalso;omega) | skip
 go_ret;exact⟨zc hR.out.symm,B3.out⟩
def uI(p:Pb):Prop:=LowT p.t/\LowA p.a
theorem pb_eq{a b:Pb}(h1:a.t=b.t)(h2:a.a=b.a)(h3:a.k=b.k):a=b:=by cases a;cases b;simp_all
theorem Xr(a b:Pb)(ha:uI a)(hb:uI b)(A B SA SB:Bb)(ca cb sa sb:Nat)(w:Ba)(hA:CAt w w.heap.size A a.t.cases)(hB:CAt w w.heap.size B b.t.cases)(FS:SAt w w.heap.size SA a.a.sts)(DL:SAt w w.heap.size SB b.a.sts) :
  Ap An 96 #[.agg (a.vs A ca SA sa),.agg (b.vs B cb SB sb)] w fun e w'=>e=Am (Ai (decide (a=b)))/\Ao w.heap.size w w':=by
 obtain⟨w1,ah,d0,d1,bI,hBw⟩:=zZ w (a.vs A ca SA sa) (b.vs B cb SB sb) 29 29;have rM:=zH (Xp a.t b.t ha.1 hb.1 A B ca cb w1 ((hA.keep hBw).more hBw.size) ((hB.keep hBw).more hBw.size));have NN:=zH (fun (W:Ba) (hW:Ao w1.heap.size w1 W)=>Xs a.a b.a ha.2 hb.2 SA SB sa sb W ((((FS.keep hBw).more hBw.size).keep hW).more hW.size) ((((DL.keep hBw).more hBw.size).keep hW).more hW.size));unfold Pb.vs at ah d0 d1 ⊢;have bk:=zH hBw;have bu:=zH d0;have bQ:=zH d1;have aq:=zH ah;have q2:=za d1 2 rfl;have q3:=za d1 3 rfl;have q6:=za d1 6 rfl;clear ah d0 d1 hBw hA hB FS DL ha hb;have HT:As (a≠b->decide (a=b)=Ax):=fun h=>Lm h
 have HU:As (a=b->decide (a=b)=Av):=fun h=>Ll h
 obtain⟨r,hr⟩:∃r,decide (a=b)=r:=⟨_,rfl⟩;rw[hr] at HT HU ⊢;clear hr;have HE:=zH (@pb_eq a b);go_enter func96,ntmps96
 by_cases h1:a.k=b.k
 case neg=>
  have hR:=zH (HT.out (fun h=>h1 (congrArg Pb.k h)));have e0:(a.k==b.k)=Ax:=by simpa using h1
  clear HT HU HE h1 rM NN;go_wp2_with fail;rw[aq.out];go_wp2_with fail
  all_goals
   go_ret;exact⟨ze hR.out.symm,bk.out⟩
 case pos=>
 have e0:(a.k==b.k)=Av:=by simpa using h1
 have al:As (a.t=b.t->a.a=b.a->a=b):=fun x y=>HE.out x y h1
 clear HE h1;have h1:=rM
 by_cases h2:a.t=b.t
 case neg=>
  have hR:=zH (HT.out (fun h=>h2 (congrArg Pb.t h)));rw[Lm h2] at h1;clear HT HU al h2 rM NN;go_wp2_with fail;rw[aq.out];go_wp2_with fail;refine h1.out.mono ?_;rintro e w2 ⟨rfl,af⟩;go_wp2_with fail;go_ret;exact⟨ze hR.out.symm,Lc bk.out af⟩
 case pos=>
 rw[Ll h2] at h1;have aw:As (a.a=b.a->a=b):=fun y=>al.out h2 y
 clear al rM h2;go_wp2_with fail;rw[aq.out];go_wp2_with fail;refine h1.out.mono ?_;rintro e w2 ⟨rfl,af⟩;have d0:=La af bu.out;have d1:=La af bQ.out;have p4:=za d0 4 rfl;have p5:=za d0 5 rfl;have q4:=za d1 4 rfl;have q5:=za d1 5 rfl;have HC:=zH (NN.out w2 af);have aW:=zH (Lc bk.out af);go_wp2_with fail;refine HC.out.mono ?_;rintro e w3 ⟨rfl,ap⟩;have bL:=zH (Lc aW.out ap)
 have hR:As (decide (a.a=b.a)=r):=by
  by_cases h3:a.a=b.a
  . show _=_;rw[Ll h3,HU.out (aw.out h3)]
  show _=_;rw[Lm h3,HT.out (fun h=>h3 (congrArg Pb.a h))]
 go_wp2_with fail;go_ret;exact⟨ze hR.out,bL.out⟩
def ZY(x:Exn):Prop:=x.word.length<=17592186044416/\x.views.length<=17592186044416/\∀v∈x.views,v.length<=17592186044416
theorem exn_eq{x y:Exn}(h1:x.c=y.c)(h2:x.word=y.word)(h3:x.views=y.views):x=y:=by cases x;cases y;simp_all
theorem Xo(x y:Exn)(hx:ZY x)(hy:ZY y)(A1 A2 B1 B2:Bb)(a1 a2 b1 b2:Nat)(w:Ba)(eP:RAt w w.heap.size A1 x.word)(DW:LAt w w.heap.size A2 x.views)(aB:RAt w w.heap.size B1 y.word)(aQ:LAt w w.heap.size B2 y.views) :
  Ap An 98 #[Aj #[O U x.c,I A1 x.word.length a1,I A2 x.views.length a2],Aj #[O U y.c,I B1 y.word.length b1,I B2 y.views.length b2]] w fun e w'=>e=Am (Ai (decide (x=y)))/\Ao w.heap.size w w':=by
 obtain⟨mK,Ff,OO⟩:=hx;obtain⟨GV,GU,OL⟩:=hy;have iF:=zH OO;have le:=zH OL;obtain⟨w1,ah,d0,d1,bI,hB⟩:=zZ w #[O U x.c,I A1 x.word.length a1,I A2 x.views.length a2] #[O U y.c,I B1 y.word.length b1,I B2 y.views.length b2] 42 42;have HS:=zH (uB A1 B1 a1 b1 x.word y.word mK GV w1 ((eP.keep hB).more hB.size) ((aB.keep hB).more hB.size));have BT:=zH ((DW.keep hB).more hB.size);have tX:=zH ((aQ.keep hB).more hB.size);have bk:=zH hB;have bu:=zH d0;have bQ:=zH d1;have aq:=zH ah;have p0:=za d0 0 rfl;have p2:=za d0 2 rfl;have q1:=za d1 1 rfl;have q2:=za d1 2 rfl;clear ah d0 d1 hB eP DW aB aQ OO OL;have HT:As (x≠y->decide (x=y)=Ax):=fun h=>Lm h
 have HU:As (x=y->decide (x=y)=Av):=fun h=>Ll h
 obtain⟨r,hr⟩:∃r,decide (x=y)=r:=⟨_,rfl⟩;rw[hr] at HT HU ⊢;clear hr;go_enter func98,ntmps98
 by_cases h1:x.c=y.c
 case neg=>
  have hR:=zH (HT.out (fun h=>h1 (congrArg Exn.c h)));have e0:(x.c != y.c)=Av:=by simpa using h1
  clear HT HU HS;go_wp2_with fail;rw[aq.out];go_wp2_with fail
  all_goals
   go_ret;exact⟨ze hR.out.symm,bk.out⟩
 case pos=>
 have H1:=zH h1;rw[h1] at p0 aq bu;clear h1;go_wp2_with fail;rw[aq.out];go_wp2_with fail;refine HS.out.mono ?_;rintro e w2 ⟨rfl,m,cx⟩;have af:Ao w1.heap.size w1 w2:=by rw[cx];exact zx (Lp _ _) m
 have aW:=zH af;have p2:=za (La af bu.out) 2 rfl;have q2:=za (La af bQ.out) 2 rfl;clear af cx HS aq q1 p0
 by_cases h2:x.word=y.word
 case neg=>
  have hR:=zH (HT.out (fun h=>h2 (congrArg Exn.word h)));rw[Lm h2];clear HT HU;go_wp2_with fail;go_ret;exact⟨ze hR.out.symm,Lc bk.out aW.out⟩
 case pos=>
 have H2:=zH h2;rw[Ll h2];clear h2
 by_cases h3:x.views.length=y.views.length
 case neg=>
  have hR:=zH (HT.out (fun h=>h3 (by rw[h])));have e0:((x.views.length:Int) != (y.views.length:Int))=Av:=by simp;omega
  have e1:¬((x.views.length:Int)=(y.views.length:Int)):=by omega
  clear HT HU h3;go_wp2_with fail;go_ret;exact⟨ze hR.out.symm,Lc bk.out aW.out⟩
 case pos=>
 have HL:=zH h3;have H3:As (x.views=y.views->r=Av):=fun h=>HU.out (exn_eq H1.out H2.out h)
 have H4:As (x.views≠y.views->r=Ax):=fun h=>HT.out (fun e=>h (congrArg Exn.views e))
 rw[<-h3] at q2 GU;clear HT HU h3;go_wp2_with fail;clear p2 q2
 go_loopw [5] (fun i wr=>∃k:Nat,k<=x.views.length/\i=O U (k:Int)/\As (x.views.take k=y.views.take k)/\As (Ao w1.heap.size w1 wr)) (fun i _=>x.views.length-(Aq i).toNat)
 case atStart=>exact⟨0,by omega,rfl,by rw[As,LP,LP],aW⟩
 obtain⟨k,hk,rfl,hp,hb⟩:=hrel;have p2:=za (La hb.out bu.out) 2 rfl;have q2:=za (La hb.out bQ.out) 2 rfl;have MR:=HL.out;rw[<-HL.out] at q2
 by_cases ac:k<x.views.length
 case neg=>
  obtain rfl:k=x.views.length:=by omega
  have hR:=zH (H3.out (xO HL.out hp.out));go_wp2_with fail;go_ret;exact⟨ze hR.out.symm,Lc bk.out hb.out⟩
 case pos=>
 have dQ:k<y.views.length:=by omega
 obtain⟨ba,oa,A',k1,ea,_,a0,IA⟩:=(BT.out.keep hb.out).at_ k ac;obtain⟨bb,ob,B',k2,eb,_,b0,IB⟩:=(tX.out.keep hb.out).at_ k dQ;subst ea;subst eb;have dD:=iF.out _ (Ld ac);have cV:=le.out _ (Ld dQ);have hc:=fun (p:Nat)=>gI A' B' k1 k2 x.views[k] y.views[k] dD cV (wr.drewN p) (IA.more hb.out.size) (IB.more hb.out.size)
 have h0:As (x.views[k]=y.views[k]->x.views.take (k+1)=y.views.take (k+1)):=fun he=>yG hp.out ac dQ he
 have hN:As (x.views[k]≠y.views[k]->r=Ax):=fun he=>H4.out (fun h=>he (by simp only[h]))
 by_cases he:x.views[k]=y.views[k]
 . have hR:=zH (h0.out he)
   rw[Ll he] at hc;obtain⟨la,sN⟩:=Kh (x.views[k].length);obtain⟨lb,nS⟩:=Kh (y.views[k].length);rw[sN] at a0 hc dD;rw[nS] at b0 hc cV;have HC:=zH hc;go_wp2_with fail;go_quiet ((go_at_call 130;first | exact zN (HC.out _) | exact Nl (HC.out _)));go_wp2_with fail
   go_roundw
   case rel=>exact⟨k+1,by omega,by go_num,hR,zx hb.out _⟩
   simp[Aq];omega
 have hR:=zH (hN.out he);rw[Lm he] at hc;obtain⟨la,sN⟩:=Kh (x.views[k].length);obtain⟨lb,nS⟩:=Kh (y.views[k].length);rw[sN] at a0 hc dD;rw[nS] at b0 hc cV;have HC:=zH hc;go_wp2_with fail;go_quiet ((go_at_call 130;first | exact zN (HC.out _) | exact Nl (HC.out _)));go_wp2_with fail;go_ret;exact⟨ze hR.out.symm,zx (Lc bk.out hb.out) _⟩
end
section
def yE(f:Nat->Int):Nat->Int
 | 0=>0
 | k+1=>if yE f k=0 then f k else yE f k
theorem kT{f:Nat->Int}{k:Nat}(h:yE f k=0):yE f (k+1)=f k:=by simp[yE,h]
theorem JZ{f:Nat->Int}{k:Nat}(h:yE f k≠0):∀m,k<=m->yE f m=yE f k:=by
 intro m hm
 induction m with
 | zero => obtain rfl : k = 0 := by omega
           rfl
 | succ m ih=>
  by_cases e:k=m+1
  . subst e;rfl
  . have:=ih (by omega)
    simp only[yE];rw[Lj (by rw[this];exact h),this]
theorem kA{f:Nat->Int}{k m:Nat}(h:yE f k=0)(hf:f k≠0)(hm:k<m):yE f m=f k:=by
 have h1:=kT h;rw[JZ (k:=k+1) (by rw[h1];exact hf) m (by omega),h1]
theorem xJ{f:Nat->Int}:∀ {m:Nat},yE f m=0↔∀k,k<m->f k=0
 | 0=>by simp[yE]
 | m+1=>by
  have ih:=xJ (f:=f) (m:=m);simp only[yE];constructor
  . intro h k hk
    by_cases e:yE f m=0
    . rw[Ln e] at h
      by_cases ek:k=m
      . subst ek;exact h
      . exact ih.1 e k (by omega)
    . rw[Lj e] at h;exact absurd h e
  . intro h
    have e:yE f m=0:=ih.2 fun k hk=>h k (by omega)
    rw[Ln e];exact h m (by omega)
def zv(vs:List Vw)(i:Nat):Vw:=vs.getD i default
theorem qw{vs:List Vw}{i:Nat}(h:i<vs.length):zv vs i=vs[i]:=by simp[zv,h]
theorem vG{vs:List Vw}{i k:Nat}(h:i<k):zv (vs.take k) i=zv vs i:=by
 unfold zv;rw[Le,Le,PI,Ln h]
def qY(n:Int)(v:Vw)(q:Nat):Bool:=decide (v.h q≠-1/\(v.r=0\/n<=(q:Int)))
def xn(n:Int)(v:Vw):Bool:=decide (v.p<0\/n<=v.p\/v.r<0\/6<v.r\/(v.r=0/\(v.i<0\/8<=v.i)))
def yZ(n:Int)(v:Vw):Int:=
 if xn n v=Av then 2 else if 0<v.r/\v.i≠0 then 3 else if (List.range 5).any (qY n v)=Av then 3 else 0
def yh(vs:List Vw)(v:Vw)(q:Nat):Int:=
 if v.h q=-1 then 0 else if v.h q<0\/(vs.length:Int)<=v.h q then 6
 else if (zv vs (v.h q).toNat).p≠(q:Int)\/(zv vs (v.h q).toNat).r≠v.r-1 then 22 else 0
def zS(v:Vw):List Nat:=(yn v).map fun x=>x.2.toNat
theorem qJ{v:Vw}{c:Nat}:c∈zS v↔0<v.r/\∃q:Nat,q<5/\0<=v.h q/\c=(v.h q).toNat:=by
 unfold zS;rw[LA];constructor
 . rintro⟨x,hx,rfl⟩
   obtain⟨hr,q,hq,rfl,h0⟩:=qj.1 hx;exact⟨hr,q,hq,h0,rfl⟩
 rintro⟨hr,q,hq,h0,rfl⟩;exact⟨_,qj.2 ⟨hr,q,hq,rfl,h0⟩,rfl⟩
def qf(vs:List Vw):Nat->Nat->Nat->Bool
 | 0,i,x=>x==i
 | f+1,i,x=>x==i||(zS (zv vs i)).any fun c=>qf vs f c x
def kd(vs:List Vw)(i x:Nat):Bool:=qf vs vs.length i x
def qt(vs:List Vw)(l:List Nat):List Nat:=(List.range vs.length).filter fun x=>l.any fun c=>kd vs c x
def ut(vs:List Vw)(a b:Nat):Bool:=decide ((zv vs a).p=(zv vs b).p/\(zv vs a).r=(zv vs b).r)
def kH(vs:List Vw):List Nat->Bool
 | []=>Av
 | a::l=>(l.all fun b=>!ut vs a b)&&kH vs l
def zR(n:Int)(vs:List Vw)(v:Vw):Int:=
 if yZ n v≠0\/v.r=0 then yZ n v
 else if yE (yh vs v) 5≠0 then yE (yh vs v) 5
 else if v.h v.p.toNat=-1 then 20
 else if kH vs (qt vs (zS v))=Av then 0 else 22
def jV(n:Int)(vs:List Vw)(k:Nat):Int:=
 if zR n (vs.take k) (zv vs k)≠0 then zR n (vs.take k) (zv vs k) else if zv vs k∈vs.take k then 7 else 0
def ye(n:Int)(vs:List Vw):Int:=if n<1\/5<n then 1 else if 8192<vs.length then 5 else yE (jV n vs) vs.length
def uJ(vs:List Vw):Prop:=∀i,i<vs.length->∀c,c∈zS (zv vs i)->c<i
def Wf(n:Int)(vs:List Vw):Prop:=1<=n/\n<=5/\∀k,k<vs.length->jV n vs k=0
theorem qX{n:Int}{v:Vw}(h:yZ n v=0):0<=v.p/\v.p<n/\0<=v.r/\v.r<=6/\(v.r=0->0<=v.i/\v.i<8)/\(0<v.r->v.i=0)/\∀q,q<5->v.h q≠-1->v.r≠0/\(q:Int)<n:=by
 unfold yZ at h
 split at h
 . cases h
 rename_i h1
 split at h
 . cases h
 rename_i h2
 split at h
 . cases h
 rename_i h3;simp only[xn,decide_eq_true_eq] at h1;simp only[List.any_eq_true,List.mem_range,qY,decide_eq_true_eq,not_exists] at h3;refine⟨by omega,by omega,by omega,by omega,fun e=>by omega,fun e=>by omega,fun q hq hh=>?_⟩;have:=h3 q;constructor
 . intro e;exact this ⟨hq,hh,.inl e⟩
 have h4:¬n<=(q:Int):=fun e=>this ⟨hq,hh,.inr e⟩
 omega
theorem kU{n:Int}{vs:List Vw}{v:Vw}(h:zR n vs v=0):yZ n v=0/\(v.r≠0->(∀q,q<5->yh vs v q=0)/\v.h v.p.toNat≠-1/\kH vs (qt vs (zS v))=Av):=by
 unfold zR at h
 split at h
 . rename_i h1
   refine⟨h,fun hr=>?_⟩;rcases h1 with h1 | h1
   . exact absurd h h1
   exact absurd h1 hr
 rename_i h1
 split at h
 . rename_i h2;exact absurd h h2
 rename_i h2
 split at h
 . cases h
 rename_i h3
 split at h
 . rename_i h4
   exact⟨by omega,fun _=>⟨xJ.1 (by omega),h3,h4⟩⟩
 cases h
theorem wO{vs:List Vw}{v:Vw}{q:Nat}(h:yh vs v q=0)(h1:v.h q≠-1):0<=v.h q/\(v.h q).toNat<vs.length/\(zv vs (v.h q).toNat).p=(q:Int)/\(zv vs (v.h q).toNat).r=v.r-1:=by
 unfold yh at h;rw[Lj h1] at h
 split at h
 . cases h
 split at h
 . cases h
 omega
theorem ZD{n:Int}{vs:List Vw}{k:Nat}(h:jV n vs k=0):zR n (vs.take k) (zv vs k)=0/\zv vs k∉vs.take k:=by
 unfold jV at h
 split at h
 . rename_i h1;exact absurd h h1
 rename_i h1
 split at h
 . cases h
 rename_i h2;exact⟨by omega,h2⟩
theorem kid_ok{n:Int}{vs:List Vw}{v:Vw}{c:Nat}(h:zR n vs v=0)(hc:c∈zS v):c<vs.length/\(zv vs c).r=v.r-1:=by
 obtain⟨hr,q,hq,h0,rfl⟩:=qJ.1 hc;obtain⟨_,h2⟩:=kU h;have:=wO ((h2 (by omega)).1 q hq) (by omega);exact⟨this.2.1,this.2.2.2⟩
theorem Wf.acyc{n:Int}{vs:List Vw}(h:Wf n vs):uJ vs:=fun i hi c hc=>by
 have:=(kid_ok (ZD (h.2.2 i hi)).1 hc).1;simp at this;omega
theorem JC{n:Int}{vs:List Vw}{k m:Nat}(h:k<m):jV n (vs.take m) k=jV n vs k:=by
 unfold jV;rw[vG h,RO,show min k m=k from by omega]
theorem Wf.of_CheckE{n:Int}{vs:List Vw}(h:ye n vs=0):Wf n vs/\vs.length<=8192:=by
 unfold ye at h
 split at h
 . cases h
 split at h
 . cases h
 exact⟨⟨by omega,by omega,xJ.1 h⟩,by omega⟩
theorem Yn{vs:List Vw}(ha:uJ vs):∀(i f g x:Nat),i<vs.length->i<=f->i<=g->qf vs f i x=qf vs g i x:=by
 intro i
 induction i using Nat.strongRecOn with
 | _ i ih=>
  intro f g x hi hf hg
  have key:∀f,i<=f->qf vs f i x=(x==i||(zS (zv vs i)).any fun c=>qf vs c c x):=by
   intro f hf
   cases f with
   | zero=>
    have hk:zS (zv vs i)=[]:=by
     rw[List.eq_nil_iff_forall_not_mem];intro c hc;have:=ha i hi c hc;omega
    simp[qf,hk]
   | succ f=>
    simp only[qf]
    congr 1
    rw[Nr,Ns,Ns];constructor
    . rintro⟨c,hc,h⟩
      have:=ha i hi c hc;exact⟨c,hc,by rw[ih c this c f x (by omega) (by omega) (by omega)];exact h⟩
    . rintro⟨c,hc,h⟩
      have:=ha i hi c hc;exact⟨c,hc,by rw[ih c this f c x (by omega) (by omega) (by omega)];exact h⟩
  rw[key f hf,key g hg]
theorem kO{vs:List Vw}(ha:uJ vs){i x:Nat}(hi:i<vs.length):kd vs i x=Av↔x=i\/∃c,c∈zS (zv vs i)/\kd vs c x=Av:=by
 have h1:kd vs i x=qf vs (vs.length+1) i x:=Yn ha i _ _ x hi (by omega) (by omega);rw[h1];simp only[qf,Bool.or_eq_true,beq_iff_eq,List.any_eq_true]
 rfl
theorem wC(vs:List Vw)(i:Nat):kd vs i i=Av:=by
 unfold kd
 cases vs.length<;>simp[qf]
theorem Xx{vs:List Vw}(ha:uJ vs):∀ {i x c:Nat},i<vs.length->kd vs i x=Av->c∈zS (zv vs x)->kd vs i c=Av:=by
 intro i
 induction i using Nat.strongRecOn with
 | _ i ih=>
  intro x c hi h hc;rcases(kO ha hi).1 h with rfl | ⟨d,hd,h'⟩
  . exact(kO ha hi).2 (.inr ⟨c,hc,wC vs c⟩)
  . have:=ha i hi d hd
    exact(kO ha hi).2 (.inr ⟨d,hd,ih d this (by omega) h' hc⟩)
theorem jX{vs:List Vw}(ha:uJ vs){S:Nat->Prop}(hS:∀i,i<vs.length->S i->∀c,c∈zS (zv vs i)->S c):∀ {i x:Nat},i<vs.length->S i->kd vs i x=Av->S x:=by
 intro i
 induction i using Nat.strongRecOn with
 | _ i ih=>
  intro x hi hs h;rcases(kO ha hi).1 h with rfl | ⟨d,hd,h'⟩
  . exact hs
  . have:=ha i hi d hd
    exact ih d this (by omega) (hS i hi hs d hd) h'
theorem Zb{vs:List Vw}{l:List Nat}{x:Nat}:x∈qt vs l↔x<vs.length/\∃c,c∈l/\kd vs c x=Av:=by
 simp[qt]
end
end Go.Proofs.YtkledihebeidlaaGreatDoor
