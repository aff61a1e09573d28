/- Merged. -/
import Derived.Test.YtkledihebeidlaaGreatDoorVa
import Derived.Deep.RegionHeld3
import Derived.Deep.DeepCutAuto
import Derived.StillTailTactics
import Derived.RangeFuncNested
import Derived.RangeFuncBound
import Derived.RangeFuncCalls
import Derived.RangeFuncLeaves
import Derived.Shelf.Abstract
import Derived.Shelf.RegionOpen
import Derived.OwnWalkIn
import Derived.TacticsInMore
import Derived.LoopNIn
import Derived.LoopIn
open Go.Proofs.Tryz
open Go.Value renaming int->O,slice->I,bool->Ai,agg->Aj,pointer->Ak
open Go.IntKind renaming i64->U
open Option renaming none->Z,some->J
open Go.Obj renaming cells->Ah
open Go.Ending renaming returned->Am
open Go.Proofs.Tryz renaming prog->An
open Go.RowKit renaming Below->Ao,intOf->Aq,Hid->As
open Go renaming Calls->Ap,Value->Au,wpIn_wide->Rz
open Bool renaming true->Av,false->Ax,false_and->NF
open Go.Calls renaming quiet_of->Ni
open Go.World renaming putObj_heap_other->NY
open Nat renaming zero_mul->Rx
namespace Go.Proofs.YtkledihebeidlaaGreatDoor
abbrev Nu:=@Bool.and_eq_true
abbrev Lz:=@Nat.le_trans
abbrev NA:=@List.mem_iff_getElem
abbrev Le:=@Go.RowKit.Below.heap_setCell
abbrev Rl:=@Go.cells_of_cell
abbrev L6:=@Go.World.cell?_of_block
abbrev Pz:=@List.nodup_cons
abbrev Rr:=@Go.callsIn_wide
abbrev LQ:=@List.mem_cons
abbrev LH:=@List.map_append
abbrev Pc:=@List.map_map
abbrev PS:=@List.flatten_cons
abbrev LE:=@List.length_map
abbrev P1:=@Go.Proofs.Tryz.func142
abbrev Lx:=@List.length_cons
abbrev L4:=@List.nil_append
abbrev L5:=@List.cons_append
abbrev Lq:=@List.length_append
abbrev Ng:=@List.append_assoc
abbrev RU:=@Array.getElem?_eq_getElem
abbrev Nb:=@Go.bodyPost_ret
abbrev Rq:=@Go.results_none
abbrev N6:=@Array.getElem?_modify
abbrev NK:=@List.mem_singleton
abbrev LP:=@Go.grownBy_keeps_cells
abbrev PD:=@Go.Proofs.enters_of
abbrev Nr:=@List.mem_flatten
abbrev LG:=@List.mem_map
abbrev Ra:=@List.take_append_drop
abbrev Pp:=@Nat.add_zero
abbrev Lv:=@Int.toNat_natCast
abbrev Lf:=@List.getD_eq_getElem?_getD
abbrev Lg:=@List.getElem?_eq_getElem
abbrev Rp:=@List.getElem?_take
abbrev RQ:=@List.take_take
set_option maxRecDepth 100000
set_option maxHeartbeats 16000000
section
open Go.RowKit
theorem kF{P:Program}{f:FuncId}{args:Array Au}{W:Ba}{q a:Nat}{v:Au}(h:Ap P f args (W.drewN (q+a)) fun e w'=>e=Am v/\w'=W.drewN (q+a)):Ap P f args (W.drewN (q+a)) fun e w'=>e=Am v/\∃n,w'=W.drewN (q+n):=
 h.mono fun _ _ ⟨h1,h2⟩=>⟨h1,a,h2⟩
theorem zJ{P:Program}{f:FuncId}{args:Array Au}{W:Ba}{q a:Nat}{v:Au}(h:Ap P f args (W.drewN (q+a)) fun e w'=>e=Am v/\∃n,w'=(W.drewN (q+a)).drewN n):Ap P f args (W.drewN (q+a)) fun e w'=>e=Am v/\∃n,w'=W.drewN (q+n):=
 h.mono fun _ _ ⟨h1,n,h2⟩=>⟨h1,a+n,by rw[h2,Pn,Pu]⟩
theorem rone_any(t:Tk)(A:Bb)(kc:Nat)(hf:FewT t)(i:Nat)(hi:i<t.cases.length)(w:Ba)(hA:CAt w w.heap.size A t.cases) :
  Ap An 143 #[Aj #[O U t.n,O U t.ins,O U t.outs,I A t.cases.length kc],O U i] w fun e w'=>e=Am (O U (xU t (zm t.cases i) t.cases[i]))/\Ao w.heap.size w w':=by
 obtain⟨df,eZ⟩:=hf;have Sa:=zH eZ;have lf:=zH (@hU t (zm t.cases i) t.cases[i]);have bf:=zH (@uh t (zm t.cases i) t.cases[i]);have cJ:=zH (@hZ t (zm t.cases i) t.cases[i]);obtain⟨E,hE⟩:=Kh (xU t (zm t.cases i) t.cases[i]);rw[hE] at lf bf cJ ⊢;obtain⟨n,ins,m,cs⟩:=t;dsimp only at df Sa lf bf cJ hA hi ⊢;obtain⟨b,o,A0,k0,A1,k1,A2,k2,e,dH,c0,c1,c2,I0,I1,I2⟩:=hA.row i hi;obtain⟨f0,⟨f1,f2⟩,f3,f4⟩:=eZ _ (Ld hi);obtain⟨bo,bI⟩:=Kh (xx ((zm cs i).map Cs.inp) cs[i].inp);have bu:=zH bI;rw[bI] at bf cJ;have ay:=zH (@ud n m cs[i]);have am:=zH (@wL n m cs[i]);have az:=zH (@ue n m cs[i]);obtain⟨x,hx⟩:=Kh (cs[i]);have HX:=zH hx;rw[hx] at c0 c1 c2 I0 I1 I2 f0 f1 f2 f3 f4 lf bf cJ ay am az;obtain⟨xi,xo,xc⟩:=x;dsimp only at c0 c1 c2 I0 I1 I2 f0 f1 f2 f3 f4 lf bf cJ ay am az;obtain⟨ev,cm⟩:=Kh (zr xi n ins);rw[cm] at lf bf cJ;have eh:=zH f2;have nQ:=zH f4;obtain⟨W1,cG,b0,b1,aZ,aw⟩:=tboxes w #[O U n,O U ins,O U m,I A cs.length kc] #[I A0 xi.length k0,I A1 xo.length k1,I A2 xc.length k2] 24 118;have bh:=zH aw;have H0:=zH ((I0.keep aw).more (show w.heap.size<=W1.heap.size by omega));have H1:=zH ((I1.keep aw).more (show w.heap.size<=W1.heap.size by omega));have H2:=zH ((I2.keep aw).more (show w.heap.size<=W1.heap.size by omega));have KG:=zH ((hA.keep aw).more (show w.heap.size<=W1.heap.size by omega));have mV:=zH (kd A0 k0 xi n ins (by omega) W1 H0.out);rw[cm] at mV;subst e
 have lH:=zH b0;have lG:=zH b1;have fR:=zH cG;clear hE bI hx cm f2 f4 hA eZ I0 I1 I2 cG aw b0 b1 aZ;go_enter func143,ntmps143;go_wp2_with fail;rw[fR.out];obtain⟨q0,q1,q2,q3,_⟩:=Kb lH.out;obtain⟨p0,p1,p2,_⟩:=Kc lG.out;have Eh:=bh.out.size;clear fR c0 c1 c2;refine mV.out.mono ?_;rintro e w' ⟨rfl,dR⟩;obtain rfl:W1=w':=dR.symm;clear mV
 by_cases cm:ev=0
 case neg=>
  have hd:=zH (lf.out cm);have e0:(ev != 0)=Av:=by simpa using cm
  clear lf bf cJ ay am az cm bu HX;go_wp2_with fail;go_ret;exact⟨zc hd.out.symm,bh.out⟩
 case pos=>
 subst cm;clear lf
 cases i with
 | zero=>
  obtain rfl:bo=Ax:=by rw[<-bu.out];rfl
  have g0:decide ((0:Int)<0)=Ax:=by decide
  clear bu HX;go_wp2_with fail;go_quiet (fail);have en:=zH (cJ.out (by simp) (by simp));clear bf cJ
  by_cases hz:xo.length<1
  . have hR:=zH (en.out.trans (ay.out hz))
    clear en ay am az;go_wp2_with fail
    all_goals first | (exfalso;omega) | skip
    go_ret;exact⟨zc hR.out.symm,by repeat (first | exact bh.out | refine zu ?_ _)⟩
  have bK:¬((xo.length:Int)<1):=by omega
  have am:=zH (fun h=>en.out.trans (am.out (by omega) (by omega) h));have az:=zH (fun h=>en.out.trans (az.out (by omega) (by omega) h));clear ay en;obtain⟨F,hF⟩:∃F,qa (fun v=>zr v n m) xo=F:=⟨_,rfl⟩;have HF:As (F=yd (fun v=>zr v n m) xo 0):=by rw[xh];exact hF.symm
  rw[hF] at am az;clear hF;go_wp2_with fail
  all_goals first | (exfalso;omega) | skip
  go_loopw [7] (fun i wr=>∃k q:Nat,k<=xo.length/\i=O U (k:Int)/\As (F=yd (fun v=>zr v n m) xo k)/\wr=W1.drewN q) (fun i _=>xo.length-(Aq i).toNat)
  case atStart=>exact⟨0,_,by omega,rfl,HF,rfl⟩
  case round=>
   obtain⟨k,q,hk,rfl,ah,rfl⟩:=hrel;clear HF
   by_cases ac:k<xo.length
   . obtain⟨b,o,A3,k3,rfl,hb,c3,I3⟩:=H1.out.at_ k ac
     have l3:=eh.out _ (Ld ac);have mQ:=zH I3;have aG:=zH (@xC (fun v=>zr v n m) xo k ac);have bf:=zH (@yR (fun v=>zr v n m) xo k ac);have aA:=zH (@xX (fun v=>zr v n m) xo k ac);have HV:=zH (fun (p:Nat)=>kd A3 k3 xo[k] n m (by omega) (W1.drewN p) I3);obtain⟨bo,bI⟩:=Kh (xx (zm xo k) xo[k]);have bu:=zH bI;rw[bI] at bf aA;obtain⟨v,hv⟩:=Kh (xo[k]);have HX:=zH hv;rw[hv] at c3 mQ l3 aG bf aA HV;obtain⟨ev,cm⟩:=Kh (zr v n m);rw[cm] at aG bf aA HV;obtain⟨vl,cp⟩:=Kh v.length;have dy:=zH cp;rw[cp] at c3 l3 HV;clear hv bI cm cp I3
     by_cases he:ev=0
     case neg=>
      have hR:=zH (ah.out.trans (aG.out he));have HR:=zH ((am.out (by rw[hR.out];exact he)).trans hR.out);clear ah bf aA aG am az bu HX dy;have e0:(ev != 0)=Av:=by simpa using he
      clear he;go_wp2_with fail;go_quiet ((go_at_call 159;exact kF (HV.out _)));go_wp2_with fail;go_ret;exact⟨zc HR.out.symm,by repeat (first | exact bh.out | refine zu ?_ _)⟩
     case pos=>
     subst he;clear aG;go_wp2_with fail;go_quiet ((go_at_call 159;exact kF (HV.out _)));clear HV;have ib:k<=30:=by omega
     cases k with
     | zero=>
      obtain rfl:bo=Ax:=by rw[<-bu.out];rfl
      have g0:decide ((0:Int)<0)=Ax:=by decide
      clear bu HX dy;go_wp2_with fail;go_quiet (fail);have hR:=zH (ah.out.trans (aA.out (by simp) (by simp)));clear ah bf aA;go_wp2_with fail
      go_roundw
      case rel=>exact⟨0+1,_,by omega,by go_num,hR,rfl⟩
      case measure=>simp[Aq];omega
     | succ j=>
      have hj:j<xo.length:=by omega
      have bS:xx (zm xo (j+1)) xo[j+1]=decide (0<=zh xo[j] xo[j+1]):=by rw[zQ xo j hj];rfl
      obtain⟨b',o',ni,mh,e',_,u0,U0⟩:=H1.out.at_ j hj
      cases e'
      have mP:=eh.out _ (Ld hj);rw[HX.out] at bS;have hc:=fun (p:Nat)=>yL ni A3 mh k3 xo[j] v (by omega) (by rw[<-HX.out];have:=eh.out _ (Ld ac);omega) (W1.drewN p) U0 mQ.out
      rw[show xx (zm xo (j+1)) v=bo by have:=bu.out;rwa[HX.out] at this] at bS;obtain⟨r,hr⟩:=Kh (zh xo[j] v);rw[hr] at bS hc;have cB:=zH bS;obtain⟨nl,eq⟩:=Kh (xo[j].length);rw[eq] at u0 hc mP;rw[dy.out] at hc;have HC:=zH hc;clear bS hc hr eq U0 bu HX dy;have g1:((j:Int)+1).toNat=j+1:=by omega
      have g3:IntKind.i64.wrap ((j:Int)+1-1)=(j:Int):=by rw[Ly];omega
      have g5:IntKind.i64.wrap ((j:Int)+1)=(j:Int)+1:=by rw[Ly];omega
      have g6:decide ((0:Int)<(j:Int)+1)=Av:=Lm (by omega)
      cases bo with
      | true=>
       have g7:decide (0<=r)=Av:=cB.out.symm;have g8:0<=r:=LI g7;clear cB;go_wp2_with fail;go_quiet ((go_at_call 148;first | exact zJ (HC.out _) | exact Ni (HC.out _)));clear HC g1 g3 g5 g6 u0;have hR:=zH (ah.out.trans (bf.out (by simp) (by simp)));have ce:=zH ((am.out (by rw[hR.out];decide)).trans hR.out);clear ah bf aA am az;go_wp2_with fail;go_ret;exact⟨zc ce.out.symm,by repeat (first | exact bh.out | refine zu ?_ _)⟩
      | false=>
       have g7:decide (0<=r)=Ax:=cB.out.symm;have g8:¬0<=r:=NJ g7;clear cB;go_wp2_with fail;go_quiet ((go_at_call 148;first | exact zJ (HC.out _) | exact Ni (HC.out _)));clear HC g1 g3 g5 g6 u0;have hR:=zH (ah.out.trans (aA.out (by simp) (by simp)));clear ah bf aA;go_wp2_with fail
       go_roundw
       case rel=>exact⟨j+1+1,_,by omega,by go_num,hR,rfl⟩
       case measure=>simp[Aq];omega
   . obtain rfl:k=xo.length:=by omega
     have hR:=zH (ah.out.trans xB);have HR:=zH (az.out hR.out);clear ah am az hR;go_wp2_with fail;obtain⟨G,hG⟩:=Kh (qa (xR xo) xc);have HG:As (G=yd (xR xo) xc 0):=by rw[xh];exact hG.symm
     rw[hG] at HR;clear hG
     go_loopw [9] (fun i wr=>∃k q:Nat,k<=xc.length/\i=O U (k:Int)/\As (G=yd (xR xo) xc k)/\wr=W1.drewN q) (fun i _=>xc.length-(Aq i).toNat)
     case atStart=>exact⟨0,_,by omega,rfl,HG,rfl⟩
     case round=>
      obtain⟨k,q,hk,rfl,ah,rfl⟩:=hrel;clear HG
      by_cases ac:k<xc.length
      . obtain⟨b,o,A3,k3,rfl,hb,c3,I3⟩:=H2.out.at_ k ac
        have l3:=nQ.out _ (Ld ac);have mQ:=zH I3;have aG:=zH (@xC (xR xo) xc k ac);have bf:=zH (@yR (xR xo) xc k ac);have aA:=zH (@xX (xR xo) xc k ac);have HV:=zH (fun (p:Nat)=>Z3 A1 k1 xo A3 k3 xc[k] (by omega) (fun v hv=>by have:=eh.out v hv;omega) (by omega) (W1.drewN p) H1.out I3);have ec:As (∀v,xR xo v=if v∈xo then 0 else 6):=fun _=>rfl
        obtain⟨bo,bI⟩:=Kh (xx (zm xc k) xc[k]);have bu:=zH bI;rw[bI] at bf aA;obtain⟨v,hv⟩:=Kh (xc[k]);have HX:=zH hv;rw[hv] at c3 mQ l3 aG bf aA HV;have ec:=zH (ec.out v);obtain⟨ev,cm⟩:=Kh (xR xo v);rw[cm] at aG bf aA ec;obtain⟨vl,cp⟩:=Kh v.length;have dy:=zH cp;rw[cp] at c3 l3 HV;clear hv bI cm cp I3
        by_cases hm:v∈xo
        case neg=>
         have he:ev=6:=ec.out.trans (Lj hm);subst he;rw[Ll hm] at HV;have hR:=zH (ah.out.trans (aG.out (by decide)));have ce:=zH (HR.out.trans hR.out);clear ah bf aA aG hm ec HR bu HX dy;go_wp2_with fail;go_quiet ((go_at_call 160;exact zJ (HV.out _)));go_wp2_with fail;go_ret;exact⟨zc ce.out.symm,by repeat (first | exact bh.out | refine zu ?_ _)⟩
        case pos=>
        have he:ev=0:=ec.out.trans (Ln hm);subst he;rw[Lm hm] at HV;clear aG hm ec;go_wp2_with fail;go_quiet ((go_at_call 160;exact zJ (HV.out _)));clear HV;have ib:k<=30:=by omega
        cases k with
        | zero=>
         obtain rfl:bo=Ax:=by rw[<-bu.out];rfl
         have g0:decide ((0:Int)<0)=Ax:=by decide
         clear bu HX dy;go_wp2_with fail;go_quiet (fail);have hR:=zH (ah.out.trans (aA.out (by simp) (by simp)));clear ah bf aA;go_wp2_with fail
         go_roundw
         case rel=>exact⟨0+1,_,by omega,by go_num,hR,rfl⟩
         case measure=>simp[Aq];omega
        | succ j=>
         have hj:j<xc.length:=by omega
         have bS:xx (zm xc (j+1)) xc[j+1]=decide (0<=zh xc[j] xc[j+1]):=by rw[zQ xc j hj];rfl
         obtain⟨b',o',ni,mh,e',_,u0,U0⟩:=H2.out.at_ j hj
         cases e'
         have mP:=nQ.out _ (Ld hj);rw[HX.out] at bS;have hc:=fun (p:Nat)=>yL ni A3 mh k3 xc[j] v (by omega) (by rw[<-HX.out];have:=nQ.out _ (Ld ac);omega) (W1.drewN p) U0 mQ.out
         rw[show xx (zm xc (j+1)) v=bo by have:=bu.out;rwa[HX.out] at this] at bS;obtain⟨r,hr⟩:=Kh (zh xc[j] v);rw[hr] at bS hc;have cB:=zH bS;obtain⟨nl,eq⟩:=Kh (xc[j].length);rw[eq] at u0 hc mP;rw[dy.out] at hc;have HC:=zH hc;clear bS hc hr eq U0 bu HX dy;have g1:((j:Int)+1).toNat=j+1:=by omega
         have g3:IntKind.i64.wrap ((j:Int)+1-1)=(j:Int):=by rw[Ly];omega
         have g5:IntKind.i64.wrap ((j:Int)+1)=(j:Int)+1:=by rw[Ly];omega
         have g6:decide ((0:Int)<(j:Int)+1)=Av:=Lm (by omega)
         cases bo with
         | true=>
          have g7:decide (0<=r)=Av:=cB.out.symm;have g8:0<=r:=LI g7;clear cB;go_wp2_with fail;go_quiet ((go_at_call 148;first | exact zJ (HC.out _) | exact Ni (HC.out _)));clear HC g1 g3 g5 g6 u0;have hR:=zH (ah.out.trans (bf.out (by simp) (by simp)));have ce:=zH (HR.out.trans hR.out);clear ah bf aA HR;go_wp2_with fail;go_ret;exact⟨zc ce.out.symm,by repeat (first | exact bh.out | refine zu ?_ _)⟩
         | false=>
          have g7:decide (0<=r)=Ax:=cB.out.symm;have g8:¬0<=r:=NJ g7;clear cB;go_wp2_with fail;go_quiet ((go_at_call 148;first | exact zJ (HC.out _) | exact Ni (HC.out _)));clear HC g1 g3 g5 g6 u0;have hR:=zH (ah.out.trans (aA.out (by simp) (by simp)));clear ah bf aA;go_wp2_with fail
          go_roundw
          case rel=>exact⟨j+1+1,_,by omega,by go_num,hR,rfl⟩
          case measure=>simp[Aq];omega
      . obtain rfl:k=xc.length:=by omega
        have hR:=zH (ah.out.trans xB);have ce:=zH (HR.out.trans hR.out);clear ah HR hR;go_wp2_with fail;go_ret;exact⟨zc ce.out.symm,by repeat (first | exact bh.out | refine zu ?_ _)⟩
 | succ j=>
  have hj:j<cs.length:=by omega
  have bS:xx ((zm cs (j+1)).map Cs.inp) cs[j+1].inp=decide (0<=zh cs[j].inp cs[j+1].inp):=by rw[zQ cs j hj];rfl
  obtain⟨b',o',ni,mh,_,_,_,_,e',_,u0,_,_,U0,_,_⟩:=KG.out.row j hj
  cases e'
  obtain⟨mP,_,_⟩:=Sa.out _ (Ld hj);rw[HX.out] at bS;have hc:=fun (p:Nat)=>yL ni A0 mh k0 cs[j].inp xi (by omega) (by omega) (W1.drewN p) U0 H0.out
  rw[show xx ((zm cs (j+1)).map Cs.inp) xi=bo by have:=bu.out;rwa[HX.out] at this] at bS;obtain⟨r,hr⟩:=Kh (zh cs[j].inp xi);rw[hr] at bS hc;have cB:=zH bS;obtain⟨nl,eq⟩:=Kh (cs[j].inp.length);rw[eq] at u0 hc mP;have HC:=zH hc;clear bS hc hr eq U0 bu HX;have g1:((j:Int)+1).toNat=j+1:=by omega
  have g3:IntKind.i64.wrap ((j:Int)+1-1)=(j:Int):=by rw[Ly];omega
  have g5:IntKind.i64.wrap ((j:Int)+1)=(j:Int)+1:=by rw[Ly];omega
  have g6:decide ((0:Int)<(j:Int)+1)=Av:=Lm (by omega)
  cases bo with
  | true=>
   have g7:decide (0<=r)=Av:=cB.out.symm;have g8:0<=r:=LI g7;clear cB;go_wp2_with fail;go_quiet ((go_at_call 148;first | exact zJ (HC.out _) | exact Ni (HC.out _)));clear HC g1 g3 g5 g6 u0;have hd:=zH (bf.out (by simp) (by simp));clear bf cJ ay am az;go_wp2_with fail;go_ret;exact⟨zc hd.out.symm,by repeat (first | exact bh.out | refine zu ?_ _)⟩
  | false=>
   have g7:decide (0<=r)=Ax:=cB.out.symm;have g8:¬0<=r:=NJ g7;clear cB;go_wp2_with fail;go_quiet ((go_at_call 148;first | exact zJ (HC.out _) | exact Ni (HC.out _)));clear HC g1 g3 g5 g6 u0;have en:=zH (cJ.out (by simp) (by simp));clear bf cJ
   by_cases hz:xo.length<1
   . have hR:=zH (en.out.trans (ay.out hz))
     clear en ay am az;go_wp2_with fail
     all_goals first | (exfalso;omega) | skip
     go_ret;exact⟨zc hR.out.symm,by repeat (first | exact bh.out | refine zu ?_ _)⟩
   have bK:¬((xo.length:Int)<1):=by omega
   have am:=zH (fun h=>en.out.trans (am.out (by omega) (by omega) h));have az:=zH (fun h=>en.out.trans (az.out (by omega) (by omega) h));clear ay en;obtain⟨F,hF⟩:∃F,qa (fun v=>zr v n m) xo=F:=⟨_,rfl⟩;have HF:As (F=yd (fun v=>zr v n m) xo 0):=by rw[xh];exact hF.symm
   rw[hF] at am az;clear hF;go_wp2_with fail
   all_goals first | (exfalso;omega) | skip
   go_loopw [7] (fun i wr=>∃k q:Nat,k<=xo.length/\i=O U (k:Int)/\As (F=yd (fun v=>zr v n m) xo k)/\wr=W1.drewN q) (fun i _=>xo.length-(Aq i).toNat)
   case atStart=>exact⟨0,_,by omega,rfl,HF,rfl⟩
   case round=>
    obtain⟨k,q,hk,rfl,ah,rfl⟩:=hrel;clear HF
    by_cases ac:k<xo.length
    . obtain⟨b,o,A3,k3,rfl,hb,c3,I3⟩:=H1.out.at_ k ac
      have l3:=eh.out _ (Ld ac);have mQ:=zH I3;have aG:=zH (@xC (fun v=>zr v n m) xo k ac);have bf:=zH (@yR (fun v=>zr v n m) xo k ac);have aA:=zH (@xX (fun v=>zr v n m) xo k ac);have HV:=zH (fun (p:Nat)=>kd A3 k3 xo[k] n m (by omega) (W1.drewN p) I3);obtain⟨bo,bI⟩:=Kh (xx (zm xo k) xo[k]);have bu:=zH bI;rw[bI] at bf aA;obtain⟨v,hv⟩:=Kh (xo[k]);have HX:=zH hv;rw[hv] at c3 mQ l3 aG bf aA HV;obtain⟨ev,cm⟩:=Kh (zr v n m);rw[cm] at aG bf aA HV;obtain⟨vl,cp⟩:=Kh v.length;have dy:=zH cp;rw[cp] at c3 l3 HV;clear hv bI cm cp I3
      by_cases he:ev=0
      case neg=>
       have hR:=zH (ah.out.trans (aG.out he));have HR:=zH ((am.out (by rw[hR.out];exact he)).trans hR.out);clear ah bf aA aG am az bu HX dy;have e0:(ev != 0)=Av:=by simpa using he
       clear he;go_wp2_with fail;go_quiet ((go_at_call 159;exact kF (HV.out _)));go_wp2_with fail;go_ret;exact⟨zc HR.out.symm,by repeat (first | exact bh.out | refine zu ?_ _)⟩
      case pos=>
      subst he;clear aG;go_wp2_with fail;go_quiet ((go_at_call 159;exact kF (HV.out _)));clear HV;have ib:k<=30:=by omega
      cases k with
      | zero=>
       obtain rfl:bo=Ax:=by rw[<-bu.out];rfl
       have g0:decide ((0:Int)<0)=Ax:=by decide
       clear bu HX dy;go_wp2_with fail;go_quiet (fail);have hR:=zH (ah.out.trans (aA.out (by simp) (by simp)));clear ah bf aA;go_wp2_with fail
       go_roundw
       case rel=>exact⟨0+1,_,by omega,by go_num,hR,rfl⟩
       case measure=>simp[Aq];omega
      | succ j=>
       have hj:j<xo.length:=by omega
       have bS:xx (zm xo (j+1)) xo[j+1]=decide (0<=zh xo[j] xo[j+1]):=by rw[zQ xo j hj];rfl
       obtain⟨b',o',ni,mh,e',_,u0,U0⟩:=H1.out.at_ j hj
       cases e'
       have mP:=eh.out _ (Ld hj);rw[HX.out] at bS;have hc:=fun (p:Nat)=>yL ni A3 mh k3 xo[j] v (by omega) (by rw[<-HX.out];have:=eh.out _ (Ld ac);omega) (W1.drewN p) U0 mQ.out
       rw[show xx (zm xo (j+1)) v=bo by have:=bu.out;rwa[HX.out] at this] at bS;obtain⟨r,hr⟩:=Kh (zh xo[j] v);rw[hr] at bS hc;have cB:=zH bS;obtain⟨nl,eq⟩:=Kh (xo[j].length);rw[eq] at u0 hc mP;rw[dy.out] at hc;have HC:=zH hc;clear bS hc hr eq U0 bu HX dy;have g1:((j:Int)+1).toNat=j+1:=by omega
       have g3:IntKind.i64.wrap ((j:Int)+1-1)=(j:Int):=by rw[Ly];omega
       have g5:IntKind.i64.wrap ((j:Int)+1)=(j:Int)+1:=by rw[Ly];omega
       have g6:decide ((0:Int)<(j:Int)+1)=Av:=Lm (by omega)
       cases bo with
       | true=>
        have g7:decide (0<=r)=Av:=cB.out.symm;have g8:0<=r:=LI g7;clear cB;go_wp2_with fail;go_quiet ((go_at_call 148;first | exact zJ (HC.out _) | exact Ni (HC.out _)));clear HC g1 g3 g5 g6 u0;have hR:=zH (ah.out.trans (bf.out (by simp) (by simp)));have ce:=zH ((am.out (by rw[hR.out];decide)).trans hR.out);clear ah bf aA am az;go_wp2_with fail;go_ret;exact⟨zc ce.out.symm,by repeat (first | exact bh.out | refine zu ?_ _)⟩
       | false=>
        have g7:decide (0<=r)=Ax:=cB.out.symm;have g8:¬0<=r:=NJ g7;clear cB;go_wp2_with fail;go_quiet ((go_at_call 148;first | exact zJ (HC.out _) | exact Ni (HC.out _)));clear HC g1 g3 g5 g6 u0;have hR:=zH (ah.out.trans (aA.out (by simp) (by simp)));clear ah bf aA;go_wp2_with fail
        go_roundw
        case rel=>exact⟨j+1+1,_,by omega,by go_num,hR,rfl⟩
        case measure=>simp[Aq];omega
    . obtain rfl:k=xo.length:=by omega
      have hR:=zH (ah.out.trans xB);have HR:=zH (az.out hR.out);clear ah am az hR;go_wp2_with fail;obtain⟨G,hG⟩:=Kh (qa (xR xo) xc);have HG:As (G=yd (xR xo) xc 0):=by rw[xh];exact hG.symm
      rw[hG] at HR;clear hG
      go_loopw [9] (fun i wr=>∃k q:Nat,k<=xc.length/\i=O U (k:Int)/\As (G=yd (xR xo) xc k)/\wr=W1.drewN q) (fun i _=>xc.length-(Aq i).toNat)
      case atStart=>exact⟨0,_,by omega,rfl,HG,rfl⟩
      case round=>
       obtain⟨k,q,hk,rfl,ah,rfl⟩:=hrel;clear HG
       by_cases ac:k<xc.length
       . obtain⟨b,o,A3,k3,rfl,hb,c3,I3⟩:=H2.out.at_ k ac
         have l3:=nQ.out _ (Ld ac);have mQ:=zH I3;have aG:=zH (@xC (xR xo) xc k ac);have bf:=zH (@yR (xR xo) xc k ac);have aA:=zH (@xX (xR xo) xc k ac);have HV:=zH (fun (p:Nat)=>Z3 A1 k1 xo A3 k3 xc[k] (by omega) (fun v hv=>by have:=eh.out v hv;omega) (by omega) (W1.drewN p) H1.out I3);have ec:As (∀v,xR xo v=if v∈xo then 0 else 6):=fun _=>rfl
         obtain⟨bo,bI⟩:=Kh (xx (zm xc k) xc[k]);have bu:=zH bI;rw[bI] at bf aA;obtain⟨v,hv⟩:=Kh (xc[k]);have HX:=zH hv;rw[hv] at c3 mQ l3 aG bf aA HV;have ec:=zH (ec.out v);obtain⟨ev,cm⟩:=Kh (xR xo v);rw[cm] at aG bf aA ec;obtain⟨vl,cp⟩:=Kh v.length;have dy:=zH cp;rw[cp] at c3 l3 HV;clear hv bI cm cp I3
         by_cases hm:v∈xo
         case neg=>
          have he:ev=6:=ec.out.trans (Lj hm);subst he;rw[Ll hm] at HV;have hR:=zH (ah.out.trans (aG.out (by decide)));have ce:=zH (HR.out.trans hR.out);clear ah bf aA aG hm ec HR bu HX dy;go_wp2_with fail;go_quiet ((go_at_call 160;exact zJ (HV.out _)));go_wp2_with fail;go_ret;exact⟨zc ce.out.symm,by repeat (first | exact bh.out | refine zu ?_ _)⟩
         case pos=>
         have he:ev=0:=ec.out.trans (Ln hm);subst he;rw[Lm hm] at HV;clear aG hm ec;go_wp2_with fail;go_quiet ((go_at_call 160;exact zJ (HV.out _)));clear HV;have ib:k<=30:=by omega
         cases k with
         | zero=>
          obtain rfl:bo=Ax:=by rw[<-bu.out];rfl
          have g0:decide ((0:Int)<0)=Ax:=by decide
          clear bu HX dy;go_wp2_with fail;go_quiet (fail);have hR:=zH (ah.out.trans (aA.out (by simp) (by simp)));clear ah bf aA;go_wp2_with fail
          go_roundw
          case rel=>exact⟨0+1,_,by omega,by go_num,hR,rfl⟩
          case measure=>simp[Aq];omega
         | succ j=>
          have hj:j<xc.length:=by omega
          have bS:xx (zm xc (j+1)) xc[j+1]=decide (0<=zh xc[j] xc[j+1]):=by rw[zQ xc j hj];rfl
          obtain⟨b',o',ni,mh,e',_,u0,U0⟩:=H2.out.at_ j hj
          cases e'
          have mP:=nQ.out _ (Ld hj);rw[HX.out] at bS;have hc:=fun (p:Nat)=>yL ni A3 mh k3 xc[j] v (by omega) (by rw[<-HX.out];have:=nQ.out _ (Ld ac);omega) (W1.drewN p) U0 mQ.out
          rw[show xx (zm xc (j+1)) v=bo by have:=bu.out;rwa[HX.out] at this] at bS;obtain⟨r,hr⟩:=Kh (zh xc[j] v);rw[hr] at bS hc;have cB:=zH bS;obtain⟨nl,eq⟩:=Kh (xc[j].length);rw[eq] at u0 hc mP;rw[dy.out] at hc;have HC:=zH hc;clear bS hc hr eq U0 bu HX dy;have g1:((j:Int)+1).toNat=j+1:=by omega
          have g3:IntKind.i64.wrap ((j:Int)+1-1)=(j:Int):=by rw[Ly];omega
          have g5:IntKind.i64.wrap ((j:Int)+1)=(j:Int)+1:=by rw[Ly];omega
          have g6:decide ((0:Int)<(j:Int)+1)=Av:=Lm (by omega)
          cases bo with
          | true=>
           have g7:decide (0<=r)=Av:=cB.out.symm;have g8:0<=r:=LI g7;clear cB;go_wp2_with fail;go_quiet ((go_at_call 148;first | exact zJ (HC.out _) | exact Ni (HC.out _)));clear HC g1 g3 g5 g6 u0;have hR:=zH (ah.out.trans (bf.out (by simp) (by simp)));have ce:=zH (HR.out.trans hR.out);clear ah bf aA HR;go_wp2_with fail;go_ret;exact⟨zc ce.out.symm,by repeat (first | exact bh.out | refine zu ?_ _)⟩
          | false=>
           have g7:decide (0<=r)=Ax:=cB.out.symm;have g8:¬0<=r:=NJ g7;clear cB;go_wp2_with fail;go_quiet ((go_at_call 148;first | exact zJ (HC.out _) | exact Ni (HC.out _)));clear HC g1 g3 g5 g6 u0;have hR:=zH (ah.out.trans (aA.out (by simp) (by simp)));clear ah bf aA;go_wp2_with fail
           go_roundw
           case rel=>exact⟨j+1+1,_,by omega,by go_num,hR,rfl⟩
           case measure=>simp[Aq];omega
       . obtain rfl:k=xc.length:=by omega
         have hR:=zH (ah.out.trans xB);have ce:=zH (HR.out.trans hR.out);clear ah HR hR;go_wp2_with fail;go_ret;exact⟨zc ce.out.symm,by repeat (first | exact bh.out | refine zu ?_ _)⟩
end
section
open Go.RowKit
attribute [local go_sem] Oper.semAt_some
theorem kY(A B:Bb)(ca cb:Nat)(xs ys:List (List Int))(hx:xs.length<=17592186044416)(_hy:ys.length<=17592186044416)(fh:∀v∈xs,v.length<=17592186044416)(cu:∀v∈ys,v.length<=17592186044416)(w:Ba)(hA:LAt w w.heap.size A xs)(hB:LAt w w.heap.size B ys) :
  Ap An 149 #[I A xs.length ca,I B ys.length cb] w fun e w'=>e=Am (Ai (decide (xs=ys)))/\∃n,w'=w.drewN n:=by
 have Vh:=zH fh;have rf:=zH cu;have HA:=zH hA;have HB:=zH hB;have HT:As (∀b,(xs=ys↔b=Av)->decide (xs=ys)=b):=fun b h=>by cases b<;>simp_all
 obtain⟨r,hr⟩:∃r,decide (xs=ys)=r:=⟨_,rfl⟩;rw[hr] at HT ⊢;go_enter func149,ntmps149
 by_cases hl:xs.length=ys.length
 case neg=>
  have hR:As (r=Ax):=HT.out Ax ⟨fun h=>absurd (congrArg List.length h) hl,fun h=>by cases h⟩;have e0:((xs.length:Int) != (ys.length:Int))=Av:=by simp;omega
  go_wp2_with fail;go_ret;exact⟨ze hR.out.symm,0,rfl⟩
 case pos=>
 have HL:=zH hl;rw[<-hl] at _hy ⊢;go_wp2_with fail
 go_loopw [5] (fun i wr=>∃k n:Nat,k<=xs.length/\i=O U (k:Int)/\As (xs.take k=ys.take k)/\As (wr=w.drewN n)) (fun i _=>xs.length-(Aq i).toNat)
 case atStart=>exact⟨0,0,by omega,rfl,by rw[As,LO,LO],rfl⟩
 obtain⟨k,n,hk,rfl,hp,hw⟩:=hrel
 by_cases ac:k<xs.length
 case neg=>
  obtain rfl:k=xs.length:=by omega
  have hR:As (r=Av):=HT.out Av ⟨fun _=>rfl,fun _=>xK HL.out hp.out⟩;go_wp2_with fail;go_ret;exact⟨ze hR.out.symm,n,hw.out⟩
 case pos=>
 have dL:k<ys.length:=by have:=HL.out;omega
 obtain⟨ba,oa,A1,k1,ea,_,a0,IA⟩:=(HA.out).at_ k ac;obtain⟨bb,ob,A2,k2,eb,_,b0,IB⟩:=(HB.out).at_ k dL;subst ea;subst eb;have nB:As (∀p,wr.cell? p=w.cell? p):=fun p=>by rw[hw.out];rfl
 rw[<-nB.out] at a0 b0;have dE:=Vh.out _ (Ld ac);have cO:=rf.out _ (Ld dL);have hc:=fun (p:Nat)=>yL A1 A2 k1 k2 xs[k] ys[k] dE cO (wr.drewN p) (by rw[hw.out];exact IA) (by rw[hw.out];exact IB)
 by_cases he:xs[k]=ys[k]
 . have hR:=zH (yG hp.out ac dL he)
   have hz:zh xs[k] ys[k]=0:=by rw[he];exact yB _
   rw[hz] at hc;obtain⟨la,sj⟩:=Kh (xs[k].length);obtain⟨lb,nx⟩:=Kh (ys[k].length);rw[sj] at a0 hc dE;rw[nx] at b0 hc cO;have HC:=zH hc;go_wp2_with fail;go_quiet ((go_at_call 148;first | exact zJ (HC.out _) | exact Ni (HC.out _)));go_wp2_with fail
   go_roundw
   case rel=>exact⟨k+1,n+nq,by omega,by go_num,hR,by rw[As,hw.out,kr]⟩
   simp[Aq];omega
 have hR:As (r=Ax):=HT.out Ax ⟨fun h=>absurd (by subst h;rfl) he,fun h=>by cases h⟩;have hz:zh xs[k] ys[k]≠0:=fun h=>he (xM h)
 obtain⟨z,SK⟩:=Kh (zh xs[k] ys[k]);rw[SK] at hz hc;obtain⟨la,sj⟩:=Kh (xs[k].length);obtain⟨lb,nx⟩:=Kh (ys[k].length);rw[sj] at a0 hc dE;rw[nx] at b0 hc cO;have HC:=zH hc;have e0:(z != 0)=Av:=by simpa using hz
 go_wp2_with fail;go_quiet ((go_at_call 148;first | exact zJ (HC.out _) | exact Ni (HC.out _)));go_wp2_with fail;go_ret;exact⟨ze hR.out.symm,n+nq,by rw[hw.out,kr]⟩
end
section
open Go.RowKit
theorem Z0(t:Tk)(A:Bb)(kc:Nat)(hf:FewT t)(w:Ba)(hA:CAt w w.heap.size A t.cases) :
  Ap An 120 #[Aj #[O U t.n,O U t.ins,O U t.outs,I A t.cases.length kc]] w fun e w'=>e=Am (O U (yE t))/\Ao w.heap.size w w':=by
 have mX:=zH (fun (i:Nat) (hi:i<t.cases.length) (w':Ba) (h:CAt w' w'.heap.size A t.cases)=>rone_any t A kc hf i hi w' h);obtain⟨df,eZ⟩:=hf;have HA:=zH hA;have ay:=zH (@vJ t);have am:=zH (@uF t);have az:=zH (@vK t);obtain⟨E,hE⟩:=Kh (yE t);rw[hE] at ay am az ⊢
 by_cases hr:t.n<1\/5<t.n\/t.ins<1\/8<t.ins\/t.outs<1\/8<t.outs
 . have HR:=zH (ay.out hr)
   obtain⟨cv,lU⟩:=Kh (I A t.cases.length kc);rw[lU];have HN:=zH hr;obtain⟨n,ins,outs,cases⟩:=t;dsimp only at HN ⊢;clear ay am az lU hA eZ HA hE hr mX df;go_enter func120,ntmps120;go_wp2_with fail
   all_goals first | (exfalso;have:=HN.out;omega) | (go_ret;exact⟨zc HR.out.symm,zt w _⟩)
 have r1:¬t.n<1:=by omega
 have r2:¬5<t.n:=by omega
 have r3:¬t.ins<1:=by omega
 have r4:¬8<t.ins:=by omega
 have r5:¬t.outs<1:=by omega
 have r6:¬8<t.outs:=by omega
 have am:=zH (am.out hr);have cz:=zH (az.out hr);clear hr ay hE hA eZ az
 by_cases hz:t.cases.length<1
 . have HR:=zH (am.out hz)
   obtain⟨n,ins,outs,cases⟩:=t;dsimp only at df r1 r2 r3 r4 r5 r6 hz ⊢;clear am cz HA mX;go_enter func120,ntmps120;go_wp2_with fail
   all_goals first | (exfalso;omega) | skip
   go_ret;exact⟨zc HR.out.symm,zt w _⟩
 have bK:¬((t.cases.length:Int)<1):=by omega
 have az:=zH (cz.out (by omega) (by omega));clear am hz cz;have aG:=zH (fun k h=>@ug t t.cases k h);have aA:=zH (fun k h=>@wM t t.cases k h);have GI:=zH (@uf t t.cases);obtain⟨cg,Nd⟩:∃cg:Nat->Int,(fun k=>yU t t.cases k)=cg:=⟨_,rfl⟩;have Cm:∀k,yU t t.cases k=cg k:=fun k=>congrFun Nd k
 obtain⟨cE,Nm⟩:∃cE:(k:Nat)->k<t.cases.length->Int,(fun k h=>xU t (zm t.cases k) t.cases[k])=cE:=⟨_,rfl⟩;have Co:∀k h,xU t (zm t.cases k) t.cases[k]=cE k h:=fun k h=>congrFun (congrFun Nm k) h
 simp only[Cm,Co] at aG aA GI az mX;clear Nd Cm Nm Co;obtain⟨n,ins,outs,cs⟩:=t;dsimp only at df r1 r2 r3 r4 r5 r6 bK HA az mX cE aG aA GI ⊢;go_enter func120,ntmps120;go_wp2_with fail
 all_goals first | (exfalso;omega) | skip
 obtain⟨W0,bD,b0,aZ,bH⟩:∃W0,w.alloc (Ah #[O U n,O U ins,O U outs,I A cs.length kc] 24)=W0/\W0.heap[w.heap.size]?=J (Ah #[O U n,O U ins,O U outs,I A cs.length kc] 24 (0,0))/\w.heap.size+1<=W0.heap.size/\Ao w.heap.size w W0:=
  ⟨_,rfl,zg _ _,by simp,zt w _⟩
 rw[bD];have fC:=zH bH;have lH:=zH b0;clear bD bH b0
 go_loopw [3] (fun i wr=>∃k:Nat,k<=cs.length/\i=O U (k:Int)/\As (E=cg k)/\Ao W0.heap.size W0 wr) (fun i _=>cs.length-(Aq i).toNat)
 case atStart=>exact⟨0,by omega,rfl,az,Lp _ _⟩
 obtain⟨k,hk,rfl,ah,aB⟩:=hrel;have bX:=zH (Lc fC.out aB);have HW:=zH aB;have d0:=Lb aB (by omega) lH.out;obtain⟨q0,q1,q2,q3,_⟩:=Kb d0
 by_cases ac:k<cs.length
 . have HC:=zH (fun (w':Ba) (h:CAt w' w'.heap.size A cs)=>mX.out k ac w' h)
   have aG:=zH (aG.out k ac);have aA:=zH (aA.out k ac);obtain⟨ev,cm⟩:=Kh (cE k ac);rw[cm] at HC aG aA;have Wr:=zH ((HA.out.keep bX.out).more bX.out.size);go_wp2_with fail;refine(HC.out _ Wr.out).mono ?_;rintro e w1 ⟨rfl,aJ⟩;have dJ:=zH (Lc bX.out aJ);have nh:=zH (Lc HW.out aJ);clear aJ HC
   by_cases he:ev=0
   . subst he
     have hR:=zH (ah.out.trans (aA.out (by simp)));clear ah aG aA;go_wp2_with fail
     go_roundw
     case rel=>exact⟨k+1,by omega,by go_num,hR,nh.out⟩
     simp[Aq];omega
   have hR:=zH (ah.out.trans (aG.out he));have e0:(ev != 0)=Av:=by simpa using he
   clear ah aG aA he;go_wp2_with fail;go_ret;exact⟨zc hR.out.symm,dJ.out⟩
 obtain rfl:k=cs.length:=by omega
 have HR:=zH (ah.out.trans GI.out);clear ah;go_wp2_with fail;go_ret;exact⟨zc HR.out.symm,bX.out⟩
def kp(t:Tk):Bool:=decide (t.cases.length<=30)&&t.cases.all fun c=>decide (c.inp.length<=10)&&kn c.out 30&&kn c.calm 30
theorem fewl_iff{l:List (List Int)}:kn l 30=Av↔FewL l:=by
 unfold kn FewL;simp
theorem YA{t:Tk}:kp t=Av↔FewT t:=by
 unfold kp FewT FewC;simp only[Bool.and_eq_true,decide_eq_true_eq,List.all_eq_true,fewl_iff,and_assoc]
end
section
open Go.RowKit
attribute [local go_sem] Oper.semAt_some
def okC(c:Cs):Bool:=decide (c.inp.length<=10)&&kn c.out 30&&kn c.calm 30
theorem fewTB_eq(t:Tk):kp t=(decide (t.cases.length<=30)&&t.cases.all okC):=rfl
def LowC(c:Cs):Prop:=c.inp.length<=17592186044416/\c.out.length<=17592186044416/\c.calm.length<=17592186044416/\(∀v∈c.out,v.length<=17592186044416)/\∀v∈c.calm,v.length<=17592186044416
theorem Jm(t:Tk)(A:Bb)(kc:Nat)(hl:t.cases.length<=17592186044416)(aN:∀c∈t.cases,LowC c)(w:Ba)(hA:CAt w w.heap.size A t.cases) :
  Ap An 91 #[Aj #[O U t.n,O U t.ins,O U t.outs,I A t.cases.length kc]] w fun e w'=>e=Am (Ai (kp t))/\Ao w.heap.size w w':=by
 have ff:=zH aN;have H:As (kp t=(decide (t.cases.length<=30)&&t.cases.all okC)):=fewTB_eq t;obtain⟨r,hr⟩:=Kh (kp t);rw[hr] at H ⊢;obtain⟨w1,ag⟩:=Kh (w.alloc (Ah #[O U t.n,O U t.ins,O U t.outs,I A t.cases.length kc] 24));have aI:=zg w (Ah #[O U t.n,O U t.ins,O U t.outs,I A t.cases.length kc] 24);have an:Ao w.heap.size w w1:=by rw[<-ag];exact zt w _
 have ch:w1.heap.size=w.heap.size+1:=by rw[<-ag];simp
 rw[ag] at aI;have bJ:=zH aI;have aY:=zH an;have HA:=zH ((hA.keep an).more (by omega:w.heap.size<=w1.heap.size));have al:=zH ag;have q3:=za aI 3 rfl;clear hA ag an aI aN hr;go_enter func91,ntmps91
 by_cases hc:t.cases.length<=30
 case neg=>
  have hR:As (r=Ax):=H.out.trans (by rw[Ll hc,NF]);clear H;go_wp2_with fail;rw[al.out];go_wp2_with fail
  all_goals first | (exfalso;omega) | skip
  go_ret;exact⟨ze hR.out.symm,aY.out⟩
 case pos=>
 have HR:As (r=(t.cases.drop 0).all okC):=H.out.trans (by rw[Lm hc,Np,LS]);clear H;go_wp2_with fail;rw[al.out];go_wp2_with fail
 all_goals first | (exfalso;omega) | skip
 clear q3 al
 go_loopw [3] (fun i wr=>∃k:Nat,k<=t.cases.length/\i=O U (k:Int)/\As (r=(t.cases.drop k).all okC)/\As (Ao w1.heap.size w1 wr)) (fun i _=>t.cases.length-(Aq i).toNat)
 case atStart=>exact⟨0,by omega,rfl,HR,Lp _ _⟩
 clear HR;obtain⟨k,hk,rfl,hp,hb⟩:=hrel;have aP:=La hb.out bJ.out;have q3:=za aP 3 rfl;clear aP
 by_cases ac:k<t.cases.length
 case neg=>
  have hR:As (r=Av):=hp.out.trans (QV (by omega));obtain rfl:k=t.cases.length:=by omega
  clear hp;go_wp2_with fail;go_ret;exact⟨ze hR.out.symm,aY.out.trans (hb.out.mono (by omega))⟩
 case pos=>
 obtain⟨b,o,A0,c0,A1,c1,A2,c2,e',dH,d0,d1,d2,I0,I1,I2⟩:=(HA.out.keep hb.out).row k ac;subst e';have dY:=YP (p:=okC) ac;obtain⟨l0,l1,l2,l3,l4⟩:=ff.out _ (Ld ac);have aL:=hb.out.size;have df:=fun (W:Ba) (hW:Ao wr.heap.size wr W)=>Yz A1 c1 t.cases[k].out l1 l3 W (((I1.more aL).keep hW).more hW.size)
 have eZ:=fun (W:Ba) (hW:Ao wr.heap.size wr W)=>Yz A2 c2 t.cases[k].calm l2 l4 W (((I2.more aL).keep hW).more hW.size)
 unfold okC at dY;obtain⟨c,tZ⟩:=Kh (t.cases[k]);rw[tZ] at d0 d1 d2 l0 l1 l2 dY df eZ;obtain⟨b1,aJ⟩:=Kh (kn c.out 30);obtain⟨b2,ae⟩:=Kh (kn c.calm 30);rw[aJ] at dY df;rw[ae] at dY eZ;obtain⟨wc,lN⟩:=Kh (wr.alloc (Ah #[I A0 c.inp.length c0,I A1 c.out.length c1,I A2 c.calm.length c2] 118));have t6:=zg wr (Ah #[I A0 c.inp.length c0,I A1 c.out.length c1,I A2 c.calm.length c2] 118);have iW:Ao wr.heap.size wr wc:=by rw[<-lN];exact zt wr _
 rw[lN] at t6;obtain⟨p0,p1,p2,_⟩:=Kc t6;have mc:=zH (df wc iW);have eh:=zH (eZ wc iW);have bh:=zH (hb.out.trans (iW.mono aL));have Di:=zH lN;have dm:=zH (hp.out.trans dY);obtain⟨il,oM⟩:=Kh c.inp.length;rw[oM] at d0 l0 dm Di p0;clear hp dY df eZ lN iW t6 aJ ae tZ oM I0 I1 I2
 by_cases hi:il<=10
 case neg=>
  have hR:As (r=Ax):=dm.out.trans (by rw[Ll hi];rfl);clear dm mc eh;go_wp2_with fail;rw[Di.out];go_wp2_with fail
  all_goals first | (exfalso;omega) | skip
  go_ret;exact⟨ze hR.out.symm,aY.out.trans (bh.out.mono (by omega))⟩
 case pos=>
 have dc:As (r=((b1&&b2)&&(t.cases.drop (k+1)).all okC)):=dm.out.trans (by rw[Lm hi,Np];rfl);clear dm;go_wp2_with fail;rw[Di.out];go_wp2_with fail
 all_goals first | (exfalso;omega) | skip
 refine mc.out.mono ?_;rintro e w2 ⟨rfl,rfl⟩
 cases b1 with
 | false=>
  have hR:As (r=Ax):=dc.out;go_wp2_with fail;go_ret;exact⟨ze hR.out.symm,aY.out.trans (bh.out.mono (by omega))⟩
 | true=>
 go_wp2_with fail;refine eh.out.mono ?_;rintro e w2 ⟨rfl,cx⟩;obtain rfl:=cx.symm
 cases b2 with
 | false=>
  have hR:As (r=Ax):=dc.out;go_wp2_with fail;go_ret;exact⟨ze hR.out.symm,aY.out.trans (bh.out.mono (by omega))⟩
 | true=>
  have hR:As (r=(t.cases.drop (k+1)).all okC):=dc.out;go_wp2_with fail
  go_roundw
  case rel=>exact⟨k+1,by omega,by go_num,hR,bh⟩
  case measure=>simp[Aq];omega
def LowT(t:Tk):Prop:=t.cases.length<=17592186044416/\∀c∈t.cases,LowC c
theorem tk_eq{a b:Tk}(h1:a.n=b.n)(h2:a.ins=b.ins)(h3:a.outs=b.outs)(h4:a.cases=b.cases):a=b:=by cases a;cases b;simp_all
theorem cs_eq{a b:Cs}(h1:a.inp=b.inp)(h2:a.out=b.out)(h3:a.calm=b.calm):a=b:=by cases a;cases b;simp_all
def TwoCs(w0:Ba)(c1 c2:Array Au)(s t:Au)(wx:Ba):Prop:=
 ∃g h:Nat,s=Ak (J ⟨g,0,Z⟩)/\t=Ak (J ⟨h,0,Z⟩)/\wx.heap[g]?=J (Ah c1 118 (0,0))/\wx.heap[h]?=J (Ah c2 118 (0,0))/\Ao w0.heap.size w0 wx
theorem Y6(a b:Tk)(ha:LowT a)(hb:LowT b)(A B:Bb)(ca cb:Nat)(w:Ba)(hA:CAt w w.heap.size A a.cases)(hB:CAt w w.heap.size B b.cases) :
  Ap An 127 #[Aj #[O U a.n,O U a.ins,O U a.outs,I A a.cases.length ca],Aj #[O U b.n,O U b.ins,O U b.outs,I B b.cases.length cb]] w fun e w'=>e=Am (Ai (decide (a=b)))/\Ao w.heap.size w w':=by
 obtain⟨dN,fu⟩:=ha;obtain⟨aJ,ae⟩:=hb;have ie:=zH fu;have iI:=zH ae;obtain⟨w1,ag,d0,d1,bq,hBw⟩:=zZ w #[O U a.n,O U a.ins,O U a.outs,I A a.cases.length ca] #[O U b.n,O U b.ins,O U b.outs,I B b.cases.length cb] 24 24;have HA:=zH ((hA.keep hBw).more hBw.size);have HB:=zH ((hB.keep hBw).more hBw.size);have bh:=zH hBw;have bn:=zH d0;have bN:=zH d1;have al:=zH ag;obtain⟨p0,p1,p2,p3,_⟩:=Kb d0;obtain⟨q0,q1,q2,q3,_⟩:=Kb d1;clear ag d0 d1 hBw hA hB fu ae;have HT:As (a≠b->decide (a=b)=Ax):=fun h=>Ll h
 have HU:As (a=b->decide (a=b)=Av):=fun h=>Lm h
 obtain⟨r,hr⟩:∃r,decide (a=b)=r:=⟨_,rfl⟩;rw[hr] at HT HU ⊢;clear hr;go_enter func127,ntmps127
 by_cases h1:a.n=b.n/\a.ins=b.ins/\a.outs=b.outs/\a.cases.length=b.cases.length
 case neg=>
  have hR:=zH (HT.out (fun h=>h1 (by rw[h];exact⟨rfl,rfl,rfl,rfl⟩)));clear HT HU
  by_cases k1:a.n=b.n
  case neg=>
   have e0:(a.n != b.n)=Av:=by simpa using k1
   clear h1;go_wp2_with fail;rw[al.out];go_wp2_with fail
   all_goals
    go_ret;exact⟨ze hR.out.symm,bh.out⟩
  case pos=>
  have e0:(a.n != b.n)=Ax:=by simpa using k1
  by_cases k2:a.ins=b.ins
  case neg=>
   have e1:(a.ins != b.ins)=Av:=by simpa using k2
   clear h1 k1;go_wp2_with fail;rw[al.out];go_wp2_with fail
   all_goals
    go_ret;exact⟨ze hR.out.symm,bh.out⟩
  case pos=>
  have e1:(a.ins != b.ins)=Ax:=by simpa using k2
  by_cases k3:a.outs=b.outs
  case neg=>
   have e2:(a.outs != b.outs)=Av:=by simpa using k3
   clear h1 k1 k2;go_wp2_with fail;rw[al.out];go_wp2_with fail
   all_goals
    go_ret;exact⟨ze hR.out.symm,bh.out⟩
  case pos=>
  have e2:(a.outs != b.outs)=Ax:=by simpa using k3
  have k4:a.cases.length≠b.cases.length:=fun h=>h1 ⟨k1,k2,k3,h⟩
  have e3:((a.cases.length:Int) != (b.cases.length:Int))=Av:=by simp;omega
  clear h1 k1 k2 k3;go_wp2_with fail;rw[al.out];go_wp2_with fail
  all_goals
   go_ret;exact⟨ze hR.out.symm,bh.out⟩
 case pos=>
 obtain⟨k1,k2,k3,k4⟩:=h1;have H3:As (a.cases=b.cases->r=Av):=fun h=>HU.out (tk_eq k1 k2 k3 h)
 have H4:As (a.cases≠b.cases->r=Ax):=fun h=>HT.out (fun e=>h (congrArg Tk.cases e))
 have HL:=zH k4;rw[k1] at p0 al bn ⊢;rw[k2] at p1 al bn ⊢;rw[k3] at p2 al bn ⊢;rw[<-k4] at q3 aJ al bN ⊢;clear k1 k2 k3 k4 HT HU;go_wp2_with fail;rw[al.out];go_wp2_with fail;clear p0 p1 p2 p3 q0 q1 q2 q3 al
 go_loopw [5] (fun i wr=>∃k:Nat,k<=a.cases.length/\i=O U (k:Int)/\As (a.cases.take k=b.cases.take k)/\As (Ao w1.heap.size w1 wr)) (fun i _=>a.cases.length-(Aq i).toNat)
 case atStart=>exact⟨0,by omega,rfl,by rw[As,LO,LO],Lp _ _⟩
 obtain⟨k,hk,rfl,hp,aB⟩:=hrel;have p3:=za (La aB.out bn.out) 3 rfl;have q3:=za (La aB.out bN.out) 3 rfl;have Kl:=HL.out
 by_cases ac:k<a.cases.length
 case neg=>
  obtain rfl:k=a.cases.length:=by omega
  have hR:=zH (H3.out (xK HL.out hp.out));clear H3 H4 hp;go_wp2_with fail;go_ret;exact⟨ze hR.out.symm,Lc bh.out aB.out⟩
 case pos=>
 have dL:k<b.cases.length:=by omega
 clear Kl;obtain⟨ba,oa,A0,m0,A1,m1,A2,m2,ea,GS,a0,a1,a2,In,Dd,Dc⟩:=(HA.out.keep aB.out).row k ac;obtain⟨bb,ob,B0,n0,B1,n1,B2,n2,eb,aI,b0,b1,b2,Im,Db,Da⟩:=(HB.out.keep aB.out).row k dL;subst ea;subst eb;have dE:=zH (ie.out _ (Ld ac));have cO:=zH (iI.out _ (Ld dL));have h0:As (a.cases[k]=b.cases[k]->a.cases.take (k+1)=b.cases.take (k+1)):=fun he=>yG hp.out ac dL he
 have hN:As (a.cases[k]≠b.cases[k]->r=Ax):=fun he=>H4.out (fun h=>he (by simp only[h]))
 obtain⟨X,hX⟩:=Kh (a.cases[k]);obtain⟨Y,hY⟩:=Kh (b.cases[k]);rw[hX] at a0 a1 a2 In Dd Dc dE h0 hN;rw[hY] at b0 b1 b2 Im Db Da cO h0 hN;clear hX hY hp;have im:=aB.out.size;have HI:=zH (fun (W:Ba) (hW:Ao wr.heap.size wr W)=>(⟨((In.more im).keep hW).more hW.size,((Dd.more im).keep hW).more hW.size,((Dc.more im).keep hW).more hW.size⟩:IAt W W.heap.size A0 X.inp/\LAt W W.heap.size A1 X.out/\LAt W W.heap.size A2 X.calm));have HJ:=zH (fun (W:Ba) (hW:Ao wr.heap.size wr W)=>(⟨((Im.more im).keep hW).more hW.size,((Db.more im).keep hW).more hW.size,((Da.more im).keep hW).more hW.size⟩:IAt W W.heap.size B0 Y.inp/\LAt W W.heap.size B1 Y.out/\LAt W W.heap.size B2 Y.calm));clear In Dd Dc Im Db Da;have ir:w.heap.size<wr.heap.size:=by have:=zd bn.out;omega
 have dK:w.heap.size+1<wr.heap.size:=by have:=zd bN.out;omega
 have sF:ba<wr.heap.size:=by omega
 have sE:bb<wr.heap.size:=by omega
 have ru:As (∀W,Ao wr.heap.size wr W->W.cell? ⟨w.heap.size,3,Z⟩=J (I (J ⟨ba,oa,Z⟩) a.cases.length ca)/\W.cell? ⟨w.heap.size+1,3,Z⟩=J (I (J ⟨bb,ob,Z⟩) a.cases.length cb) /\
   W.cell? ⟨ba,oa+k*3,Z⟩=J (I A0 X.inp.length m0)/\W.cell? ⟨ba,oa+k*3+1,Z⟩=J (I A1 X.out.length m1)/\W.cell? ⟨ba,oa+k*3+2,Z⟩=J (I A2 X.calm.length m2) /\
   W.cell? ⟨bb,ob+k*3,Z⟩=J (I B0 Y.inp.length n0)/\W.cell? ⟨bb,ob+k*3+1,Z⟩=J (I B1 Y.out.length n1)/\W.cell? ⟨bb,ob+k*3+2,Z⟩=J (I B2 Y.calm.length n2)):=fun W hW=>
  ⟨(hW.cell (p:=⟨_,_,Z⟩) ir).trans p3,(hW.cell (p:=⟨_,_,Z⟩) dK).trans q3,(hW.cell (p:=⟨_,_,Z⟩) sF).trans a0,(hW.cell (p:=⟨_,_,Z⟩) sF).trans a1,(hW.cell (p:=⟨_,_,Z⟩) sF).trans a2,
   (hW.cell (p:=⟨_,_,Z⟩) sE).trans b0,(hW.cell (p:=⟨_,_,Z⟩) sE).trans b1,(hW.cell (p:=⟨_,_,Z⟩) sE).trans b2⟩
 have cK:(0:Int)<=(k:Int):=by omega
 have bY:(k:Int)<(a.cases.length:Int):=by omega
 go_wp2_with fail
 go_cut [6,7] (fun s6 s7 wx=>TwoCs wr #[I A0 X.inp.length m0,I A1 X.out.length m1,I A2 X.calm.length m2] #[I B0 Y.inp.length n0,I B1 Y.out.length n1,I B2 Y.calm.length n2] s6 s7 wx)
 case first=>
  go_region_held3 (fun W=>W.cell? ⟨w.heap.size,3,Z⟩=J (I (J ⟨ba,oa,Z⟩) a.cases.length ca)/\W.cell? ⟨w.heap.size+1,3,Z⟩=J (I (J ⟨bb,ob,Z⟩) a.cases.length cb) /\
   W.cell? ⟨ba,oa+k*3,Z⟩=J (I A0 X.inp.length m0)/\W.cell? ⟨ba,oa+k*3+1,Z⟩=J (I A1 X.out.length m1)/\W.cell? ⟨ba,oa+k*3+2,Z⟩=J (I A2 X.calm.length m2) /\
   W.cell? ⟨bb,ob+k*3,Z⟩=J (I B0 Y.inp.length n0)/\W.cell? ⟨bb,ob+k*3+1,Z⟩=J (I B1 Y.out.length n1)/\W.cell? ⟨bb,ob+k*3+2,Z⟩=J (I B2 Y.calm.length n2))
   (first | exact⟨p3,q3,a0,a1,a2,b0,b1,b2⟩ | exact ru.out _ (by first | exact(zt wr _).drew | exact zt wr _ | exact(xT wr _ _).drew | exact xT wr _ _))
   (fail)
  all_goals
   go_wp2_with fail
   go_meet
  . exact⟨_,_,rfl,rfl,zw (zg wr _) _,(by have:=zg (wr.alloc (Ah #[I A0 X.inp.length m0,I A1 X.out.length m1,I A2 X.calm.length m2] 118)) (Ah #[I B0 Y.inp.length n0,I B1 Y.out.length n1,I B2 Y.calm.length n2] 118);rwa[LW] at this),by first | exact xT wr _ _ | exact(xT wr _ _).drew⟩
  exact⟨_,_,rfl,rfl,(by have:=zg (wr.alloc (Ah #[I B0 Y.inp.length n0,I B1 Y.out.length n1,I B2 Y.calm.length n2] 118)) (Ah #[I A0 X.inp.length m0,I A1 X.out.length m1,I A2 X.calm.length m2] 118);rwa[LW] at this),zw (zg wr _) _,by first | exact xT wr _ _ | exact(xT wr _ _).drew⟩
 obtain⟨g,h,rfl,rfl,G,H,aL⟩:=hcut;obtain⟨g0,g1,g2,_⟩:=Kc G;obtain⟨j0,j1,j2,_⟩:=Kc H;have dA:=zH (aB.out.trans (aL.mono im));have HO:=zH (yL A0 B0 m0 n0 X.inp Y.inp dE.out.1 cO.out.1 wc (HI.out wc aL).1 (HJ.out wc aL).1);have Dk:=zH (fun m=>kY A1 B1 m1 n1 X.out Y.out dE.out.2.1 cO.out.2.1 dE.out.2.2.2.1 cO.out.2.2.2.1 (wc.drewN m) (HI.out wc aL).2.1 (HJ.out wc aL).2.1);have ta:=zH (fun m=>kY A2 B2 m2 n2 X.calm Y.calm dE.out.2.2.1 cO.out.2.2.1 dE.out.2.2.2.2 cO.out.2.2.2.2 (wc.drewN m) (HI.out wc aL).2.2 (HJ.out wc aL).2.2);have UO:X.inp≠Y.inp->As (r=Ax):=fun h=>hN.out (fun e=>h (by rw[e]))
 have UN:X.out≠Y.out->As (r=Ax):=fun h=>hN.out (fun e=>h (by rw[e]))
 have UM:X.calm≠Y.calm->As (r=Ax):=fun h=>hN.out (fun e=>h (by rw[e]))
 have UL:X.inp=Y.inp->X.out=Y.out->X.calm=Y.calm->As (a.cases.take (k+1)=b.cases.take (k+1)):=fun p q s=>h0.out (cs_eq p q s)
 have ay:=zH UO;have am:=zH UN;have az:=zH UM;have cz:=zH UL;have HZ:=zH (@xM X.inp Y.inp);have HS:=zH (fun e:X.inp=Y.inp=>show zh X.inp Y.inp=0 by rw[e];exact yB _);obtain⟨o,ho⟩:=Kh (zh X.inp Y.inp);rw[ho] at HO HZ HS;go_wp2_with fail;refine HO.out.mono ?_;rintro e w2 ⟨rfl,z,rfl⟩
 by_cases t1:X.inp=Y.inp
 case neg=>
  have hR:=zH (ay.out t1).out;have e0:(o != 0)=Av:=by simpa using fun h=>t1 (HZ.out h)
  go_wp2_with fail
  all_goals
   go_ret;exact⟨ze hR.out.symm,zu (Lc bh.out dA.out) _⟩
 case pos=>
 have e0:(o != 0)=Ax:=by simpa using HS.out t1
 have eR:=zH (cz.out t1);go_wp2_with fail;refine(Dk.out z).mono ?_;rintro e w2 ⟨rfl,z2,rfl⟩
 by_cases t2:X.out=Y.out
 case neg=>
  have hR:=zH (am.out t2).out;rw[Ll t2];clear am az eR ta t2;go_wp2_with fail
  all_goals
   go_ret;exact⟨ze hR.out.symm,by repeat (first | exact Lc bh.out dA.out | refine zu ?_ _)⟩
 case pos=>
 have Ky:=zH (eR.out t2);rw[Lm t2];clear am eR t2;go_wp2_with fail;refine(ta.out (z+z2)).mono ?_;rintro e w2 ⟨rfl,z3,rfl⟩;clear ta
 by_cases t3:X.calm=Y.calm
 case neg=>
  have hR:=zH (az.out t3).out;rw[Ll t3];clear az Ky t3;go_wp2_with fail
  all_goals
   go_ret;exact⟨ze hR.out.symm,by repeat (first | exact Lc bh.out dA.out | refine zu ?_ _)⟩
 have hR:=zH (Ky.out t3).out;rw[Lm t3];clear az Ky t3;go_wp2_with fail
 go_roundw
 case rel=>exact⟨k+1,by omega,by go_num,hR,by repeat (first | exact dA.out | refine zu ?_ _)⟩
 simp[Aq];omega
end
section
open Go.RowKit
def FewA(a:Ad):Prop:=a.sts.length<=8/\a.mvs.length<=40
theorem FewA.each{a:Ad}(h:FewA a){l:List Mv}(hl:l∈a.sts):l.length<=40:=by
 refine Lz ?_ h.2;unfold Ad.mvs;obtain⟨i,hi,rfl⟩:=NA.1 hl;exact(List.sublist_flatten_of_mem (Ld hi)).length_le
theorem vX{a:Ad}{p:Option Mv}{m:Mv}(h:zO m.r≠0):yV a p m=zO m.r:=Ln h
theorem QG{a:Ad}{p:Option Mv}{m:Mv}(h:zO m.r=0)(h2:m.r.n≠a.n):yV a p m=22:=by unfold yV;rw[Lj (by simpa using h),Ln h2]
theorem vY{a:Ad}{p:Option Mv}{m:Mv}(h:zO m.r=0)(h2:m.r.n=a.n)(h3:uo p m=Av):yV a p m=14:=by unfold yV;rw[Lj (by simpa using h),Lj (by simpa using h2),Ln h3]
theorem Yo{a:Ad}{p:Option Mv}{m:Mv}(h:zO m.r=0)(h2:m.r.n=a.n)(h3:uo p m=Ax)(h4:m.to<0\/(a.sts.length:Int)<=m.to):yV a p m=2:=by unfold yV;rw[Lj (by simpa using h),Lj (by simpa using h2),Lj (by rw[h3];decide),Ln h4]
theorem Yp{a:Ad}{p:Option Mv}{m:Mv}(h:zO m.r=0)(h2:m.r.n=a.n)(h3:uo p m=Ax)(h4:¬(m.to<0\/(a.sts.length:Int)<=m.to)):yV a p m=0:=by unfold yV;rw[Lj (by simpa using h),Lj (by simpa using h2),Lj (by rw[h3];decide),Lj h4]
theorem vN{a:Ad}{l:List Mv}(h:l.length=0):xe a l=19:=Ln h
theorem uI{a:Ad}{l:List Mv}(h:l.length≠0):xe a l=yT a l 0:=Lj h
theorem Je(a:Ad)(SV:Bb)(ks:Nat)(_hsl:a.sts.length<=8)(A:Bb)(k0:Nat)(l:List Mv)(hl:l.length<=40)(w:Ba)(hA:MAt w w.heap.size A l) :
  Ap An 114 #[Aj #[O U a.n,I SV a.sts.length ks],I A l.length k0] w fun e w'=>e=Am (O U (xe a l))/\Ao w.heap.size w w':=by
 have HA:=zH hA;have ay:=zH (@vN a l);have am:=zH (@uI a l);obtain⟨E,hE⟩:=Kh (xe a l);rw[hE] at ay am ⊢
 by_cases hz:l.length=0
 . have hR:=zH (ay.out hz)
   have e0:((l.length:Int)==0)=Av:=by simp[hz]
   clear ay am hz;go_enter func114,ntmps114;go_wp2_with fail;go_ret;exact⟨zc hR.out.symm,zt w _⟩
 have HE:=zH (am.out hz);have e0:((l.length:Int)==0)=Ax:=beq_eq_false_iff_ne.2 (by omega);clear ay am hz;go_enter func114,ntmps114;go_wp2_with fail
 obtain⟨W0,bD,b0,aZ,bH⟩:∃W0,w.alloc (Ah #[O U a.n,I SV a.sts.length ks] 27)=W0/\W0.heap[w.heap.size]?=J (Ah #[O U a.n,I SV a.sts.length ks] 27 (0,0))/\w.heap.size+1<=W0.heap.size/\Ao w.heap.size w W0:=
  ⟨_,rfl,zg _ _,by simp,zt w _⟩
 rw[bD];have fC:=zH bH;have lH:=zH b0;clear bD bH b0 e0
 go_loopw [13] (fun i wr=>∃k:Nat,k<=l.length/\i=O U (k:Int)/\As (E=yT a l k)/\Ao W0.heap.size W0 wr) (fun i _=>l.length-(Aq i).toNat)
 case atStart=>exact⟨0,by omega,rfl,HE,Lp _ _⟩
 obtain⟨k,hk,rfl,ah,aB⟩:=hrel;clear HE;have bX:=zH (Lc fC.out aB);have HW:=zH aB;clear aB
 by_cases ac:k<l.length
 . obtain⟨b,o,rfl,dH,c0,c1,c2,c3,c4,c5,c6,c7⟩:=(HA.out.keep bX.out).row k ac
   have aG:=zH (@vW a l k ac);have aA:=zH (@we a l k ac);have hb:=bX.out.size;have oh:w.heap.size<wr.heap.size:=by have:=HW.out.size;omega
   obtain⟨bo,bI⟩:=Kh (uo (zm l k) l[k]);have bu:=zH bI;have m1:=zH (@vX a (zm l k) l[k]);have m2:=zH (@QG a (zm l k) l[k]);have m3:=zH (@vY a (zm l k) l[k]);have m4:=zH (@Yo a (zm l k) l[k]);have m5:=zH (@Yp a (zm l k) l[k]);rw[bI] at m3 m4 m5;obtain⟨m,hm⟩:=Kh (l[k]);have HX:=zH hm;obtain⟨mE,BZ⟩:=Kh (yV a (zm l k) l[k]);rw[BZ] at aG aA m1 m2 m3 m4 m5;rw[hm] at c0 c1 c2 c3 c4 c5 c6 c7 m1 m2 m3 m4 m5;have HR:=zH (fun w'=>uQ m.r w');obtain⟨rE,BJ⟩:=Kh (zO m.r);rw[BJ] at m1 m2 m3 m4 m5 HR;unfold Rd.cells at HR;clear bI hm BZ BJ;go_wp2_with fail
   obtain⟨W1,cG,b1,bq,aw⟩:∃W1,wr.alloc (Ah #[O U m.r.n,O U m.r.h0,O U m.r.h1,O U m.r.h2,O U m.r.h3,O U m.r.h4,O U m.r.f,O U m.to] 121)=W1/\W1.heap[wr.heap.size]?=J (Ah #[O U m.r.n,O U m.r.h0,O U m.r.h1,O U m.r.h2,O U m.r.h3,O U m.r.h4,O U m.r.f,O U m.to] 121 (0,0))/\wr.heap.size+1<=W1.heap.size/\Ao wr.heap.size wr W1:=
    ⟨_,rfl,zg _ _,by simp,zt wr _⟩
   rw[cG];refine(HR.out W1).mono ?_;rintro e w1 ⟨rfl,aJ⟩;have dJ:=zH ((bX.out.trans (aw.mono hb)).trans (aJ.mono (by have:=aw.size;omega)));have nh:=zH ((Lc HW.out aw).trans (aJ.mono (by have:=aw.size;have:=HW.out.size;omega)));have d0:=Lb nh.out (by omega) lH.out;have d1:=Lb aJ (by omega) b1;have bN:=zH d1;have bn:=zH d0;obtain⟨q0,q1,_⟩:=Ka d0;obtain⟨p0,p1,p2,p3,p4,p5,p6,p7,_⟩:=Ke d1;have Ef:=zd d1;clear cG b1 aw aJ d0 d1 c0 c1 c2 c3 c4 c5 c6 c7 HR
   by_cases hr:rE=0
   case neg=>
    have he:=m1.out hr;have hR:=zH (ah.out.trans ((aG.out (by rw[he];exact hr)).trans he));have e0:(rE != 0)=Av:=by simpa using hr
    clear aG aA m1 m2 m3 m4 m5 he hr ah bu HX;go_wp2_with fail;go_ret;exact⟨zc hR.out.symm,dJ.out⟩
   case pos=>
   subst hr;clear m1
   by_cases hn:m.r.n=a.n
   case neg=>
    have he:=m2.out (by simp) hn;have hR:=zH (ah.out.trans ((aG.out (by rw[he];decide)).trans he));have e0:(m.r.n != a.n)=Av:=by simpa using hn
    clear aG aA m2 m3 m4 m5 he hn ah bu HX;go_wp2_with fail;go_ret;exact⟨zc hR.out.symm,dJ.out⟩
   case pos=>
   have e0:(m.r.n != a.n)=Ax:=by simpa using hn
   have n3:=zH (m3.out (by simp) hn);have n4:=zH (m4.out (by simp) hn);have n5:=zH (m5.out (by simp) hn);clear m2 hn m3 m4 m5
   cases k with
   | zero=>
    obtain rfl:bo=Ax:=by rw[<-bu.out];rfl
    have g0:decide ((0:Int)<0)=Ax:=by decide
    clear bu HX n3;go_wp2_with fail;go_quiet (fail)
    by_cases ht:m.to<0\/(a.sts.length:Int)<=m.to
    . have he:=n4.out (by simp) ht
      have hR:=zH (ah.out.trans ((aG.out (by rw[he];decide)).trans he));clear aG aA n4 n5 he ah
      by_cases lP:m.to<0
      . clear ht
        go_wp2_with fail;go_ret;exact⟨zc hR.out.symm,zu dJ.out _⟩
      . have rR:(a.sts.length:Int)<=m.to:=by omega
        clear ht;go_wp2_with fail
        all_goals first | (exfalso;omega) | skip
        go_ret;exact⟨zc hR.out.symm,zu dJ.out _⟩
    . have hR:=zH (ah.out.trans (aA.out (n5.out (by simp) ht)))
      have lP:¬m.to<0:=by omega
      have rR:¬(a.sts.length:Int)<=m.to:=by omega
      clear aG aA n4 n5 ah ht;go_wp2_with fail
      all_goals first | (exfalso;omega) | skip
      go_roundw
      case rel=>exact⟨0+1,by omega,by go_num,hR,zu nh.out _⟩
      case measure=>simp[Aq];omega
   | succ j=>
    have hj:j<l.length:=by omega
    have bS:uo (zm l (j+1)) l[j+1]=decide (0<=zh l[j].r.l l[j+1].r.l):=by rw[zQ l j hj];rfl
    rw[HX.out] at bS;rw[show uo (zm l (j+1)) m=bo by have:=bu.out;rwa[HX.out] at this] at bS;obtain⟨b',o',e',_,u0,u1,u2,u3,u4,u5,u6,u7⟩:=(HA.out.keep dJ.out).row j hj
    cases e'
    have hc:=fun w'=>gd l[j].r m.r w'
    obtain⟨mj,BU⟩:=Kh (l[j]);rw[BU] at bS hc u0 u1 u2 u3 u4 u5 u6 u7;obtain⟨r,hr⟩:=Kh (zh mj.r.l m.r.l);rw[hr] at bS hc;unfold Rd.cells at hc;have cB:=zH bS;have HC:=zH hc;have g1:((j:Int)+1).toNat=j+1:=by omega
    have g3:IntKind.i64.wrap ((j:Int)+1-1)=(j:Int):=by rw[Ly];omega
    have g5:IntKind.i64.wrap ((j:Int)+1)=(j:Int)+1:=by rw[Ly];omega
    have g6:decide ((0:Int)<(j:Int)+1)=Av:=Lm (by omega);have g7:IntKind.i64.wrap (j:Int)=(j:Int):=by rw[Ly];omega
    have g8:(0:Int)<=(j:Int):=by omega
    have g9:(j:Int)<(l.length:Int):=by omega
    clear bS hc hr BU bu HX;go_wp2_with fail
    go_still_tail 11,(by kernel_rfl)
    change wpList _ _ _ _ _ w1.drew;obtain⟨w2,cx⟩:∃w2,w2=w1.drew:=⟨_,rfl⟩;have tA:As (Ao w.heap.size w w2):=by rw[cx];exact dJ.out.drew
    have DV:As (Ao W0.heap.size W0 w2):=by rw[cx];exact nh.out.drew
    have ay:As (w2.heap[wr.heap.size]?=J (Ah #[O U m.r.n,O U m.r.h0,O U m.r.h1,O U m.r.h2,O U m.r.h3,O U m.r.h4,O U m.r.f,O U m.to] 121 (0,0))):=by rw[cx];exact bN.out
    have en:As (w2.heap[w.heap.size]?=J (Ah #[O U a.n,I SV a.sts.length ks] 27 (0,0))):=by rw[cx];exact bn.out
    rw[<-cx];clear bn bN cx q1 p1 p2 p3 p4 p5 p6 p7 u0 u1 u2 u3 u4 u5 u6 u7 g1 g3 g5 g7 g8 g9;go_wp2_with fail;refine(HC.out w2).mono ?_;rintro e w3 ⟨rfl,ap⟩;have ld:=zH (Lc tA.out ap);have Wy:=zH (Lc DV.out ap);have d0:=La ap en.out;have d1:=La ap ay.out;have q1:=za d0 1 rfl;have p7:=za d1 7 rfl
    cases bo with
    | true=>
     have Hx:0<=r:=LI cB.out.symm;have he:=n3.out (by simp);have hR:=zH (ah.out.trans ((aG.out (by rw[he];decide)).trans he));go_wp2_with fail
     all_goals first | (exfalso;omega) | skip
     go_ret;exact⟨zc hR.out.symm,ld.out⟩
    | false=>
     have Hx:¬0<=r:=NJ cB.out.symm
     by_cases ht:m.to<0\/(a.sts.length:Int)<=m.to
     . have he:=n4.out (by simp) ht
       have hR:=zH (ah.out.trans ((aG.out (by rw[he];decide)).trans he))
       by_cases lP:m.to<0
       . clear ht
         go_wp2_with fail
         all_goals first | (exfalso;omega) | skip
         go_ret;exact⟨zc hR.out.symm,ld.out⟩
       . have rR:(a.sts.length:Int)<=m.to:=by omega
         go_wp2_with fail
         all_goals first | (exfalso;omega) | skip
         go_ret;exact⟨zc hR.out.symm,ld.out⟩
     . have hR:=zH (ah.out.trans (aA.out (n5.out (by simp) ht)))
       have lP:¬m.to<0:=by omega
       have rR:¬(a.sts.length:Int)<=m.to:=by omega
       go_wp2_with fail
       all_goals first | (exfalso;omega) | skip
       go_roundw
       case rel=>exact⟨j+1+1,by omega,by go_num,hR,Wy.out⟩
       case measure=>simp[Aq];omega
 obtain rfl:k=l.length:=by omega
 have hR:=zH (ah.out.trans vV);go_wp2_with fail;go_ret;exact⟨zc hR.out.symm,bX.out⟩
end
section
open Go.RowKit Go.Shelf
structure KeepB(K:Nat->Prop)(W W':Ba):Prop where
 size:W.heap.size<=W'.heap.size
 same:∀k,K k->k<W.heap.size->W'.heap[k]?=W.heap[k]?
theorem KeepB.trans{K:Nat->Prop}{A B C:Ba}(h:KeepB K A B)(k:KeepB K B C):KeepB K A C:=
 ⟨Lz h.size k.size,fun i hi hl=>(k.same i hi (LF hl h.size)).trans (h.same i hi hl)⟩
theorem KeepB.drew(K:Nat->Prop)(W:Ba):KeepB K W W.drew:=⟨Lh _,fun _ _ _=>rfl⟩
theorem KeepB.alloc(K:Nat->Prop)(W:Ba)(o:Obj):KeepB K W (W.alloc o):=⟨by simp,fun k _ hk=>NR W o k hk⟩
theorem KeepB.setCell{K:Nat->Prop}{W:Ba}{a:Addr}(h:¬K a.block)(v:Au):KeepB K W (W.setCell a v):=
 ⟨by simp[World.setCell],fun k hk _=>Le W a v k (fun e=>h (e▸hk))⟩
theorem KeepB.of_below{K:Nat->Prop}{W W':Ba}{B:Nat}(h:Ao B W W')(hK:∀k,K k->k<B):KeepB K W W':=
 ⟨h.size,fun k hk _=>h.block k (hK k hk)⟩
theorem KeepB.of_grown{K:Nat->Prop}{W W':Ba}{row:Option Nat}(h:W.grownBy W' row)(hK:∀k,row=J k->¬K k):KeepB K W W':=
 ⟨h.size,fun k hk hl=>h.block k hl (fun e=>hK k e.symm hk)⟩
theorem KeepB.mono{K K':Nat->Prop}{W W':Ba}(h:KeepB K W W')(hK:∀k,K' k->K k):KeepB K' W W':=⟨h.size,fun k hk=>h.same k (hK k hk)⟩
theorem KeepB.putObj{K:Nat->Prop}{W:Ba}{l:Nat}(h:¬K l)(o:Obj):KeepB K W (W.putObj l o):=
 ⟨by simp,fun k hk _=>NY (fun e=>h (e▸hk))⟩
def Iter{β:Type}(P:Program)(g:Nat)(lb:Array Au)(fy:β->Array Au)(K:Nat->Prop)(xs:List β)(w:Ba):Prop:=
 ∀n,1<=n->SeqStopsK Fence.wide n P g lb (fun x:{ x:β // x∈xs }=>fy x.1) (KeepB K) (fun ys=>ys.map (·.1)=xs) (fun pre=>pre.map (·.1) <+: xs) xs.length w
section
variable {P:Program}
theorem ka{β:Type}{g:Operand}{ps:Array Tmp}{assign body:Code}{Q:Exit->Act->Ba->Prop}{a:Act}{w:Ba}
  {gf:Nat} {lb:Array Au} (hg:a.eval g=.func (.func gf) #[] lb) (eg:Enters P gf)
  {fy:β->Array Au} {K:Nat->Prop} {xs:List β} (dZ:Iter P gf lb fy K xs w) (hK:∀k,K k->k<w.heap.size) (mu:∀x,(fy x).size=ps.size)
  (Ae:List { x:β // x∈xs }->Ba->Prop) (Ix:Code->List { x:β // x∈xs }->Ba->Prop) (hI:OwnFrom w.heap.size Ae) (Hk:∀c,OwnFrom w.heap.size (Ix c)) (h0:Ae [] w) (a₁:{ x:β // x∈xs }->Act)
  (ft:∀(l:Nat) (x:{ x:β // x∈xs }) (W:Ba) (K:Act->Ba->Prop),K (a₁ x) W ->
   assign.wpIn (Fence.wide.inRound l) 7 P (Exit.then K (fun _ _ _=>False)) { tmps:=(ps.zip (fy x.1)).foldl (fun t (p,v)=>t.setIfInBounds p v) a.tmps,defers:=[] } W)
  (mH:∀(l:Nat) (pre:List { x:β // x∈xs }) (x:{ x:β // x∈xs }) (W:Ba),Ae pre W->pre.length<xs.length->body.wpIn (Fence.wide.inRound l) 7 P (ownPostG w.heap.size (KeepB K) Ae Ix (pre++[x]) W) (a₁ x) W)
  (mF:∀(D:Nat) (ys:List { x:β // x∈xs }) (W:Ba),w.heap.size<=D->ys.map (·.1)=xs->Ae ys W->W.heap[D]?=J (.deferred (J []))->Q .normal { a with defers:={ target:=.collected D,args:=#[] }::a.defers } W)
  (mp:∀(D:Nat) (c:Code) (pre:List { x:β // x∈xs }) (W:Ba),w.heap.size<=D->pre.map (·.1) <+: xs->Ix c pre W->W.heap[D]?=J (.deferred (J []))->c.wp P Q { a with defers:={ target:=.collected D,args:=#[] }::a.defers } W) :
  (Code.rangeFunc g ps assign body).wp P Q a w:=
 (Rz (n:=9)).1 (wpIn_rangeFunc_ownG (F:=Fence.wide) (n:=9) rfl (by omega) hg trivial eg (dZ 8 (by omega)) KeepB.trans
  (fun W l o o' hl _ _ _=>KeepB.putObj (fun hk=>by have:=hK l hk;omega) o') (Lp _ _) (fun x=>mu x.1) Ae Ix hI Hk h0 a₁ ft mH mF
  (fun D c pre W hD hS hc hk=>Rz.2 (mp D c pre W hD hS hc hk)))
def Marks(B:Nat)(ds:List Deferred)(w:Ba):Prop:=
 ∃rs:List Nat,ds=rs.map (fun r=>{ target:=.collected r,args:=#[] })/\rs.Nodup/\∀r∈rs,B<=r/\w.heap[r]?=J (.deferred (J []))
theorem Marks.nil(B:Nat)(w:Ba):Marks B [] w:=⟨[],rfl,List.nodup_nil,fun _ h=>by cases h⟩
structure Shut(B:Nat)(w w':Ba):Prop where
 below:Ao B w w'
 same:∀(k:Nat) (o:Obj),w.heap[k]?=J o->o.isCells=Av->w'.heap[k]?=J o
theorem Shut.refl(B:Nat)(w:Ba):Shut B w w:=⟨Lp _ _,fun _ _ h _=>h⟩
theorem Shut.own{B:Nat}{w w':Ba}(h:Shut B w w'){aa:Nat}{e:TypeId}{size:Nat}{v:Au}{k:Nat}{xs:List Au}(hr:w.ownsRow aa e size v k xs):w'.ownsRow aa e size v k xs:=by
 refine⟨hr.1,?_⟩;rcases hr.2 with hn | ⟨g,cap,cur,hv,hb,hg,rest⟩
 . exact .inl hn
 exact .inr ⟨g,cap,cur,hv,hb,h.same g _ hg rfl,rest⟩
theorem Shut.cell{B:Nat}{w w':Ba}(h:Shut B w w'){a:Addr}{v:Au}(hc:w.cell? a=J v):w'.cell? a=J v:=by
 obtain⟨o,ho,ix⟩:=Rl hc;rw[L6 ((h.same _ _ ho ix).trans ho.symm)];exact hc
theorem qR{fn:Func}{tmps:Array Au}{R:Ending->Ba->Prop}{B n:Nat}{v:Au}(aS:∀W,(results fn tmps).run P W=.ok v W) :
  ∀(rs:List Nat) (w:Ba),rs.Nodup->(∀r∈rs,B<=r/\w.heap[r]?=J (.deferred (J [])))->(∀W,Shut B w W->R (Am v) W) ->
   LeavesInM Fence.wide n P fn tmps R (rs.map (fun r=>{ target:=.collected r,args:=#[] })) .returning w
 | [],w,_,_,hR=>⟨v,aS w,hR w (Shut.refl _ _)⟩
 | r::rs,w,hn,hm,hR=>by
  obtain⟨hr,Ga⟩:=Pz.1 hn;obtain⟨hB,hk⟩:=hm r (by simp);refine⟨by simp,.inl ⟨r,_,rfl,run_takeDeferred hk,?_⟩⟩;refine qR aS rs _ Ga (fun r' fm=>⟨(hm r' (by simp[fm])).1,?_⟩) (fun W hW=>hR W ?_)
  . rw[NY (by rintro rfl;exact hr fm)]
    exact(hm r' (by simp[fm])).2
  . refine⟨((Lp B w).grown (grownBy_putObj' w r (.deferred Z)) (by have:=(Li.1 hk).1;omega) (fun k e=>by cases e;exact hB)).trans hW.below,fun k o ho hc=>?_⟩
    refine hW.same k o ?_ hc
    by_cases e:k=r
    . subst e;rw[hk] at ho;cases ho;cases hc
    . exact(NY e).trans ho
theorem zV{f:FuncId}{fn:Func}{c:Code}{args:Array Au}{w:Ba}{R:Ending->Ba->Prop}
  (hf:P.funcs[f]?=J fn) (hb:fn.body=J c)
  (h:c.wp P (bodyPostM Fence.wide 9 P fn R) { tmps:=args++Array.replicate (fn.ntmps-args.size) undef,defers:=[] } w):Ap P f args w R:=
 (Rr (n:=9)).1 (callsIn_of_wp_marks hf hb trivial (Rz.2 h))
theorem zS{fn:Func}{R:Ending->Ba->Prop}{a:Act}{w:Ba}{B:Nat}{v:Au}(hm:Marks B a.defers w)(aS:∀W,(results fn a.tmps).run P W=.ok v W)
  (hR:∀W,Shut B w W->R (Am v) W):bodyPostM Fence.wide 9 P fn R .ret a w:=by
 obtain⟨rs,hd,hn,hk⟩:=hm;show LeavesInM Fence.wide 9 P fn a.tmps R a.defers .returning w;rw[hd];exact qR aS rs w hn hk hR
theorem JT{fn:Func}{R:Ending->Ba->Prop}{a:Act}{w:Ba}{B:Nat}{v:Au}(hm:Marks B a.defers w)(aS:∀W,(results fn a.tmps).run P W=.ok v W)
  (hR:∀W,Shut B w W->R (Am v) W):bodyPostM Fence.wide 9 P fn R .normal a w:=by
 obtain⟨rs,hd,hn,hk⟩:=hm;show LeavesInM Fence.wide 9 P fn a.tmps R a.defers .returning w;rw[hd];exact qR aS rs w hn hk hR
theorem Marks.cons{B D:Nat}{ds:List Deferred}{w w':Ba}(h:Marks B ds w)(hs:∀(k:Nat),w.heap[k]?=J (Obj.deferred (J []))->w'.heap[k]?=J (Obj.deferred (J [])))
  (hB:B<=w.heap.size) (hD:w.heap.size<=D) (hk:w'.heap[D]?=J (.deferred (J []))):Marks B ({ target:=.collected D,args:=#[] }::ds) w':=by
 obtain⟨rs,rfl,hn,hr⟩:=h;refine⟨D::rs,rfl,Pz.2 ⟨fun UQ=>?_,hn⟩,fun r fm=>?_⟩
 . have:=(Li.1 (hr D UQ).2).1;omega
 rcases LQ.1 fm with rfl | fm
 . exact⟨by omega,hk⟩
 exact⟨(hr r fm).1,hs r (hr r fm).2⟩
end
end
section
open Go.RowKit Go.Shelf
attribute [local go_sem] Oper.semAt_some
def zp:Nat->List (List Mv)->List (Int×Mv)
 | _,[]=>[]
 | s,l::r=>l.map (fun m=>((s:Int),m))++zp (s+1) r
theorem Zy{xss:List (List Mv)}{s:Nat}(h:s<xss.length):zp s (xss.drop s)=(xss[s]).map (fun m=>((s:Int),m))++zp (s+1) (xss.drop (s+1)):=by
 rw[Lw h];rfl
theorem qq:∀(s:Nat) (xss:List (List Mv)),(zp s xss).map Prod.snd=xss.flatten
 | _,[]=>rfl
 | s,l::r=>by
  rw[zp,LH,qq (s+1) r,Pc,PS]
  congr 1
  exact List.map_id' l
theorem Yl(a:Ad):(zp 0 a.sts).length=a.mvs.length:=by
 rw[<-LE (f:=Prod.snd),qq];rfl
theorem wR{B:Nat}{w w':Ba}(hs:w.heap.size<=w'.heap.size)(h:∀k,k<B->w'.heap[k]?=w.heap[k]?):Ao B w { w' with os:=w.os,tape:=w.tape,output:=w.output }:=⟨rfl,rfl,rfl,hs,h⟩
theorem SAt.same{w w':Ba}{B:Nat}{A:Bb}{xss:List (List Mv)}(h:SAt w B A xss)(hs:w.heap.size<=w'.heap.size)(hk:∀k,k<B->w'.heap[k]?=w.heap[k]?):SAt w' B A xss:=by
 have h2:=h.keep (wR hs hk);exact h2
theorem MAt.same{w w':Ba}{B:Nat}{A:Bb}{xs:List Mv}(h:MAt w B A xs)(hs:w.heap.size<=w'.heap.size)(hk:∀k,k<B->w'.heap[k]?=w.heap[k]?):MAt w' B A xs:=by
 have h2:=h.keep (wR hs hk);exact h2
theorem kH(n:Int)(SV:Au)(w:Ba):Ap An 115 #[Aj #[O U n,SV]] w fun e w'=>
  e=Am (.func (.func 142) #[] #[Ak (J ⟨w.heap.size,0,Z⟩)])/\w.alloc (Ah #[O U n,SV] 27)=w':=by
 go_enter func115,ntmps115;go_wp2;go_ret;exact⟨rfl,rfl⟩
theorem qr(a:Ad)(hf:FewA a)(SV:Bb)(ks B bx:Nat)(w:Ba)(hb:w.heap[bx]?=J (Ah #[O U a.n,I SV a.sts.length ks] 27))(hS:SAt w B SV a.sts)(hB:B<=w.heap.size) :
  Iter An 142 #[Ak (J ⟨bx,0,Z⟩)] (fun x:Int×Mv=>#[O U x.1,.agg x.2.cells]) (fun k=>k<B\/k=bx) (zp 0 a.sts) w:=fun n hn l Ag Jx W hW hJ Oq hY h0=>by
 have aL:bx<w.heap.size:=(Li.1 hb).1;have cZ:W.heap[bx]?=J (Ah #[O U a.n,I SV a.sts.length ks] 27):=(hW.block bx aL).trans hb;have sN:SAt W B SV a.sts:=hS.keep (hW.mono hB);have HF:=zH (fun l hl=>hf.each (l:=l) hl);have M4:=hf.1;have HY:=zH hY;have VW:As (∀s X o,Ag s X->Ag s (X.alloc o)):=fun s X o hs=>hJ s X (X.alloc o) Z hs (World.grownBy_alloc X o Z) (fun r e=>by cases e)
 have c1:=za cZ 1 rfl;have lc:=zH sN;have H0:=zH h0;have fC:=zH cZ;have US:B<=W.heap.size:=Lz hB hW.size;have hbW:bx<W.heap.size:=LF aL hW.size;obtain⟨n0,sts⟩:=a;dsimp only at fC c1 lc HF M4 HY ⊢;refine callsIn_of_wp P1 rfl trivial ?_ rfl;simp only[ntmps142,List.size_toArray,List.length_cons,List.length_nil,Nat.reduceAdd,Nat.reduceSub,Array.replicate_succ,Array.replicate_zero,List.push_toArray,List.append_toArray,List.nil_append,List.cons_append];gi_wp2
 gi_loopw [10] (fun p wr=>∃s:Nat,s<=sts.length/\p=O U (s:Int)/\∃pre:List { x:Int×Mv // x∈zp 0 sts },As (pre.map (·.1)++zp s (sts.drop s)=zp 0 sts)/\As (Ag pre wr)/\As (SAt wr B SV sts)/\As (wr.heap[bx]?=J (Ah #[O U n0,I SV sts.length ks] 27))/\W.heap.size<=wr.heap.size) (fun p _=>sts.length-(Aq p).toNat)
 case atStart=>exact⟨0,by omega,rfl,[],by simp[As],H0,lc,fC,Lh _⟩
 case round=>
  obtain⟨s,hs,rfl,pre,hp,ic,mK,fO,aZ⟩:=hrel
  by_cases ac:s<sts.length
  . obtain⟨b,o,A',k',rfl,dH,q1,hM⟩:=mK.out.at_ s ac
    have dk:=HF.out _ (Ld ac);have Ez:=Zy ac;obtain⟨L,hL⟩:=Kh (sts[s]);rw[hL] at q1 hM dk Ez;have HP:As (pre.map (·.1)++((L.drop 0).map (fun m=>((s:Int),m))++zp (s+1) (sts.drop (s+1)))=zp 0 sts):=by rw[LS,<-Ez];exact hp.out
    have AK:=zH hM;gi_wp2_with fail
    gi_loopw [17] (fun p wr=>∃j:Nat,j<=L.length/\p=O U (j:Int)/\∃pre:List { x:Int×Mv // x∈zp 0 sts },As (pre.map (·.1)++((L.drop j).map (fun m=>((s:Int),m))++zp (s+1) (sts.drop (s+1)))=zp 0 sts)/\As (Ag pre wr)/\As (SAt wr B (J ⟨b,o,Z⟩) sts)/\As (wr.heap[bx]?=J (Ah #[O U n0,I (J ⟨b,o,Z⟩) sts.length ks] 27))/\As (MAt wr B A' L)/\W.heap.size<=wr.heap.size) (fun p _=>L.length-(Aq p).toNat)
    case atStart=>exact⟨0,by omega,rfl,pre,HP,ic,mK,fO,AK,aZ⟩
    case round=>
     obtain⟨j,hj,rfl,pre,hp,ic,mK,fO,On,aZ⟩:=hrel
     by_cases bg:j<L.length
     . obtain⟨b2,o2,rfl,ae,m0,m1,m2,m3,m4,m5,m6,m7⟩:=On.out.row j bg
       have M7:L.drop j=L[j]::L.drop (j+1):=Lw bg;obtain⟨m,hm⟩:=Kh (L[j]);rw[hm] at m0 m1 m2 m3 m4 m5 m6 m7 M7
       have rX:pre.map (·.1)++(((s:Int),m)::((L.drop (j+1)).map (fun m=>((s:Int),m))++zp (s+1) (sts.drop (s+1))))=zp 0 sts:=by
        have:=hp.out;rw[M7,LZ,L5] at this;exact this
       have cW:((s:Int),m)∈zp 0 sts:=by rw[<-rX];simp
       have aC:pre.length<(zp 0 sts).length:=by
        have:=congrArg List.length rX;simp only[List.length_append,List.length_map,List.length_cons] at this;omega
       obtain⟨fn,tmps,assign,body,hy,hR⟩:=HY.out pre ⟨((s:Int),m),cW⟩ _ (VW.out _ _ (Ah #[O U m.r.n,O U m.r.h0,O U m.r.h1,O U m.r.h2,O U m.r.h3,O U m.r.h4,O U m.r.f,O U m.to] 121) ic.out) aC;unfold Mv.cells at hy;dsimp only at hy
       have Dr:As ((pre++[(⟨((s:Int),m),cW⟩:{ x:Int×Mv // x∈zp 0 sts })]).map (·.1)++((L.drop (j+1)).map (fun m=>((s:Int),m))++zp (s+1) (sts.drop (s+1)))=zp 0 sts):=by
        rw[LH,Ng];exact rX
       have HR:=zH hR;gi_wp2_with fail;refine HR.out.mono ?_;rintro e W3 (⟨rfl,CS,eM⟩ | ⟨rfl,mN⟩)
       . have bq:wr.heap.size<=W3.heap.size:=by have:=eM.size;simp at this;omega
         have bY:∀k,(k<B\/k=bx)->k<wr.heap.size->W3.heap[k]?=wr.heap[k]?:=fun k hk ac=>(eM.same k hk (by simp;omega)).trans (zw (RU ac) _ |>.trans (RU ac).symm)
         have S3:=zH (mK.out.same bq (fun k hk=>bY k (.inl hk) (by omega)));have M3:=zH (On.out.same bq (fun k hk=>bY k (.inl hk) (by omega)));have B3:=zH ((bY bx (.inr rfl) (by omega)).trans fO.out);have J3:=zH CS;have mo:W.heap.size<=W3.heap.size:=by omega
         gi_wp2_with fail
         go_roundw
         case rel=>exact⟨j+1,by omega,by go_num,_,Dr,J3,S3,B3,M3,mo⟩
         case measure=>simp[Aq];omega
       . gi_wp2_with fail
         refine Nb (Rq rfl _ _ _) rfl ?_;refine⟨⟨_,rfl⟩,.inr ⟨_,?_,mN⟩⟩;exact⟨_,Dr.out⟩
     . obtain rfl:j=L.length:=by omega
       have HP:As (pre.map (·.1)++zp (s+1) (sts.drop (s+1))=zp 0 sts):=by have:=hp.out;rwa[NB,Nt,L4] at this
       gi_wp2_with fail
       go_roundw
       case rel=>exact⟨s+1,by omega,by go_num,pre,HP,ic,mK,fO,aZ⟩
       case measure=>simp[Aq];omega
  . obtain rfl:s=sts.length:=by omega
    have HP:As (pre.map (·.1)=zp 0 sts):=by have:=hp.out;rwa[NB,zp,Nf] at this
    gi_wp2_with fail
    go_end0
    exact⟨⟨_,rfl⟩,.inl ⟨pre,HP.out,ic.out⟩⟩
theorem j6{w:Ba}{g:Nat}{v:Au}{t:TypeId}(h:w.heap[g]?=J (Ah #[v] t (0,0)))(v':Au) :
  (w.setCell ⟨g,0,Z⟩ v').heap[g]?=J (Ah #[v'] t (0,0))/\(w.setCell ⟨g,0,Z⟩ v').heap.size=w.heap.size/\∀k,k≠g->(w.setCell ⟨g,0,Z⟩ v').heap[k]?=w.heap[k]?:=by
 refine⟨?_,by simp[World.setCell],fun k hk=>Le w ⟨g,0,Z⟩ v' k hk⟩;rw[World.setCell,N6,Ln rfl,h]
 rfl
theorem qF{B D:Nat}{w:Ba}(hB:B<=D)(hk:w.heap[D]?=J (.deferred (J []))):Marks B [{ target:=.collected D,args:=#[] }] w:=
 ⟨[D],rfl,by simp,fun r hr=>by simp only[List.mem_singleton] at hr;subst hr;exact⟨hB,hk⟩⟩
structure SzIn(B:Nat)(C:Array Au)(T:TypeId)(rb:Int)(w W:Ba):Prop where
 below:Ao B w W
 b0:W.heap[B]?=J (Ah C T (0,0))
 b1:W.heap[B+1]?=J (Ah #[O U rb] 3 (0,0))
theorem SzIn.turn{B:Nat}{C:Array Au}{T:TypeId}{rb:Int}{w W W':Ba}{row:Option Nat}(h:SzIn B C T rb w W)(hg:W.grownBy W' row)(hr:∀r,row=J r->B<=r/\∃o:Obj,W.heap[r]?=J o/\o.isCells=Ax):SzIn B C T rb w W':=
 ⟨h.below.grown hg (by have:=(Li.1 h.b0).1;omega) (fun k hk=>(hr k hk).1),(LP hg (fun r e=>(hr r e).2) h.b0 rfl).trans h.b0,(LP hg (fun r e=>(hr r e).2) h.b1 rfl).trans h.b1⟩
theorem SzIn.set{B:Nat}{C:Array Au}{T:TypeId}{rb:Int}{w W:Ba}(h:SzIn B C T rb w W)(c':Int):SzIn B C T c' w (W.setCell ⟨B+1,0,Z⟩ (O U c')):=by
 obtain⟨x1,x2,x3⟩:=j6 h.b1 (O U c');exact⟨h.below.setCell (by simp) _,(x3 B (by omega)).trans h.b0,x1⟩
theorem SzIn.keeps{B D:Nat}{C:Array Au}{T:TypeId}{rb:Int}{w W:Ba}(h:SzIn B C T rb w W)(c':Int)(K:Nat->Prop)(hK:¬K (B+1)):KeepsFrom D W (W.setCell ⟨B+1,0,Z⟩ (O U c'))/\KeepB K W (W.setCell ⟨B+1,0,Z⟩ (O U c')):=by
 obtain⟨x1,x2,x3⟩:=j6 h.b1 (O U c');refine⟨⟨by omega,fun k o _ hk ho=>?_⟩,KeepB.setCell hK _⟩;have k1:k≠B+1:=by rintro rfl;rw[h.b1] at hk;cases hk;cases ho
 exact(x3 k k1).trans hk
theorem Jf(a:Ad)(hf:FewA a)(SV:Bb)(ks:Nat)(w:Ba)(hS:SAt w w.heap.size SV a.sts) :
  Ap An 113 #[Aj #[O U a.n,I SV a.sts.length ks]] w fun e w'=>e=Am (O U (if a.sts.length<1 then 5 else 0))/\Ao w.heap.size w w':=by
 have df:=hf.1;have eZ:=hf.2;have tP:=Yl a;have HI:=zH (fun (bx:Nat) (w':Ba) (hb:w'.heap[bx]?=J (Ah #[O U a.n,I SV a.sts.length ks] 27)) (h:SAt w' w.heap.size SV a.sts) (hB:w.heap.size<=w'.heap.size)=>qr a hf SV ks w.heap.size bx w' hb h hB);have HS:=zH hS;obtain⟨nl,eq⟩:=Kh ((zp 0 a.sts).length);have VG:=zH eq;clear hS;refine zV func113 rfl ?_;simp only[ntmps113,List.size_toArray,List.length_cons,List.length_nil,Nat.reduceAdd,Nat.reduceSub,Array.replicate_succ,Array.replicate_zero,List.push_toArray,List.append_toArray,List.nil_append,List.cons_append];go_wp2_with fail;obtain⟨w2,cx,b0,b1,aZ,hB⟩:=zZ w #[O U a.n,I SV a.sts.length ks] #[O U 0] 27 3;rw[cx];have cq:w2.heap.size=w.heap.size+2:=by rw[<-cx];simp
 refine(kH a.n (I SV a.sts.length ks) w2).mono ?_;rintro e W ⟨rfl,hW⟩;have bb:=zg w2 (Ah #[O U a.n,I SV a.sts.length ks] 27);have aO:Ao w2.heap.size w2 W:=by rw[<-hW];exact zt _ _
 have bq:w2.heap.size<W.heap.size:=by rw[<-hW];simp
 rw[hW] at bb;have Hm:SzIn w.heap.size #[O U a.n,I SV a.sts.length ks] 27 0 w W:=⟨hB.trans (aO.mono (by omega)),Zd b0 aO (by omega),Zd b1 aO (by omega)⟩;have MN:=HI.out w2.heap.size W bb ((HS.out.keep hB).keep (aO.mono (by omega))) (by omega);have H0:=zH Hm;have fX:=zH MN;have HZ:=zH cq;have bK:w.heap.size+2<=w2.heap.size:=aZ;clear cx hW bb b0 b1 hB aO Hm MN cq aZ HI HS eq;go_wp2_with fail
 refine ka rfl (PD P1 (by kernel_rfl) rfl) fX.out (by rintro k (h | rfl)<;>omega) (fun _=>rfl)
  (fun (pre:List { x:Int×Mv // x∈zp 0 a.sts }) W=>SzIn w.heap.size #[O U a.n,I SV a.sts.length ks] 27 ((pre.length:Nat):Int) w W) (fun _ _ _=>False) (fun _ _ _ _ h hg hr=>h.turn hg (fun r e=>⟨by have:=(hr r e).1;omega,(hr r e).2⟩)) (fun _ _ _ _ _ h _ _=>h)
  H0.out ?a1 ?assign ?body ?done ?stop
 case assign=>
  intro l x W K hK;gi_wp2;exact hK
 case body=>
  intro l pre x W hI ac;have fL:pre.length<100:=by have:=VG.out;omega
  have c1:=za hI.b1 0 rfl;have f1:=zb hI.b1 0;have HI:=zH hI;clear hI ac;gi_wp2_with fail;have hK:¬(w.heap.size+1<w.heap.size\/w.heap.size+1=w2.heap.size):=by have:=HZ.out;omega
  refine⟨(HI.out.keeps _ (fun k=>k<w.heap.size\/k=w2.heap.size) hK).1,(HI.out.keeps (D:=0) _ (fun k=>k<w.heap.size\/k=w2.heap.size) hK).2,?_⟩;have:=HI.out.set ((pre.length:Int)+1);dsimp only;rw[show(((pre++[x]).length:Nat):Int)=(pre.length:Int)+1 by simp];exact this
 case done=>
  intro D ys W hD eo hI dI;have aC:ys.length=(zp 0 a.sts).length:=by have:=congrArg List.length eo;rwa[LE] at this
  have cu:ys.length<=40:=by omega
  obtain⟨q0,q1,_⟩:=Ka hI.b0;have c1:=za hI.b1 0 rfl;have HI:=zH hI;have HD:=zH dI
  by_cases hz:a.sts.length<1
  . clear hI dI aC eo
    go_wp2_with fail
    all_goals first | (exfalso;omega) | skip
    refine zS (B:=w.heap.size) (qF (by omega) HD.out) (v:=O U 5) (fun W=>by kernel_rfl) ?_;intro W hS;exact⟨by first | rfl | rw[Ln hz],HI.out.below.trans hS.below⟩
  have bK:¬((a.sts.length:Int)<1):=by omega
  clear hI dI aC eo;go_wp2_with fail
  all_goals first | (exfalso;omega) | skip
  refine zS (B:=w.heap.size) (qF (by omega) HD.out) (v:=O U 0) (fun W=>by kernel_rfl) ?_;intro W hS;exact⟨by first | rfl | rw[Lj hz],HI.out.below.trans hS.below⟩
 intro D c pre W _ _ h;exact h.elim
theorem jw{a:Ad}(h:a.n<1\/5<a.n):xy a=2:=Ln h
theorem vz{a:Ad}(h:¬(a.n<1\/5<a.n))(h2:a.sts.length<1):xy a=5:=by unfold xy;rw[Lj h,Ln (.inl h2)]
theorem jv{a:Ad}(h:¬(a.n<1\/5<a.n))(h2:1<=a.sts.length)(hf:FewA a)(h3:zj a a.sts≠0):xy a=zj a a.sts:=by
 unfold xy;rw[Lj h,Lj (by have:=hf.1;have:=hf.2;omega),Ln h3]
theorem jx{a:Ad}(h:¬(a.n<1\/5<a.n))(h2:1<=a.sts.length)(hf:FewA a)(h3:zj a a.sts=0):xy a=if yX a=Av then 0 else 21:=by
 unfold xy;rw[Lj h,Lj (by have:=hf.1;have:=hf.2;omega),Lj (by simpa using h3)]
theorem jc{a:Ad}:∀ {p:Option Mv} {l:List Mv},xO a p l=0->∀m∈l,zO m.r=0/\m.r.n=a.n/\0<=m.to/\m.to<a.sts.length
 | _,[],_,m,hm=>by cases hm
 | p,x::r,h,m,hm=>by
  rw[xO] at h
  split at h
  . rename_i h1;exact absurd h h1
  . rename_i h1
    have h1:yV a p x=0:=by simpa using h1
    rcases LQ.1 hm with rfl | hm
    . unfold yV at h1
      split at h1
      . rename_i h2;exact absurd h1 h2
      . split at h1
        . cases h1
        . split at h1
          . cases h1
          . split at h1
            . cases h1
            . rename_i h2 h3 h4 h5
              exact⟨by simpa using h2,by simpa using h3,by omega,by omega⟩
    . exact jc h m hm
theorem vL{a:Ad}:∀ {xs:List (List Mv)},zj a xs=0->∀l∈xs,l.length≠0/\∀m∈l,zO m.r=0/\m.r.n=a.n/\0<=m.to/\m.to<a.sts.length
 | [],_,l,hl=>by cases hl
 | x::r,h,l,hl=>by
  rw[zj] at h
  split at h
  . rename_i h1;exact absurd h h1
  . rename_i h1
    have h1:xe a x=0:=by simpa using h1
    rcases LQ.1 hl with rfl | hl
    . unfold xe at h1
      split at h1
      . cases h1
      . rename_i h2
        exact⟨h2,fun m hm=>jc (p:=zm l 0) (l:=l) (by have:=h1;unfold yT at this;rwa[LS] at this) m hm⟩
    . exact vL h l hl
theorem qQ{r:Rd}(h:zO r=0):1<=r.n/\r.n<=5/\yp r=0/\xr r.n r.f=0:=by
 unfold zO at h
 split at h
 . rename_i h1;exact absurd h h1
 rename_i h1;have h1:yp r=0:=by simpa using h1
 refine⟨?_,?_,h1,h⟩
 . unfold yp at h1
   split at h1
   . cases h1
   omega
 unfold yp at h1
 split at h1
 . cases h1
 omega
theorem xa{a:Ad}(h:zj a a.sts=0):∀m∈a.mvs,zO m.r=0/\m.r.n=a.n/\0<=m.to/\m.to<a.sts.length:=fun m hm=>by
 obtain⟨l,hl,tP⟩:=Nr.1 hm;exact(vL h l hl).2 m tP
theorem xq{m:Mv}(h:zO m.r=0):∃f:Nat,m.r.f=(f:Int)/\f<32:=by
 obtain⟨_,k,_,e,_,_,_,hk⟩:=check_ok (qQ h).2.2.2;exact⟨k,e,hk⟩
theorem YO{s x:Nat}(hs:s<32)(hx:x<32):(bits BinOp.andNot U (x:Int) (s:Int)=0)↔(x &&& s=x):=by
 have h1:=jJ (p:=fun s=>kN fun x=>decide ((bits BinOp.andNot U (x:Int) (s:Int)=0)↔(x &&& s=x))) (by decide +kernel) hs;have h2:=jJ h1 hx;simpa using h2
theorem Zx{a:Ad}{x:Int×Mv}(h:x∈zp 0 a.sts):x.2∈a.mvs:=by
 have:x.2∈(zp 0 a.sts).map Prod.snd:=LG.2 ⟨x,h,rfl⟩;rwa[qq] at this
end
section
open Go.RowKit
theorem JN{xss:List (List Mv)}{k:Nat}(h:k<xss.length):((xss.take (k+1)).flatten).length=((xss.take k).flatten).length+xss[k].length:=by
 rw[Lu h,List.flatten_append,Lq];simp
theorem flat_le{xss:List (List Mv)}{k:Nat}:((xss.take k).flatten).length<=xss.flatten.length:=by
 conv=>rhs;rw[<-Ra k xss]
 rw[List.flatten_append,Lq];omega
theorem uS(a:Ad)(SV:Bb)(ks:Nat)(hl:a.sts.length<=17592186044416)(hm:a.mvs.length<=4611686018427387904)(aN:∀l∈a.sts,l.length<=17592186044416)(w:Ba)(hS:SAt w w.heap.size SV a.sts) :
  Ap An 119 #[Aj #[O U a.n,I SV a.sts.length ks]] w fun e w'=>e=Am (O U (a.mvs.length:Nat))/\w'=w.alloc (Ah #[O U a.n,I SV a.sts.length ks] 27):=by
 have HS:=zH (hS.keep (zt w (Ah #[O U a.n,I SV a.sts.length ks] 27)));have ff:=zH aN;obtain⟨n0,sts⟩:=a;unfold Ad.mvs at hm ⊢;dsimp only at hl hm ff HS ⊢;go_enter func119,ntmps119;go_wp2_with fail
 go_loop [3,4] (fun v i=>∃k c:Nat,k<=sts.length/\i=O U (k:Int)/\v=O U (c:Int)/\As (c=((sts.take k).flatten).length)) (fun _ i=>sts.length-(Aq i).toNat)
 case atStart=>exact⟨0,0,by omega,rfl,rfl,rfl⟩
 obtain⟨k,c,hk,rfl,rfl,hc⟩:=hrel
 by_cases ac:k<sts.length
 . obtain⟨b,o,A',k',rfl,dH,c1,_⟩:=HS.out.at_ k ac
   have cj:=ff.out _ (Ld ac);have dY:=JN ac;have dr:=flat_le (xss:=sts) (k:=k+1);obtain⟨ll,aN⟩:=Kh (sts[k].length);rw[aN] at c1 cj dY;have tZ:c+ll=((sts.take (k+1)).flatten).length:=by rw[dY,hc.out]
   have hb:c+ll<=4611686018427387904:=by omega
   have HC:=zH tZ;go_wp2_with fail
   go_round
   case rel=>exact⟨k+1,c+ll,by omega,by go_num,by go_num,HC.out⟩
   simp[Aq];omega
 obtain rfl:k=sts.length:=by omega
 have tZ:c=sts.flatten.length:=by rw[hc.out,LJ]
 subst tZ;go_wp2_with fail;go_ret;exact⟨rfl,rfl⟩
theorem mvs_le{a:Ad}(h8:a.sts.length<=8)(aN:∀l∈a.sts,l.length<=17592186044416):a.mvs.length<=4611686018427387904:=by
 have h:∀(xs:List (List Mv)),(∀l∈xs,l.length<=17592186044416)->xs.flatten.length<=xs.length*17592186044416:=by
  intro xs
  induction xs with
  | nil=>intro _;simp
  | cons x xs ih=>
   intro hx;have h1:=ih fun l hl=>hx l (Rf _ hl)
   have h2:=hx x (Ro ..);rw[PS,Lq,Lx,Nat.succ_mul];omega
 have h1:=h a.sts aN;unfold Ad.mvs;omega
theorem Jn(a:Ad)(SV:Bb)(ks:Nat)(hl:a.sts.length<=17592186044416)(aN:∀l∈a.sts,l.length<=17592186044416)(w:Ba)(hS:SAt w w.heap.size SV a.sts) :
  Ap An 92 #[Aj #[O U a.n,I SV a.sts.length ks]] w fun e w'=>e=Am (Ai (decide (a.sts.length<=8)&&decide (a.mvs.length<=40)))/\Ao w.heap.size w w':=by
 have HC:=zH (fun (hm:a.mvs.length<=4611686018427387904)=>uS a SV ks hl hm aN (w.alloc (Ah #[O U a.n,I SV a.sts.length ks] 27)) ((hS.keep (zt w _)).more (by simp)));have Gd:=zH (fun (h8:a.sts.length<=8)=>mvs_le h8 aN);obtain⟨q,hq⟩:=Kh a.mvs.length;rw[hq] at HC Gd ⊢;obtain⟨sl,fD⟩:=Kh a.sts.length;rw[fD] at HC Gd hl ⊢;go_enter func92,ntmps92
 by_cases h1:sl<=8
 . have hm:=Gd.out h1
   go_wp2_with fail
   all_goals first | (exfalso;omega) | skip
   refine(HC.out hm).mono ?_;rintro e w1 ⟨rfl,rfl⟩;go_wp2_with fail;go_ret;exact⟨ze (by first | (rw[Lm h1,Np];exact ZF (by omega)) | exact ZF (by omega)),xT w _ _⟩
 go_wp2_with fail
 all_goals first | (exfalso;omega) | skip
 go_ret;exact⟨ze (by first | rfl | rw[Ll h1,NF]),zt w _⟩
theorem Ym{a:Ad}(hf:FewA a):(∀l∈a.sts,l.length<=17592186044416)/\a.sts.length<=17592186044416/\a.mvs.length<=4611686018427387904:=
 ⟨fun l hl=>by have:=hf.each hl;omega,by have:=hf.1;omega,by have:=hf.2;omega⟩
theorem Jk(a:Ad)(SV:Bb)(ks:Nat)(_hsl:a.sts.length<=8)(A:Bb)(k0:Nat)(l:List Mv)(hl:l.length<=40)(k:Nat)(ac:k<l.length)(w:Ba)(hA:MAt w w.heap.size A l) :
  Ap An 144 #[Aj #[O U a.n,I SV a.sts.length ks],I A l.length k0,O U k] w fun e w'=>e=Am (O U (yV a (zm l k) l[k]))/\Ao w.heap.size w w':=by
 have HA:=zH hA;obtain⟨b,o,rfl,dH,c0,c1,c2,c3,c4,c5,c6,c7⟩:=hA.row k ac;obtain⟨bo,bI⟩:=Kh (uo (zm l k) l[k]);have bu:=zH bI;have m1:=zH (@vX a (zm l k) l[k]);have m2:=zH (@QG a (zm l k) l[k]);have m3:=zH (@vY a (zm l k) l[k]);have m4:=zH (@Yo a (zm l k) l[k]);have m5:=zH (@Yp a (zm l k) l[k]);rw[bI] at m3 m4 m5;obtain⟨m,hm⟩:=Kh (l[k]);have HX:=zH hm;obtain⟨mE,BZ⟩:=Kh (yV a (zm l k) l[k]);rw[BZ] at m1 m2 m3 m4 m5 ⊢;rw[hm] at c0 c1 c2 c3 c4 c5 c6 c7 m1 m2 m3 m4 m5;have HR:=zH (fun w'=>uk m.r w');obtain⟨rE,BJ⟩:=Kh (zO m.r);rw[BJ] at m1 m2 m3 m4 m5 HR;unfold Rd.cells at HR;clear bI hm BZ BJ hA;go_enter func144,ntmps144;go_wp2_with fail;obtain⟨W1,cG,b0,b1,bq,aw⟩:=zZ w #[O U a.n,I SV a.sts.length ks] #[O U m.r.n,O U m.r.h0,O U m.r.h1,O U m.r.h2,O U m.r.h3,O U m.r.h4,O U m.r.f] 27 75;rw[cG];refine(HR.out W1).mono ?_;rintro e w1 ⟨rfl,aJ⟩;have dJ:=zH (aw.trans (aJ.mono (by omega)));have d0:=Lb aJ (by omega) b0;have d1:=Lb aJ (by omega) b1;have bN:=zH d1;have bn:=zH d0;obtain⟨q0,q1,_⟩:=Ka d0;obtain⟨p0,p1,p2,p3,p4,p5,p6,_⟩:=Kf d1;have Ef:=zd d1;obtain⟨_,_,e7,_,_,_,_,_,_,_,_,p7⟩:=(HA.out.keep dJ.out).row k ac
 cases e7
 rw[HX.out] at p7;clear cG b0 b1 aw aJ d0 d1 c0 c1 c2 c3 c4 c5 c6 c7 HR
 by_cases hr:rE=0
 case neg=>
  have he:=zH (m1.out hr);have e0:(rE != 0)=Av:=by simpa using hr
  clear m1 m2 m3 m4 m5 hr bu HX;go_wp2_with fail;go_ret;exact⟨zc he.out.symm,dJ.out⟩
 case pos=>
 subst hr;clear m1
 by_cases hn:m.r.n=a.n
 case neg=>
  have he:=zH (m2.out (by simp) hn);have e0:(m.r.n != a.n)=Av:=by simpa using hn
  clear m2 m3 m4 m5 hn bu HX;go_wp2_with fail;go_ret;exact⟨zc he.out.symm,dJ.out⟩
 case pos=>
 have e0:(m.r.n != a.n)=Ax:=by simpa using hn
 have n3:=zH (m3.out (by simp) hn);have n4:=zH (m4.out (by simp) hn);have n5:=zH (m5.out (by simp) hn);clear m2 hn m3 m4 m5
 cases k with
 | zero=>
  obtain rfl:bo=Ax:=by rw[<-bu.out];rfl
  have g0:decide ((0:Int)<0)=Ax:=by decide
  rw[Rx,Pp] at p7;clear bu HX n3;go_wp2_with fail;go_quiet (fail)
  by_cases ht:m.to<0\/(a.sts.length:Int)<=m.to
  . have he:=zH (n4.out (by simp) ht)
    clear n4 n5
    by_cases lP:m.to<0
    . clear ht
      go_wp2_with fail;go_quiet (fail);go_wp2_with fail;go_ret;exact⟨zc he.out.symm,by repeat (first | exact dJ.out | refine zu ?_ _)⟩
    . have rR:(a.sts.length:Int)<=m.to:=by omega
      clear ht;go_wp2_with fail;go_quiet (fail);go_wp2_with fail;go_ret;exact⟨zc he.out.symm,by repeat (first | exact dJ.out | refine zu ?_ _)⟩
  . have he:=zH (n5.out (by simp) ht)
    have lP:¬m.to<0:=by omega
    have rR:¬(a.sts.length:Int)<=m.to:=by omega
    clear n4 n5 ht;go_wp2_with fail;go_quiet (fail);go_wp2_with fail;go_ret;exact⟨zc he.out.symm,by repeat (first | exact dJ.out | refine zu ?_ _)⟩
 | succ j=>
  have hj:j<l.length:=by omega
  have bS:uo (zm l (j+1)) l[j+1]=decide (0<=zh l[j].r.l l[j+1].r.l):=by rw[zQ l j hj];rfl
  rw[HX.out] at bS;rw[show uo (zm l (j+1)) m=bo by have:=bu.out;rwa[HX.out] at this] at bS;obtain⟨b',o',e',_,u0,u1,u2,u3,u4,u5,u6,u7⟩:=(HA.out.keep dJ.out).row j hj
  cases e'
  have hc:=fun w'=>uM l[j].r m.r w'
  obtain⟨mj,BU⟩:=Kh (l[j]);rw[BU] at bS hc u0 u1 u2 u3 u4 u5 u6 u7;obtain⟨r,hr⟩:=Kh (zh mj.r.l m.r.l);rw[hr] at bS hc;unfold Rd.cells at hc;have cB:=zH bS;have HC:=zH hc;have g1:((j:Int)+1).toNat=j+1:=by omega
  have g3:IntKind.i64.wrap ((j:Int)+1-1)=(j:Int):=by rw[Ly];omega
  have g5:IntKind.i64.wrap ((j:Int)+1)=(j:Int)+1:=by rw[Ly];omega
  have g6:decide ((0:Int)<(j:Int)+1)=Av:=Lm (by omega);have g7:IntKind.i64.wrap (j:Int)=(j:Int):=by rw[Ly];omega
  have g8:(0:Int)<=(j:Int):=by omega
  have g9:(j:Int)<(l.length:Int):=by omega
  clear bS hc hr BU bu;go_wp2_with fail
  go_still_tail 10,(by kernel_rfl)
  change wpList _ _ _ _ _ w1.drew;obtain⟨w2,cx⟩:∃w2,w2=w1.drew:=⟨_,rfl⟩;have tA:As (Ao w.heap.size w w2):=by rw[cx];exact dJ.out.drew
  have ay:As (w2.heap[w.heap.size]?=J (Ah #[O U a.n,I SV a.sts.length ks] 27 (0,0))):=by rw[cx];exact bn.out
  rw[<-cx];clear bn bN cx q0 q1 p0 p1 p2 p3 p4 p5 p6 p7 u0 u1 u2 u3 u4 u5 u6 u7 g3 g7 g8 g9;go_wp2_with fail;refine(HC.out w2).mono ?_;rintro e w3 ⟨rfl,ap⟩;have ld:=zH (Lc tA.out ap);have d0:=La ap ay.out;obtain⟨q0,q1,_⟩:=Ka d0;obtain⟨_,_,e7,_,_,_,_,_,_,_,_,p7⟩:=(HA.out.keep ld.out).row (j+1) ac
  cases e7
  rw[HX.out] at p7;have i1:(0:Int)<=(j:Int)+1:=by omega
  have i2:(j:Int)+1<(l.length:Int):=by omega
  clear d0 ap HC HX
  cases bo with
  | true=>
   have Hx:0<=r:=LI cB.out.symm;have he:=zH (n3.out (by simp));clear n3 n4 n5 cB;go_wp2_with fail
   all_goals first | (exfalso;omega) | skip
   go_ret;exact⟨zc he.out.symm,ld.out⟩
  | false=>
   have Hx:¬0<=r:=NJ cB.out.symm;clear n3 cB
   by_cases ht:m.to<0\/(a.sts.length:Int)<=m.to
   . have he:=zH (n4.out (by simp) ht)
     clear n4 n5
     by_cases lP:m.to<0
     . clear ht
       go_wp2_with fail
       all_goals first | (exfalso;omega) | skip
       go_quiet (fail);go_wp2_with fail;go_ret;exact⟨zc he.out.symm,by repeat (first | exact ld.out | refine zu ?_ _)⟩
     . have rR:(a.sts.length:Int)<=m.to:=by omega
       clear ht;go_wp2_with fail
       all_goals first | (exfalso;omega) | skip
       go_quiet (fail);go_wp2_with fail;go_ret;exact⟨zc he.out.symm,by repeat (first | exact ld.out | refine zu ?_ _)⟩
   . have he:=zH (n5.out (by simp) ht)
     have lP:¬m.to<0:=by omega
     have rR:¬(a.sts.length:Int)<=m.to:=by omega
     clear n4 n5 ht;go_wp2_with fail
     all_goals first | (exfalso;omega) | skip
     go_quiet (fail);go_wp2_with fail;go_ret;exact⟨zc he.out.symm,by repeat (first | exact ld.out | refine zu ?_ _)⟩
end
section
open Go.RowKit
attribute [local go_sem] Oper.semAt_some
def okB(a:Ad)(m:Mv):Bool:=(a.at_ m.to).all fun k=>qh m k
theorem JG{a:Ad}(h:∀t (ht:t<a.sts.length),∀m∈a.sts[t],okB a m=Av):yX a=Av:=by
 unfold yX;rw[LK];intro m hm;obtain⟨l,hl,tP⟩:=Nr.1 hm;obtain⟨t,ht,rfl⟩:=NA.1 hl;exact h t ht m tP
theorem XG{a:Ad}{m k:Mv}(hm:m∈a.mvs)(hk:k∈a.at_ m.to)(h:qh m k=Ax):yX a=Ax:=by
 rw[PT];intro hg;unfold yX at hg;have:=LK.1 (LK.1 hg m hm) k hk;rw[this] at h
 cases h
theorem at_get{a:Ad}{t:Nat}(h:t<a.sts.length){x:Int}(hx:x=(t:Int)):a.at_ x=a.sts[t]:=by
 subst hx;unfold Ad.at_;rw[Lv,Lf,Lg h];rfl
theorem Xb(a:Ad)(hf:FewA a)(hz:zj a a.sts=0)(SV:Bb)(ks:Nat)(w:Ba)(hS:SAt w w.heap.size SV a.sts) :
  Ap An 145 #[Aj #[O U a.n,I SV a.sts.length ks]] w fun e w'=>e=Am (Ai (yX a))/\Ao w.heap.size w w':=by
 have df:=hf.1;have iQ:=zH (fun l hl=>hf.each (l:=l) hl);have HZ:=zH (@xa a hz);have R6:=zH (@JG a);have nN:=zH (fun m k hm hk h=>@XG a m k hm hk h);obtain⟨G,hG⟩:=Kh (yX a);rw[hG] at R6 ⊢;simp only[hG] at nN;go_enter func145,ntmps145;go_wp2_with fail;obtain⟨w1,ag⟩:=Kh (w.alloc (Ah #[O U a.n,I SV a.sts.length ks] 27));have aI:=zg w (Ah #[O U a.n,I SV a.sts.length ks] 27);have an:Ao w.heap.size w w1:=by rw[<-ag];exact zt w _
 have ch:w1.heap.size=w.heap.size+1:=by rw[<-ag];simp
 rw[ag] at aI ⊢;have bJ:=zH aI;have aY:=zH an;have HS:=zH ((hS.keep an).more (by omega:w.heap.size<=w1.heap.size))
 go_loopw [3] (fun i wr=>∃s:Nat,s<=a.sts.length/\i=O U (s:Int)/\As (∀t (ht:t<a.sts.length),t<s->∀m∈a.sts[t],okB a m=Av)/\As (Ao w1.heap.size w1 wr)) (fun i _=>a.sts.length-(Aq i).toNat)
 case atStart=>exact⟨0,by omega,rfl,(fun t ht h0=>by omega),Lp _ _⟩
 obtain⟨s,hs,rfl,mu,bC⟩:=hrel;have aP:=La bC.out bJ.out;have q1:=za aP 1 rfl
 by_cases ac:s<a.sts.length
 case neg=>
  obtain rfl:s=a.sts.length:=by omega
  have hg:=zH (R6.out (fun t ht=>mu.out t ht ht));go_wp2_with fail;go_ret;exact⟨ze hg.out.symm,aY.out.trans (bC.out.mono (by omega))⟩
 case pos=>
 obtain⟨b,o,A',k',rfl,dH,c1,hM⟩:=(HS.out.keep bC.out).at_ s ac;have dk:=iQ.out _ (Ld ac);have Dw:As (∀m∈a.sts[s],m∈a.mvs):=fun m hm=>Nr.2 ⟨_,Ld ac,hm⟩
 have AP:As ((∀m∈a.sts[s],okB a m=Av)->∀t (ht:t<a.sts.length),t<s+1->∀m∈a.sts[t],okB a m=Av):=fun h t ht h2 m hm=>by
  by_cases e:t=s
  . subst e;exact h m hm
  . exact mu.out t ht (by omega) m hm
 have nU:As (∀wr:Ba,Ao w1.heap.size w1 wr->wr.cell? ⟨b,o+s,Z⟩=J (.slice A' (a.sts[s]).length k')/\MAt wr w1.heap.size A' a.sts[s]):=fun Be cA=>
  ⟨((cA.cell (p:=⟨b,_,Z⟩) dH).trans ((bC.out.cell (p:=⟨b,_,Z⟩) dH).symm)).trans c1,(by
   obtain⟨b2,o2,A2,k2,e2,aO,c2,ra⟩:=(HS.out.keep cA).at_ s ac
   cases e2
   have:=(((cA.cell (p:=⟨b,o+s,Z⟩) dH).trans ((bC.out.cell (p:=⟨b,o+s,Z⟩) dH).symm)).trans c1).symm.trans c2
   cases this
   exact ra)⟩
 obtain⟨L,hL⟩:=Kh (a.sts[s]);rw[hL] at c1 dk Dw AP nU;go_wp2_with fail
 go_loopw [4] (fun i wr=>∃j:Nat,j<=L.length/\i=O U (j:Int)/\As (∀u (hu:u<L.length),u<j->okB a L[u]=Av)/\As (Ao w1.heap.size w1 wr)) (fun i _=>L.length-(Aq i).toNat)
 case atStart=>exact⟨0,by omega,rfl,(fun u hu h0=>by omega),bC⟩
 obtain⟨j,hj,rfl,pJ,bC⟩:=hrel;have aP:=La bC.out bJ.out;have q1:=za aP 1 rfl;obtain⟨c1,hM⟩:=nU.out _ bC.out
 by_cases bg:j<L.length
 case neg=>
  obtain rfl:j=L.length:=by omega
  have hg:=zH (AP.out (fun m hm=>by
   obtain⟨u,hu,rfl⟩:=NA.1 hm
   exact pJ.out u hu hu))
  go_wp2_with fail
  go_roundw
  case rel=>exact⟨s+1,by omega,by go_num,hg,bC⟩
  simp[Aq];omega
 case pos=>
 obtain⟨b',o',e',Ux,d0,d1,d2,d3,d4,d5,d6,d7⟩:=hM.row j bg
 cases e'
 have Km:As (L[j]∈a.mvs):=Dw.out _ (Ld bg)
 have RP:As (okB a L[j]=Av->∀u (hu:u<L.length),u<j+1->okB a L[u]=Av):=fun h u hu h2=>by
  by_cases e:u=j
  . subst e;exact h
  . exact pJ.out u hu (by omega)
 obtain⟨m,hm⟩:=Kh (L[j]);rw[hm] at d0 d1 d2 d3 d4 d5 d6 d7 Km RP;obtain⟨z1,z2,z3,z4⟩:=HZ.out m Km.out;obtain⟨f1,CZ,Fy⟩:=xq z1;obtain⟨t,et⟩:=Lr z3;have iY:t<a.sts.length:=by omega
 have bz:=at_get iY et;have Rc:As (∀y∈a.at_ m.to,y∈a.mvs):=by rw[bz];exact fun y hy=>Nr.2 ⟨_,Ld iY,hy⟩
 have B6:=iQ.out _ (Ld iY)
 have rj:As (∀wr:Ba,Ao w1.heap.size w1 wr->∃A' c,wr.cell? ⟨b,o+t,Z⟩=J (.slice A' (a.at_ m.to).length c)/\MAt wr w1.heap.size A' (a.at_ m.to)):=fun Be cA=>by
  rw[bz];obtain⟨b2,o2,A2,k2,e2,aO,c2,ra⟩:=(HS.out.keep cA).at_ t iY
  cases e2
  exact⟨A2,k2,c2,ra⟩
 rw[<-bz] at B6;have PH:As ((∀y∈a.at_ m.to,qh m y=Av)->okB a m=Av):=fun h=>LK.2 h
 obtain⟨L2,CQ⟩:=Kh (a.at_ m.to)
 have rr:As (∀y∈L2,qh m y=Ax->G=Ax):=by
  rw[<-CQ];exact fun y hy h=>nN.out m y Km.out hy h
 rw[CQ] at Rc B6 rj PH;have ay:=zH CZ;have Wc:=zH et;rw[et] at d7;clear hM hm z1 z2 z3 z4 et CZ bz CQ pJ;go_wp2_with fail;obtain⟨wm,io⟩:=Kh (wr.alloc (Ah m.cells 121));have sf:=zg wr (Ah m.cells 121);have TI:Ao w1.heap.size w1 wm:=by rw[<-io];exact bC.out.trans ((zt wr _).mono bC.out.size)
 have lj:wm.heap.size=wr.heap.size+1:=by rw[<-io];simp
 have pE:=bC.out.size;rw[io] at sf;unfold Mv.cells at io sf;rw[Wc.out] at io sf;rw[io];obtain⟨g,hg⟩:=Kh wr.heap.size;rw[hg] at sf lj pE ⊢;have VM:=zH sf;have VJ:=zH TI
 go_loopw [6] (fun i wx=>∃q:Nat,q<=L2.length/\i=O U (q:Int)/\As (∀u (hu:u<L2.length),u<q->qh m L2[u]=Av)/\As (Ao wm.heap.size wm wx)) (fun i _=>L2.length-(Aq i).toNat)
 case atStart=>exact⟨0,by omega,rfl,(fun u hu h0=>by omega),Lp _ _⟩
 obtain⟨q,hq,rfl,Ej,aL⟩:=hrel;have b9:=VJ.out.trans (aL.out.mono (by omega));have aP:=La b9 bJ.out;have q1:=za aP 1 rfl;have eK:=Lb aL.out (by omega) VM.out;have p6:=za eK 6 rfl;have p7:=za eK 7 rfl;obtain⟨A2,k2,c2,ra⟩:=rj.out _ b9;have bh:=zH b9
 by_cases i8:q<L2.length
 case neg=>
  obtain rfl:q=L2.length:=by omega
  have hg:=zH (RP.out (PH.out (fun y hy=>by
   obtain⟨u,hu,rfl⟩:=NA.1 hy
   exact Ej.out u hu hu)))
  go_wp2_with fail
  go_roundw
  case rel=>exact⟨j+1,by omega,by go_num,hg,bh⟩
  simp[Aq];omega
 case pos=>
 obtain⟨b3,o3,e3,aW,_,_,_,_,_,_,c6,_⟩:=ra.row q i8;subst e3;have cW:=Ld i8;obtain⟨f2,pd,Fw⟩:=xq (HZ.out _ (Rc.out _ cW)).1;have P4:=zH (rr.out _ cW)
 have PA:As (qh m L2[q]=Av->∀u (hu:u<L2.length),u<q+1->qh m L2[u]=Av):=fun h u hu h2=>by
  by_cases e:u=q
  . subst e;exact h
  . exact Ej.out u hu (by omega)
 have oK:qh m L2[q]=(f1 &&& f2==f1):=by unfold qh;rw[ay.out,pd,Lv,Lv]
 have HC:=zH (fun w'=>XA f1 f2 Fy Fw w');obtain⟨y,hy⟩:=Kh (L2[q]);rw[hy] at c6 P4 PA oK pd;obtain⟨bo,bI⟩:∃bo,(f1 &&& f2==f1)=bo:=⟨_,rfl⟩;rw[bI] at oK HC;have tm:=zH oK;have Ui:=ay.out;rw[Ui] at p6;rw[pd] at c6
 cases bo with
 | true=>
  have hg:=zH (PA.out tm.out);go_wp2_with fail;go_quiet ((go_at_call 163;exact(HC.out _).mono fun e w' h=>⟨h.1,_,h.2.symm⟩));go_wp2_with fail
  go_roundw
  case rel=>exact⟨q+1,by omega,by go_num,hg,zu aL.out _⟩
  case measure=>simp[Aq];omega
 | false=>
  have hg:=zH (P4.out tm.out);go_wp2_with fail;go_quiet ((go_at_call 163;exact(HC.out _).mono fun e w' h=>⟨h.1,_,h.2.symm⟩));go_wp2_with fail;go_ret;exact⟨ze hg.out.symm,zu (aY.out.trans (bh.out.mono (by omega))) _⟩
theorem Ya(a:Ad)(hf:FewA a)(SV:Bb)(ks:Nat)(w:Ba)(hS:SAt w w.heap.size SV a.sts) :
  Ap An 121 #[Aj #[O U a.n,I SV a.sts.length ks]] w fun e w'=>e=Am (O U (xy a))/\Ao w.heap.size w w':=by
 have df:=hf.1;have eZ:=hf.2;obtain⟨tP,TE,fr⟩:=Ym hf;have Fa:=zH (fun (w':Ba) (h:SAt w' w'.heap.size SV a.sts)=>uS a SV ks TE fr tP w' h);have nM:=zH (fun hz (w':Ba) (h:SAt w' w'.heap.size SV a.sts)=>Xb a hf hz SV ks w' h);have AJ:=zH (fun (A:Bb) (k0:Nat) (l:List Mv) (hl:l.length<=40) (k:Nat) (ac:k<l.length) (w':Ba) (h:MAt w' w'.heap.size A l)=>Jk a SV ks df A k0 l hl k ac w' h);have iQ:=zH (fun l hl=>hf.each (l:=l) hl);have ay:=zH (@jw a);have am:=zH (@vz a);have az:=zH (fun h h2=>@jv a h h2 hf);have cz:=zH (fun h h2=>@jx a h h2 hf);obtain⟨E,hE⟩:=Kh (xy a);rw[hE] at ay am az cz ⊢;obtain⟨ml,BT⟩:=Kh a.mvs.length;rw[BT] at Fa eZ;go_enter func121,ntmps121
 by_cases hr:a.n<1\/5<a.n
 . have hR:=zH (ay.out hr)
   have HN:=zH hr;go_wp2_with fail
   all_goals first | (exfalso;have:=HN.out;omega) | skip
   all_goals
    go_ret;exact⟨zc hR.out.symm,zt w _⟩
 have r1:¬a.n<1:=by omega
 have r2:¬5<a.n:=by omega
 have am:=zH (am.out hr);have az:=zH (az.out hr);have cz:=zH (cz.out hr);obtain⟨w1,ag⟩:=Kh (w.alloc (Ah #[O U a.n,I SV a.sts.length ks] 27));have aI:=zg w (Ah #[O U a.n,I SV a.sts.length ks] 27);have an:Ao w.heap.size w w1:=by rw[<-ag];exact zt w _
 have ch:w1.heap.size=w.heap.size+1:=by rw[<-ag];simp
 rw[ag] at aI;have bJ:=zH aI;have aY:=zH an;have HS:=zH ((hS.keep an).more (by omega:w.heap.size<=w1.heap.size));have al:=zH ag;clear hS ag an;obtain⟨q0,q1,_⟩:=Ka aI
 by_cases hz:a.sts.length<1
 . have hR:=zH (am.out hz)
   clear am az cz Fa nM AJ iQ;go_wp2_with fail;rw[al.out];go_wp2_with fail;go_ret;exact⟨zc hR.out.symm,aY.out⟩
 have bK:1<=a.sts.length:=by omega
 have G3:=zH (az.out bK);have G4:=zH (cz.out bK);clear am hz az cz;obtain⟨F,hF⟩:=Kh (zj a a.sts);have HF:As (F=zj a (a.sts.drop 0)):=by rw[LS];exact hF.symm
 rw[hF] at G3 G4 nM;clear hF;have g1:=zH (fun k h=>@kX a a.sts k h);have g2:=zH (fun k h=>@jC a a.sts k h);have g3:=zH (fun k h=>@kW a a.sts k h);go_wp2_with fail;rw[al.out];refine(Fa.out w1 HS.out).mono ?_;rintro e w2 ⟨rfl,cx⟩;have ae:Ao w1.heap.size w1 w2:=by rw[cx];exact zt w1 _
 have aU:=zH ae;have aP:=La ae bJ.out;have q1:=za aP 1 rfl;clear cx ae aP aI Fa al;go_wp2_with fail
 all_goals first | (exfalso;omega) | skip
 clear q1
 go_loopw [3] (fun i wr=>∃s:Nat,s<=a.sts.length/\i=O U (s:Int)/\As (F=zj a (a.sts.drop s))/\As (Ao w1.heap.size w1 wr)) (fun i _=>a.sts.length-(Aq i).toNat)
 case atStart=>exact⟨0,by omega,rfl,HF,aU⟩
 obtain⟨s,hs,rfl,ah,bC⟩:=hrel;have aP:=La bC.out bJ.out;obtain⟨q0,q1,_⟩:=Ka aP
 by_cases ac:s<a.sts.length
 case neg=>
  obtain rfl:s=a.sts.length:=by omega
  have sS:F=0:=ah.out.trans (g3.out _ rfl);have hR:=zH (G4.out sS);have HG:=zH (nM.out sS wr ((HS.out.keep bC.out).more bC.out.size));obtain⟨gb,dl⟩:=Kh (yX a);rw[dl] at hR HG;clear G3 G4 g1 g2 g3 ah dl sS nM AJ iQ aP;go_wp2_with fail;refine HG.out.mono ?_;rintro e w3 ⟨rfl,ap⟩;have bE:=zH (aY.out.trans ((Lc bC.out ap).mono (by omega)));clear HG ap q1
  cases gb with
  | true=>
   go_wp2_with fail;go_ret;exact⟨zc hR.out.symm,bE.out⟩
  | false=>
   go_wp2_with fail;go_ret;exact⟨zc hR.out.symm,bE.out⟩
 case pos=>
 have aG:=zH (g1.out s ac);have aA:=zH (g2.out s ac);obtain⟨b,o,A',k',e',dH,c1,hM⟩:=(HS.out.keep bC.out).at_ s ac;subst e';have dk:=iQ.out _ (Ld ac)
 have nU:As (∀wr:Ba,Ao w1.heap.size w1 wr->wr.cell? ⟨b,o+s,Z⟩=J (.slice A' (a.sts[s]).length k')/\MAt wr w1.heap.size A' a.sts[s]):=fun Be cA=>
  ⟨((cA.cell (p:=⟨b,_,Z⟩) dH).trans ((bC.out.cell (p:=⟨b,_,Z⟩) dH).symm)).trans c1,(by
   obtain⟨b2,o2,A2,k2,e2,aO,c2,ra⟩:=(HS.out.keep cA).at_ s ac
   cases e2
   have:=(((cA.cell (p:=⟨b,o+s,Z⟩) dH).trans ((bC.out.cell (p:=⟨b,o+s,Z⟩) dH).symm)).trans c1).symm.trans c2
   cases this
   exact ra)⟩
 obtain⟨L,hL⟩:=Kh (a.sts[s]);rw[hL] at c1 dk nU aG aA;clear hM hL g1 g2 g3 aP iQ nM
 by_cases ir:L.length=0
 . have he:=vN (a:=a) ir
   rw[he] at aG;have nG:=ah.out.trans (aG.out (by decide));have hR:=zH ((G3.out (by rw[nG];decide)).trans nG);rw[ir] at c1;clear G3 G4 aG aA ah he nG ir dk nU AJ;go_wp2_with fail;go_ret;exact⟨zc hR.out.symm,aY.out.trans (bC.out.mono (by omega))⟩
 have rk:=zH (uI (a:=a) ir);have e0:(((L.length:Nat):Int)==0)=Ax:=by simpa using ir
 have e1:¬((L.length:Nat):Int)=0:=by omega
 have b1:=zH (fun k h=>@vW a L k h);have b2:=zH (fun k h=>@we a L k h);have b3:=zH (@vV a L);obtain⟨V,hV⟩:=Kh (xe a L);rw[hV] at rk aG aA;clear hV ir;go_wp2_with fail;clear q1 c1
 go_loopw [4] (fun i wr=>∃j:Nat,j<=L.length/\i=O U (j:Int)/\As (V=yT a L j)/\As (Ao w1.heap.size w1 wr)) (fun i _=>L.length-(Aq i).toNat)
 case atStart=>exact⟨0,by omega,rfl,rk,bC⟩
 clear bC rk;obtain⟨j,hj,rfl,pJ,bC⟩:=hrel;have aP:=La bC.out bJ.out;obtain⟨q0,q1,_⟩:=Ka aP;obtain⟨c1,hM⟩:=nU.out _ bC.out
 by_cases bg:j<L.length
 case neg=>
  obtain rfl:j=L.length:=by omega
  have Od:V=0:=pJ.out.trans b3.out;have hR:=zH (ah.out.trans (aA.out Od));clear pJ hM b1 b2 b3 aG aA ah Od aP nU AJ G3 G4;go_wp2_with fail
  go_roundw
  case rel=>exact⟨s+1,by omega,by go_num,hR,bC⟩
  simp[Aq];omega
 case pos=>
 have hC:=AJ.out A' k' L dk j bg;have x1:=b1.out j bg;have x2:=b2.out j bg;obtain⟨ev,cm⟩:=Kh (yV a (zm L j) L[j]);rw[cm] at hC x1 x2;have HC:=zH hC;have X1:=zH x1;have X2:=zH x2;have ma:=zH hM;have Wp:=zH aP;have i1:(0:Int)<=(s:Int):=by omega
 have i2:(s:Int)<(a.sts.length:Int):=by omega
 clear hC x1 x2 cm hM aP b1 b2 b3 AJ;go_wp2_with fail
 go_still_tail 7,(by kernel_rfl)
 change wpList _ _ _ _ _ wr.drew;obtain⟨wd,lM⟩:∃wd,wd=wr.drew:=⟨_,rfl⟩;have Wz:As (Ao w1.heap.size w1 wd):=by rw[lM];exact bC.out.drew
 have VI:As (MAt wd wd.heap.size A' L):=by rw[lM];exact(ma.out.keep (Lp _ wr).drew).more bC.out.size
 rw[<-lM];clear lM ma q1 c1 Wp;go_wp2_with fail;refine(HC.out wd VI.out).mono ?_;rintro e w3 ⟨rfl,ap⟩;have ld:=zH (Lc Wz.out ap)
 by_cases he:ev=0
 . subst he
   have hR:=zH (pJ.out.trans (X2.out (by simp)));go_wp2_with fail
   go_roundw
   case rel=>exact⟨j+1,by omega,by go_num,hR,ld⟩
   simp[Aq];omega
 have Ob:=pJ.out.trans (X1.out he);have nG:=(ah.out.trans (aG.out (by rw[Ob];exact he))).trans Ob;have hR:=zH ((G3.out (by rw[nG];exact he)).trans nG);have e2:(ev != 0)=Av:=by simpa using he
 go_wp2_with fail;go_ret;exact⟨zc hR.out.symm,aY.out.trans (ld.out.mono (by omega))⟩
end
section
open Go.RowKit Go.Shelf
section
variable {P:Program}
theorem jf{fn:Func}{tmps:Array Au}{R:Ending->Ba->Prop}{B n:Nat} :
  ∀(rs:List Nat) (w:Ba),rs.Nodup->(∀r∈rs,B<=r/\w.heap[r]?=J (.deferred (J [])))->(∀W,Shut B w W->∃v,(results fn tmps).run P W=.ok v W/\R (Am v) W) ->
   LeavesInM Fence.wide n P fn tmps R (rs.map (fun r=>{ target:=.collected r,args:=#[] })) .returning w
 | [],w,_,_,hR=>hR w (Shut.refl _ _)
 | r::rs,w,hn,hm,hR=>by
  obtain⟨hr,Ga⟩:=Pz.1 hn;obtain⟨hB,hk⟩:=hm r (by simp);refine⟨by simp,.inl ⟨r,_,rfl,run_takeDeferred hk,?_⟩⟩;refine jf rs _ Ga (fun r' fm=>⟨(hm r' (by simp[fm])).1,?_⟩) (fun W hW=>hR W ?_)
  . rw[NY (by rintro rfl;exact hr fm)]
    exact(hm r' (by simp[fm])).2
  . refine⟨((Lp B w).grown (grownBy_putObj' w r (.deferred Z)) (by have:=(Li.1 hk).1;omega) (fun k e=>by cases e;exact hB)).trans hW.below,fun k o ho hc=>?_⟩
    refine hW.same k o ?_ hc
    by_cases e:k=r
    . subst e;rw[hk] at ho;cases ho;cases hc
    . exact(NY e).trans ho
theorem yC{fn:Func}{R:Ending->Ba->Prop}{a:Act}{w:Ba}{B:Nat}(hm:Marks B a.defers w)
  (hR:∀W,Shut B w W->∃v,(results fn a.tmps).run P W=.ok v W/\R (Am v) W):bodyPostM Fence.wide 9 P fn R .ret a w:=by
 obtain⟨rs,hd,hn,hk⟩:=hm;show LeavesInM Fence.wide 9 P fn a.tmps R a.defers .returning w;rw[hd];exact jf rs w hn hk hR
theorem jW{β:Type}{g:Operand}{ps:Array Tmp}{assign body:Code}{Q:Exit->Act->Ba->Prop}{a:Act}{w:Ba}
  {gf:Nat} {lb:Array Au} (hg:a.eval g=.func (.func gf) #[] lb) (eg:Enters P gf)
  {fy:β->Array Au} {K:Nat->Prop} {xs:List β} (dZ:Iter P gf lb fy K xs w) (hK:∀k,K k->k<w.heap.size) (mu:∀x,(fy x).size=ps.size)
  (Ae:List { x:β // x∈xs }->Ba->Prop) (Ix:Code->List { x:β // x∈xs }->Ba->Prop) (hI:OwnFrom w.heap.size Ae) (Hk:∀c,OwnFrom w.heap.size (Ix c)) (h0:Ae [] w)
  (C:β->Array Au) (T:TypeId) (a₁:{ x:β // x∈xs }->Nat->Act)
  (ft:∀(l:Nat) (pre:List { x:β // x∈xs }) (x:{ x:β // x∈xs }) (W:Ba) (K':Act->Ba->Prop),Ae pre W->(∀g,g=W.heap.size->Ae pre (W.alloc (Ah (C x.1) T))->K' (a₁ x g) (W.alloc (Ah (C x.1) T))) ->
   assign.wpIn (Fence.wide.inRound l) 7 P (Exit.then K' (fun _ _ _=>False)) { tmps:=(ps.zip (fy x.1)).foldl (fun t (p,v)=>t.setIfInBounds p v) a.tmps,defers:=[] } W)
  (mH:∀(l:Nat) (pre:List { x:β // x∈xs }) (x:{ x:β // x∈xs }) (g:Nat) (W:Ba),w.heap.size<=g->W.heap[g]?=J (Ah (C x.1) T (0,0))->Ae pre W->pre.length<xs.length->body.wpIn (Fence.wide.inRound l) 7 P (ownPostG w.heap.size (KeepB K) Ae Ix (pre++[x]) W) (a₁ x g) W)
  (mF:∀(D:Nat) (ys:List { x:β // x∈xs }) (W:Ba),w.heap.size<=D->ys.map (·.1)=xs->Ae ys W->W.heap[D]?=J (.deferred (J []))->Q .normal { a with defers:={ target:=.collected D,args:=#[] }::a.defers } W)
  (mp:∀(D:Nat) (c:Code) (pre:List { x:β // x∈xs }) (W:Ba),w.heap.size<=D->pre.map (·.1) <+: xs->Ix c pre W->W.heap[D]?=J (.deferred (J []))->c.wp P Q { a with defers:={ target:=.collected D,args:=#[] }::a.defers } W)
  (hbig:∀pre W,Ae pre W->w.heap.size<=W.heap.size) :
  (Code.rangeFunc g ps assign body).wp P Q a w:=
 (Rz (n:=9)).1 (wpIn_rangeFunc_ownH (F:=Fence.wide) (n:=9) rfl (by omega) hg trivial eg (dZ 8 (by omega)) KeepB.trans
  (fun W l o o' hl _ _ _=>KeepB.putObj (fun hk=>by have:=hK l hk;omega) o') (Lp _ _) (fun x=>mu x.1) Ae Ix hI Hk h0
  (fun x a' W=>∃g,a'=a₁ x g/\w.heap.size<=g/\W.heap[g]?=J (Ah (C x.1) T (0,0)))
  (fun x a' _ W W' row ⟨g,e,tW,hc⟩ cM hr=>⟨g,e,tW,(LP cM (fun r e=>(hr r e).2) hc rfl).trans hc⟩)
  (fun l pre x W K' hi ai=>ft l pre x W K' hi fun g Ch tV=>by
   refine ai _ _ ?_ ?_ tV ⟨g,rfl,by rw[Ch];exact hbig _ _ hi,by rw[Ch];exact zg _ _⟩
   . exact⟨by simp,fun k o _ hk ho=>(NR W _ k (Li.1 hk).1).trans hk⟩
   . exact KeepB.alloc _ _ _)
  (fun l pre x a' W _ _ hi ⟨g,e,tW,hc⟩ hl=>by subst e;exact mH l pre x g W tW hc hi hl) mF
  (fun D c pre W hD hS hc hk=>Rz.2 (mp D c pre W hD hS hc hk)))
end
structure RsIn(B:Nat)(C:Array Au)(T:TypeId)(r:Int)(w W:Ba):Prop where
 below:Ao B w W
 b0:W.heap[B]?=J (Ah C T (0,0))
 b1:W.heap[B+1]?=J (Ah #[O U r] 46 (0,0))
theorem RsIn.turn{B:Nat}{C:Array Au}{T:TypeId}{r:Int}{w W W':Ba}{row:Option Nat}(h:RsIn B C T r w W)(hg:W.grownBy W' row)(hr:∀r,row=J r->B<=r/\∃o:Obj,W.heap[r]?=J o/\o.isCells=Ax):RsIn B C T r w W':=
 ⟨h.below.grown hg (by have:=(Li.1 h.b0).1;omega) (fun k hk=>(hr k hk).1),(LP hg (fun r e=>(hr r e).2) h.b0 rfl).trans h.b0,(LP hg (fun r e=>(hr r e).2) h.b1 rfl).trans h.b1⟩
theorem RsIn.on{B D:Nat}{C:Array Au}{T:TypeId}{r:Int}{w W W':Ba}(h:RsIn B C T r w W)(hb:Ao D W W')(hD:B+2<=D):RsIn B C T r w W':=
 ⟨h.below.trans (hb.mono (by omega)),Lb hb (by omega) h.b0,Lb hb (by omega) h.b1⟩
theorem RsIn.set{B:Nat}{C:Array Au}{T:TypeId}{r:Int}{w W:Ba}(h:RsIn B C T r w W)(r':Int):RsIn B C T r' w (W.setCell ⟨B+1,0,Z⟩ (O U r')):=by
 obtain⟨x1,x2,x3⟩:=j6 h.b1 (O U r');exact⟨h.below.setCell (by simp) _,(x3 B (by omega)).trans h.b0,x1⟩
theorem RsIn.keeps{B D:Nat}{C:Array Au}{T:TypeId}{r:Int}{w W:Ba}(h:RsIn B C T r w W)(r':Int):KeepsFrom D W (W.setCell ⟨B+1,0,Z⟩ (O U r')):=by
 obtain⟨x1,x2,x3⟩:=j6 h.b1 (O U r');refine⟨by omega,fun k o _ hk ho=>?_⟩;have k1:k≠B+1:=by rintro rfl;rw[h.b1] at hk;cases hk;cases ho
 exact(x3 k k1).trans hk
theorem qs{D:Nat}{W W':Ba}(h:Ao W.heap.size W W'):KeepsFrom D W W':=⟨h.size,fun k _ _ hk _=>(h.block k (Li.1 hk).1).trans hk⟩
theorem RsIn.cell{B:Nat}{C:Array Au}{T:TypeId}{r:Int}{w W X:Ba}(h:RsIn B C T r w W)(hS:Shut B W X):X.cell? ⟨B+1,0,Z⟩=J (O U r):=hS.cell (za h.b1 0 rfl)
end
section
open Go.RowKit Go.Shelf
attribute [local go_sem] Oper.semAt_some
theorem jy(a:Ad)(hf:FewA a)(SV:Bb)(ks:Nat)(w:Ba)(hS:SAt w w.heap.size SV a.sts) :
  Ap An 78 #[Aj #[O U a.n,I SV a.sts.length ks]] w fun e w'=>e=Am (O U (xy a))/\Ao w.heap.size w w':=by
 have df:=hf.1;have lZ:=zH (fun (w':Ba) (h:SAt w' w'.heap.size SV a.sts)=>Jf a hf SV ks w' h);have dm:=zH (fun (A:Bb) (k0:Nat) (l:List Mv) (hl:l.length<=40) (w':Ba) (h:MAt w' w'.heap.size A l)=>Je a SV ks df A k0 l hl w' h);have HI:=zH (fun (bx:Nat) (w':Ba) (hb:w'.heap[bx]?=J (Ah #[O U a.n,I SV a.sts.length ks] 27)) (h:SAt w' w.heap.size SV a.sts) (hB:w.heap.size<=w'.heap.size)=>qr a hf SV ks w.heap.size bx w' hb h hB);have iQ:=zH (fun l hl=>hf.each (l:=l) hl);have ay:=zH (@jw a);have am:=zH (@vz a);have az:=zH (fun h h2=>@jv a h h2 hf);have cz:=zH (fun h h2=>@jx a h h2 hf);obtain⟨E,hE⟩:=Kh (xy a);rw[hE] at ay am az cz ⊢;have HS:=zH hS;clear hS hE hf;refine zV func78 rfl ?_;simp only[ntmps78,List.size_toArray,List.length_cons,List.length_nil,Nat.reduceAdd,Nat.reduceSub,Array.replicate_succ,Array.replicate_zero,List.push_toArray,List.append_toArray,List.nil_append,List.cons_append]
 by_cases hr:a.n<1\/5<a.n
 . have hR:=zH (ay.out hr)
   have HN:=zH hr;clear ay am az cz hr lZ dm HI iQ;go_wp2_with fail
   all_goals first | (exfalso;have:=HN.out;omega) | skip
   all_goals
    refine yC (B:=w.heap.size) (Marks.nil _ _) ?_;intro W hX;have c1:=hX.cell (za (zg (w.alloc (Ah #[O U a.n,I SV a.sts.length ks] 27)) (Ah #[O U 2] 46)) 0 rfl);rw[LW] at c1;refine⟨O U 2,?_,zc hR.out.symm,(xT _ _ _).trans hX.below⟩;clear hX hR HN;simp[results,results78,go_sem,c1]
 have r1:¬a.n<1:=by omega
 have r2:¬5<a.n:=by omega
 have am:=zH (am.out hr);have az:=zH (az.out hr);have cz:=zH (cz.out hr);clear hr ay;go_wp2_with fail
 all_goals first | (exfalso;omega) | skip
 obtain⟨w2,cx,b0,b1,aZ,hB⟩:=zZ w #[O U a.n,I SV a.sts.length ks] #[O U 0] 27 46;rw[cx];have H0:As (RsIn w.heap.size #[O U a.n,I SV a.sts.length ks] 27 0 w w2):=⟨hB,b0,b1⟩;have O6:=zH ((HS.out.keep hB).more hB.size);clear cx b0 b1 hB;refine(lZ.out w2 O6.out).mono ?_;rintro e w3 ⟨rfl,hb⟩;have H1:=zH (H0.out.on hb aZ);have fj:w.heap.size+2<=w3.heap.size:=by have:=hb.size;omega
 obtain⟨q0,q1,_⟩:=Ka H1.out.b0;have p0:=za H1.out.b1 0 rfl;have f0:=zb H1.out.b1 0;clear hb O6 H0 lZ
 by_cases hz:a.sts.length<1
 . have hR:=zH (am.out hz)
   rw[Ln hz];clear am az cz dm HI iQ;go_wp2_with fail;refine yC (B:=w.heap.size) (Marks.nil _ _) ?_;intro W hX;have hI:=H1.out.set 5;have c1:=hI.cell hX;refine⟨O U 5,?_,zc hR.out.symm,hI.below.trans hX.below⟩;clear hX hR hI;simp[results,results78,go_sem,c1]
 have bK:1<=a.sts.length:=by omega
 rw[Lj hz];have G3:=zH (az.out bK);have G4:=zH (cz.out bK);clear am hz az cz;obtain⟨F,hF⟩:=Kh (zj a a.sts);have HF:As (F=zj a (a.sts.drop 0)):=by rw[LS];exact hF.symm
 have tc:=zH (fun h=>@xa a (hF.trans h));rw[hF] at G3 G4;clear hF;have g1:=zH (fun k h=>@kX a a.sts k h);have g2:=zH (fun k h=>@jC a a.sts k h);have g3:=zH (fun k h=>@kW a a.sts k h);go_wp2_with fail
 all_goals first | (exfalso;omega) | skip
 clear q0 q1 p0 f0
 go_loopw [27] (fun i wr=>∃k:Nat,k<=a.sts.length/\i=O U (k:Int)/\As (F=zj a (a.sts.drop k))/\As (RsIn w.heap.size #[O U a.n,I SV a.sts.length ks] 27 0 w wr)/\w.heap.size+2<=wr.heap.size) (fun i _=>a.sts.length-(Aq i).toNat)
 case atStart=>exact⟨0,by omega,rfl,HF,H1,fj⟩
 obtain⟨k,hk,rfl,ah,sO,pE⟩:=hrel;clear HF;obtain⟨q0,q1,_⟩:=Ka sO.out.b0;have p0:=za sO.out.b1 0 rfl;have f0:=zb sO.out.b1 0
 by_cases ac:k<a.sts.length
 . have aG:=zH (g1.out k ac)
   have aA:=zH (g2.out k ac);obtain⟨b,o,A',k',e',dH,c1,hM⟩:=(HS.out.keep sO.out.below).at_ k ac;have dk:=iQ.out _ (Ld ac);have HC:=zH (dm.out A' k' (a.sts[k]'ac) dk);have P5:=zH (hM.more sO.out.below.size);obtain⟨L,hL⟩:=Kh (a.sts[k]);rw[hL] at c1 dk HC P5 aG aA;obtain⟨ev,cm⟩:=Kh (xe a L);rw[cm] at HC aG aA;subst e';clear hM hL cm g1 g2 g3 dm HI iQ tc;go_wp2_with fail;refine(HC.out _ P5.out).mono ?_;rintro e w4 ⟨rfl,hb⟩;have H4:=zH (sO.out.on hb pE);have fK:w.heap.size+2<=w4.heap.size:=by have:=hb.size;omega
   obtain⟨q0,q1,_⟩:=Ka H4.out.b0;have p0:=za H4.out.b1 0 rfl;have f0:=zb H4.out.b1 0;clear hb HC
   by_cases he:ev=0
   . subst he
     have hR:=zH (ah.out.trans (aA.out (by simp)));clear aG aA ah;go_wp2_with fail
     go_roundw
     case rel=>exact⟨k+1,by omega,by go_num,hR,H4,fK⟩
     simp[Aq];omega
   have nG:=ah.out.trans (aG.out he);have hR:=zH ((G3.out (by rw[nG];exact he)).trans nG);have e0:(ev != 0)=Av:=by simpa using he
   clear aG aA ah G3 G4 nG he;go_wp2_with fail;refine yC (B:=w.heap.size) (Marks.nil _ _) ?_;intro W hX;have hI:=H4.out.set ev;have c1:=hI.cell hX;refine⟨O U ev,?_,zc hR.out.symm,hI.below.trans hX.below⟩;clear hX hR hI;simp[results,results78,go_sem,c1]
 obtain rfl:k=a.sts.length:=by omega
 have sS:F=0:=ah.out.trans (g3.out _ rfl);have hR:=zH (G4.out sS);have HZ:=zH (tc.out sS);clear G3 G4 ah g1 g2 g3 dm tc sS;go_wp2_with fail;refine(kH a.n (I SV a.sts.length ks) wr).mono ?_;rintro e W ⟨rfl,hW⟩;have bb:=zg wr (Ah #[O U a.n,I SV a.sts.length ks] 27);have aO:Ao wr.heap.size wr W:=by rw[<-hW];exact zt _ _
 have bq:wr.heap.size<W.heap.size:=by rw[<-hW];simp
 rw[hW] at bb;have HW:=zH (sO.out.on aO pE);have fX:=zH (HI.out wr.heap.size W bb (HS.out.keep HW.out.below) (by omega));clear hW bb aO HI q0 q1 p0 f0;go_wp2_with fail
 refine jW rfl (PD P1 (by kernel_rfl) rfl) fX.out (by rintro k (h | rfl)<;>omega) (fun _=>rfl)
  (fun (pre:List { x:Int×Mv // x∈zp 0 a.sts }) X=>RsIn w.heap.size #[O U a.n,I SV a.sts.length ks] 27 0 w X/\(∀x∈pre,((a.at_ x.1.2.to).all fun k=>qh x.1.2 k)=Av)/\W.heap.size<=X.heap.size)
  (fun c _ W=>c=.ret/\RsIn w.heap.size #[O U a.n,I SV a.sts.length ks] 27 21 w W/\yX a=Ax)
  (fun _ _ _ _ h hg hr=>⟨h.1.turn hg (fun r e=>⟨by have:=(hr r e).1;omega,(hr r e).2⟩),h.2.1,Lz h.2.2 hg.size⟩) (fun _ _ _ _ _ ⟨h1,h2,h3⟩ hg hr=>⟨h1,h2.turn hg (fun r e=>⟨by have:=(hr r e).1;omega,(hr r e).2⟩),h3⟩)
  ⟨HW.out,(fun x hx=>by cases hx),Lh _⟩ (fun x=>x.2.cells) 121 ?a1 ?assign ?body ?done ?stop (fun _ _ h=>h.2.2)
 case assign=>
  intro l pre x X K hI hK;obtain⟨g,hg⟩:∃g,g=X.heap.size:=⟨_,rfl⟩;have HK:=zH (hK g hg ⟨hI.1.on (zt X _) (zd hI.1.b1),hI.2.1,by have:=hI.2.2;simp;omega⟩);have HG:=zH hg;unfold Mv.cells at HK ⊢;dsimp only at HK ⊢;clear hK hg hI;gi_wp2;rw[<-HG.out];exact HK.out
 case body=>
  intro l pre x g W1 hg dl hI ac;obtain⟨cH,iE,fF⟩:=hI;obtain⟨z1,z2,z3,z4⟩:=HZ.out x.1.2 (Zx x.2);obtain⟨m,hm⟩:=Kh x.1.2;have HM:=zH hm;rw[hm] at z1 z2 z3 z4 dl;obtain⟨f1,CZ,Fy⟩:=xq z1;obtain⟨t,et⟩:=Lr z3;have iY:t<a.sts.length:=by omega
  have bz:a.at_ m.to=a.sts[t]:=by unfold Ad.at_;rw[et,Lv,Lf,Lg iY];rfl
  obtain⟨b,o,A',k',e',dH,c1,sP⟩:=(HS.out.keep cH.below).at_ t iY;have dk:=iQ.out _ (Ld iY);have rt:As (∀y∈a.sts[t],zO y.r=0):=fun y hy=>(HZ.out y (Nr.2 ⟨_,Ld iY,hy⟩)).1
  obtain⟨L,hL⟩:=Kh (a.sts[t]);rw[hL] at c1 sP dk rt bz;have nU:=zH bz;have ii:=zH cH;have po:=zH iE;have V8:=zH dl;have pm:=zH (sP.more cH.below.size);obtain⟨q0,q1,_⟩:=Ka cH.b0;have u7:=za dl 7 (u:=O U m.to) rfl;have u6:=za dl 6 (u:=O U m.r.f) rfl;rw[et] at u7;have cy:=zd dl;have aw:=zd cH.b1;have ay:=zH CZ;subst e';clear hm z1 z2 z3 z4 et CZ bz hL sP cH iE dl ac;gi_wp2_with fail
  gi_loopw [49] (fun i wr=>∃j:Nat,j<=L.length/\i=O U (j:Int)/\As (∀k (h:k<L.length),k<j->qh m L[k]=Av)/\As (Ao W1.heap.size W1 wr)) (fun i _=>L.length-(Aq i).toNat)
  case atStart=>exact⟨0,by omega,rfl,(fun k h h0=>by omega),Lp _ _⟩
  obtain⟨j,hj,rfl,Et,aB⟩:=hrel;clear q0 q1 u6 u7 c1
  by_cases bg:j<L.length
  . obtain⟨b2,o2,rfl,ae,m0,m1,m2,m3,m4,m5,m6,m7⟩:=(pm.out.keep aB.out).row j bg
    obtain⟨f2,pd,Fw⟩:=xq (rt.out _ (Ld bg));have oK:qh m L[j]=decide (f1 &&& f2=f1):=by unfold qh;rw[ay.out,pd,Lv,Lv];rw[Nq];simp
    have cW:L[j]∈L:=Ld bg;obtain⟨y,hy⟩:=Kh (L[j]);have OV:=zH hy;rw[hy] at m0 m1 m2 m3 m4 m5 m6 m7 oK pd cW;have HEF:=zH pd;have oN:=(aB.out.block g cy).trans V8.out;have u6:=za oN 6 (u:=O U m.r.f) rfl;have nF:=ii.out.on aB.out (by omega);have p0:=za nF.b1 0 rfl;have f0:=zb nF.b1 0;have nA:=zd oN;have bC:=zd nF.b1;have O':=zH nF;have tm:=zH oK;rw[pd] at m6;rw[ay.out] at u6;have EE:=zH (@YO f2 f1 Fw Fy);clear hy pd oN nF oK cW
    by_cases hk:f1 &&& f2=f1
    . have hz:=EE.out.2 hk
      have Es:As (qh m y=Av):=tm.out.trans (Lm hk);clear EE tm hk;gi_wp2_with fail
      go_roundw
      case rel=>
       refine⟨j+1,by omega,by go_num,fun k h h1=>?_,?_⟩
       . by_cases e:k=j
         . subst e;rw[OV.out];exact Es.out
         exact Et.out k h (by omega)
       exact aB.out.alloc aB.out.size _
      simp[Aq];omega
    have hz:¬(bits BinOp.andNot U (f1:Int) (f2:Int)=0):=fun h=>hk (EE.out.1 h)
    have e0:(bits BinOp.andNot U (f1:Int) (f2:Int) != 0)=Av:=by simpa using hz
    have GE:As (yX a=Ax):=by
     unfold yX As;rw[List.all_eq_false];refine⟨m,by rw[<-HM.out];exact Zx x.2,?_⟩;rw[nU.out];intro aj;have h1:=LK.1 aj y (by rw[<-OV.out];exact Ld bg);rw[tm.out,Ll hk] at h1
     cases h1
    clear EE tm hk hz;gi_wp2_with fail;have dj:=O'.out.set 21;refine⟨((qs aB.out).trans (O'.out.keeps 21)).trans (qs (zt _ _)),rfl,dj.on (zt _ _) (zd dj.b1),GE.out⟩
  obtain rfl:j=L.length:=by omega
  gi_wp2_with fail;refine⟨qs aB.out,KeepB.of_below aB.out (by rintro k (h | rfl)<;>omega),ii.out.on aB.out (by omega),?_,Lz fF aB.out.size⟩;intro y hy;rcases LR.1 hy with hy | hy
  . exact po.out y hy
  simp only[List.mem_singleton] at hy;subst hy;rw[HM.out,nU.out,LK];intro z hz;obtain⟨k,hk,rfl⟩:=NA.1 hz;exact Et.out k hk hk
 case done=>
  intro D ys W1 hD eo hI dI
  have cM:yX a=Av:=by
   unfold yX;rw[LK];intro m hm;have ia:m∈(zp 0 a.sts).map Prod.snd:=by rw[qq];exact hm
   obtain⟨x,hx,rfl⟩:=LG.1 ia;rw[<-eo] at hx;obtain⟨y,hy,rfl⟩:=LG.1 hx;exact hI.2.1 y hy
  have hE:=zH (hR.out.trans (Ln cM));have HI:=zH hI.1;have p0:=za HI.out.b1 0 rfl;have f0:=zb HI.out.b1 0;have HD:=zH dI;clear hI eo cM dI hR fX HW;go_wp2_with fail;refine yC (B:=w.heap.size) (qF (by omega) ((HI.out.keeps (D:=D) 0).same D _ (Lh _) HD.out rfl)) ?_;intro X hX;have hI:=HI.out.set 0;have c1:=hI.cell hX;refine⟨O U 0,?_,zc hE.out.symm,hI.below.trans hX.below⟩;simp[results,results78,go_sem,c1]
 intro D c pre W1 hD F1 hI dI;obtain⟨rfl,hI,cM⟩:=hI;have hE:=zH (hR.out.trans (Lj (by rw[cM];decide)));have HI:=zH hI;have HD:=zH dI;clear hI cM dI hR fX HW F1;go_wp2_with fail;refine yC (B:=w.heap.size) (qF (by omega) HD.out) ?_;intro X hX;have c1:=HI.out.cell hX;refine⟨O U 21,?_,zc hE.out.symm,HI.out.below.trans hX.below⟩;clear hX hE;simp[results,results78,go_sem,c1]
end
section
open Go.RowKit
attribute [local go_sem] Oper.semAt_some
def Pb.vs(p:Pb)(A:Bb)(kc:Nat)(SV:Bb)(ks:Nat):Array Au:=#[O U p.t.n,O U p.t.ins,O U p.t.outs,I A p.t.cases.length kc,O U p.a.n,I SV p.a.sts.length ks,O U p.k]
theorem jn{p:Pb}(h:yE p.t≠0):zz p=yE p.t:=Ln h
theorem ve{p:Pb}(h:yE p.t=0)(h2:xy p.a≠0):zz p=xy p.a:=by unfold zz;rw[Lj (by simpa using h),Ln h2]
theorem Zp{p:Pb}(h:yE p.t=0)(h2:xy p.a=0)(h3:p.t.n≠p.a.n):zz p=22:=by unfold zz;rw[Lj (by simpa using h),Lj (by simpa using h2),Ln h3]
theorem Zq{p:Pb}(h:yE p.t=0)(h2:xy p.a=0)(h3:p.t.n=p.a.n)(h4:p.k<0\/6<p.k):zz p=2:=by unfold zz;rw[Lj (by simpa using h),Lj (by simpa using h2),Lj (by simpa using h3),Ln h4]
theorem Ye{p:Pb}(h:yE p.t=0)(h2:xy p.a=0)(h3:p.t.n=p.a.n)(h4:¬(p.k<0\/6<p.k)):zz p=0:=by unfold zz;rw[Lj (by simpa using h),Lj (by simpa using h2),Lj (by simpa using h3),Lj h4]
def ZI(p:Pb):Prop:=FewT p.t/\FewA p.a
theorem Xi(p:Pb)(hf:ZI p)(A:Bb)(kc:Nat)(SV:Bb)(ks:Nat)(w:Ba)(hA:CAt w w.heap.size A p.t.cases)(hS:SAt w w.heap.size SV p.a.sts) :
  Ap An 43 #[.agg (p.vs A kc SV ks)] w fun e w'=>e=Am (O U (zz p))/\Ao w.heap.size w w':=by
 have HT:=zH (fun (w':Ba) (h:CAt w' w'.heap.size A p.t.cases)=>YX p.t A kc hf.1 w' h);have HD:=zH (fun (w':Ba) (h:SAt w' w'.heap.size SV p.a.sts)=>jy p.a hf.2 SV ks w' h);have ay:=zH (@jn p);have am:=zH (@ve p);have az:=zH (@Zp p);have cz:=zH (@Zq p);have eR:=zH (@Ye p);obtain⟨E,hE⟩:=Kh (zz p);rw[hE] at ay am az cz eR ⊢;obtain⟨tE,FR⟩:=Kh (yE p.t);rw[FR] at ay am az cz eR HT;obtain⟨aE,G9⟩:=Kh (xy p.a);rw[G9] at am az cz eR HD;unfold Pb.vs;obtain⟨w1,ag⟩:=Kh (w.alloc (Ah (p.vs A kc SV ks) 29));have aI:=zg w (Ah (p.vs A kc SV ks) 29);have an:Ao w.heap.size w w1:=by rw[<-ag];exact zt w _
 have ch:w1.heap.size=w.heap.size+1:=by rw[<-ag];simp
 rw[ag] at aI;unfold Pb.vs at ag aI;have bJ:=zH aI;have aY:=zH an;have HA:=zH ((hA.keep an).more (by omega:w.heap.size<=w1.heap.size));have HS:=zH ((hS.keep an).more (by omega:w.heap.size<=w1.heap.size));have al:=zH ag;have q0:=za aI 0 rfl;clear hA hS ag an aI;go_enter func43,ntmps43;go_wp2_with fail;rw[al.out];go_wp2_with fail;refine(HT.out w1 HA.out).mono ?_;rintro e w2 ⟨rfl,ae⟩;have B2:=zH (aY.out.trans (ae.mono (by omega)));have dc:=zH ((HS.out.keep ae).more ae.size);have aP:=La ae bJ.out;have aU:=zH aP;have dq:=ae.size;have q4:=za aP 4 rfl;have q5:=za aP 5 rfl
 by_cases h1:tE=0
 case neg=>
  have hR:=zH (ay.out h1);go_wp2_with fail;go_ret;exact⟨zc hR.out.symm,B2.out⟩
 case pos=>
 subst h1;have F2:=zH (am.out (by simp));have F3:=zH (az.out (by simp));have F4:=zH (cz.out (by simp));have F5:=zH (eR.out (by simp));go_wp2_with fail;refine(HD.out w2 dc.out).mono ?_;rintro e w3 ⟨rfl,ap⟩;have B3:=zH (B2.out.trans (ap.mono (by omega)));have aP:=La ap aU.out;have q0:=za aP 0 rfl;have q4:=za aP 4 rfl;have q6:=za aP 6 rfl;clear ap aP HD q5
 by_cases h2:aE=0
 case neg=>
  have hR:=zH (F2.out h2);have e0:(aE != 0)=Av:=by simpa using h2
  clear F2 F3 F4 F5 h2;go_wp2_with fail;go_ret;exact⟨zc hR.out.symm,B3.out⟩
 case pos=>
 subst h2;clear F2;have G3:=zH (F3.out (by simp));have G4:=zH (F4.out (by simp));have G5:=zH (F5.out (by simp));clear F3 F4 F5
 by_cases h3:p.t.n=p.a.n
 case neg=>
  have hR:=zH (G3.out h3);have e0:(p.t.n != p.a.n)=Av:=by simpa using h3
  clear G3 G4 G5;go_wp2_with fail
  all_goals
   go_ret;exact⟨zc hR.out.symm,B3.out⟩
 case pos=>
 have K4:=zH (G4.out h3);have K5:=zH (G5.out h3);rw[h3] at q0
 by_cases h4:p.k<0\/6<p.k
 . have hR:=zH (K4.out h4)
   by_cases h5:p.k<0
   . clear h4
     go_wp2_with fail
     all_goals first | (exfalso;omega) | skip
     go_ret;exact⟨zc hR.out.symm,B3.out⟩
   have h6:6<p.k:=by omega
   go_wp2_with fail
   all_goals first | (exfalso;omega) | skip
   go_ret;exact⟨zc hR.out.symm,B3.out⟩
 have hR:=zH (K5.out h4);have h5:¬p.k<0:=by omega
 have h6:¬6<p.k:=by omega
 go_wp2_with fail
 all_goals first | (exfalso;omega) | skip
 go_ret;exact⟨zc hR.out.symm,B3.out⟩
theorem vP(p:Pb)(hf:ZI p)(A:Bb)(kc:Nat)(SV:Bb)(ks:Nat)(w:Ba)(hA:CAt w w.heap.size A p.t.cases)(hS:SAt w w.heap.size SV p.a.sts) :
  Ap An 93 #[.agg (p.vs A kc SV ks)] w fun e w'=>e=Am (O U (zz p))/\Ao w.heap.size w w':=by
 have HT:=zH (fun (w':Ba) (h:CAt w' w'.heap.size A p.t.cases)=>Z0 p.t A kc hf.1 w' h);have HD:=zH (fun (w':Ba) (h:SAt w' w'.heap.size SV p.a.sts)=>Ya p.a hf.2 SV ks w' h);have ay:=zH (@jn p);have am:=zH (@ve p);have az:=zH (@Zp p);have cz:=zH (@Zq p);have eR:=zH (@Ye p);obtain⟨E,hE⟩:=Kh (zz p);rw[hE] at ay am az cz eR ⊢;obtain⟨tE,FR⟩:=Kh (yE p.t);rw[FR] at ay am az cz eR HT;obtain⟨aE,G9⟩:=Kh (xy p.a);rw[G9] at am az cz eR HD;unfold Pb.vs;obtain⟨w1,ag⟩:=Kh (w.alloc (Ah (p.vs A kc SV ks) 29));have aI:=zg w (Ah (p.vs A kc SV ks) 29);have an:Ao w.heap.size w w1:=by rw[<-ag];exact zt w _
 have ch:w1.heap.size=w.heap.size+1:=by rw[<-ag];simp
 rw[ag] at aI;unfold Pb.vs at ag aI;have bJ:=zH aI;have aY:=zH an;have HA:=zH ((hA.keep an).more (by omega:w.heap.size<=w1.heap.size));have HS:=zH ((hS.keep an).more (by omega:w.heap.size<=w1.heap.size));have al:=zH ag;have q0:=za aI 0 rfl;clear hA hS ag an aI;go_enter func93,ntmps93;go_wp2_with fail;rw[al.out];go_wp2_with fail;refine(HT.out w1 HA.out).mono ?_;rintro e w2 ⟨rfl,ae⟩;have B2:=zH (aY.out.trans (ae.mono (by omega)));have dc:=zH ((HS.out.keep ae).more ae.size);have aP:=La ae bJ.out;have aU:=zH aP;have dq:=ae.size;have q4:=za aP 4 rfl;have q5:=za aP 5 rfl
 by_cases h1:tE=0
 case neg=>
  have hR:=zH (ay.out h1);go_wp2_with fail;go_ret;exact⟨zc hR.out.symm,B2.out⟩
 case pos=>
 subst h1;have F2:=zH (am.out (by simp));have F3:=zH (az.out (by simp));have F4:=zH (cz.out (by simp));have F5:=zH (eR.out (by simp));go_wp2_with fail;refine(HD.out w2 dc.out).mono ?_;rintro e w3 ⟨rfl,ap⟩;have B3:=zH (B2.out.trans (ap.mono (by omega)));have aP:=La ap aU.out;have q0:=za aP 0 rfl;have q4:=za aP 4 rfl;have q6:=za aP 6 rfl;clear ap aP HD q5
 by_cases h2:aE=0
 case neg=>
  have hR:=zH (F2.out h2);have e0:(aE != 0)=Av:=by simpa using h2
  clear F2 F3 F4 F5 h2;go_wp2_with fail;go_ret;exact⟨zc hR.out.symm,B3.out⟩
 case pos=>
 subst h2;clear F2;have G3:=zH (F3.out (by simp));have G4:=zH (F4.out (by simp));have G5:=zH (F5.out (by simp));clear F3 F4 F5
 by_cases h3:p.t.n=p.a.n
 case neg=>
  have hR:=zH (G3.out h3);have e0:(p.t.n != p.a.n)=Av:=by simpa using h3
  clear G3 G4 G5;go_wp2_with fail
  all_goals
   go_ret;exact⟨zc hR.out.symm,B3.out⟩
 case pos=>
 have K4:=zH (G4.out h3);have K5:=zH (G5.out h3);rw[h3] at q0
 by_cases h4:p.k<0\/6<p.k
 . have hR:=zH (K4.out h4)
   by_cases h5:p.k<0
   . clear h4
     go_wp2_with fail
     all_goals first | (exfalso;omega) | skip
     go_ret;exact⟨zc hR.out.symm,B3.out⟩
   have h6:6<p.k:=by omega
   go_wp2_with fail
   all_goals first | (exfalso;omega) | skip
   go_ret;exact⟨zc hR.out.symm,B3.out⟩
 have hR:=zH (K5.out h4);have h5:¬p.k<0:=by omega
 have h6:¬6<p.k:=by omega
 go_wp2_with fail
 all_goals first | (exfalso;omega) | skip
 go_ret;exact⟨zc hR.out.symm,B3.out⟩
def wV(p:Pb):Prop:=LowT p.t/\LowA p.a
theorem pb_eq{a b:Pb}(h1:a.t=b.t)(h2:a.a=b.a)(h3:a.k=b.k):a=b:=by cases a;cases b;simp_all
theorem Y8(a b:Pb)(ha:wV a)(hb:wV b)(A B SA SB:Bb)(ca cb sa sb:Nat)(w:Ba)(hA:CAt w w.heap.size A a.t.cases)(hB:CAt w w.heap.size B b.t.cases)(EO:SAt w w.heap.size SA a.a.sts)(CN:SAt w w.heap.size SB b.a.sts) :
  Ap An 96 #[.agg (a.vs A ca SA sa),.agg (b.vs B cb SB sb)] w fun e w'=>e=Am (Ai (decide (a=b)))/\Ao w.heap.size w w':=by
 obtain⟨w1,ag,d0,d1,bq,hBw⟩:=zZ w (a.vs A ca SA sa) (b.vs B cb SB sb) 29 29;have rj:=zH (Y6 a.t b.t ha.1 hb.1 A B ca cb w1 ((hA.keep hBw).more hBw.size) ((hB.keep hBw).more hBw.size));have KH:=zH (fun (W:Ba) (hW:Ao w1.heap.size w1 W)=>Y9 a.a b.a ha.2 hb.2 SA SB sa sb W ((((EO.keep hBw).more hBw.size).keep hW).more hW.size) ((((CN.keep hBw).more hBw.size).keep hW).more hW.size));unfold Pb.vs at ag d0 d1 ⊢;have bh:=zH hBw;have bn:=zH d0;have bN:=zH d1;have al:=zH ag;have q2:=za d1 2 rfl;have q3:=za d1 3 rfl;have q6:=za d1 6 rfl;clear ag d0 d1 hBw hA hB EO CN ha hb;have HT:As (a≠b->decide (a=b)=Ax):=fun h=>Ll h
 have HU:As (a=b->decide (a=b)=Av):=fun h=>Lm h
 obtain⟨r,hr⟩:∃r,decide (a=b)=r:=⟨_,rfl⟩;rw[hr] at HT HU ⊢;clear hr;have HE:=zH (@pb_eq a b);go_enter func96,ntmps96
 by_cases h1:a.k=b.k
 case neg=>
  have hR:=zH (HT.out (fun h=>h1 (congrArg Pb.k h)));have e0:(a.k==b.k)=Ax:=by simpa using h1
  clear HT HU HE h1 rj KH;go_wp2_with fail;rw[al.out];go_wp2_with fail
  all_goals
   go_ret;exact⟨ze hR.out.symm,bh.out⟩
 case pos=>
 have e0:(a.k==b.k)=Av:=by simpa using h1
 have am:As (a.t=b.t->a.a=b.a->a=b):=fun x y=>HE.out x y h1
 clear HE h1;have h1:=rj
 by_cases h2:a.t=b.t
 case neg=>
  have hR:=zH (HT.out (fun h=>h2 (congrArg Pb.t h)));rw[Ll h2] at h1;clear HT HU am h2 rj KH;go_wp2_with fail;rw[al.out];go_wp2_with fail;refine h1.out.mono ?_;rintro e w2 ⟨rfl,ae⟩;go_wp2_with fail;go_ret;exact⟨ze hR.out.symm,Lc bh.out ae⟩
 case pos=>
 rw[Lm h2] at h1;have az:As (a.a=b.a->a=b):=fun y=>am.out h2 y
 clear am rj h2;go_wp2_with fail;rw[al.out];go_wp2_with fail;refine h1.out.mono ?_;rintro e w2 ⟨rfl,ae⟩;have d0:=La ae bn.out;have d1:=La ae bN.out;have p4:=za d0 4 rfl;have p5:=za d0 5 rfl;have q4:=za d1 4 rfl;have q5:=za d1 5 rfl;have HC:=zH (KH.out w2 ae);have aU:=zH (Lc bh.out ae);go_wp2_with fail;refine HC.out.mono ?_;rintro e w3 ⟨rfl,ap⟩;have bE:=zH (Lc aU.out ap)
 have hR:As (decide (a.a=b.a)=r):=by
  by_cases h3:a.a=b.a
  . show _=_;rw[Lm h3,HU.out (az.out h3)]
  show _=_;rw[Ll h3,HT.out (fun h=>h3 (congrArg Pb.a h))]
 go_wp2_with fail;go_ret;exact⟨ze hR.out,bE.out⟩
def ZH(x:Exn):Prop:=x.word.length<=17592186044416/\x.views.length<=17592186044416/\∀v∈x.views,v.length<=17592186044416
theorem exn_eq{x y:Exn}(h1:x.c=y.c)(h2:x.word=y.word)(h3:x.views=y.views):x=y:=by cases x;cases y;simp_all
theorem Y5(x y:Exn)(hx:ZH x)(hy:ZH y)(A1 A2 B1 B2:Bb)(a1 a2 b1 b2:Nat)(w:Ba)(eP:RAt w w.heap.size A1 x.word)(CY:LAt w w.heap.size A2 x.views)(aw:RAt w w.heap.size B1 y.word)(aO:LAt w w.heap.size B2 y.views) :
  Ap An 98 #[Aj #[O U x.c,I A1 x.word.length a1,I A2 x.views.length a2],Aj #[O U y.c,I B1 y.word.length b1,I B2 y.views.length b2]] w fun e w'=>e=Am (Ai (decide (x=y)))/\Ao w.heap.size w w':=by
 obtain⟨mi,Ea,Mh⟩:=hx;obtain⟨FH,FG,Mf⟩:=hy;have ie:=zH Mh;have iI:=zH Mf;obtain⟨w1,ag,d0,d1,bq,hB⟩:=zZ w #[O U x.c,I A1 x.word.length a1,I A2 x.views.length a2] #[O U y.c,I B1 y.word.length b1,I B2 y.views.length b2] 42 42;have HS:=zH (uj A1 B1 a1 b1 x.word y.word mi FH w1 ((eP.keep hB).more hB.size) ((aw.keep hB).more hB.size));have AP:=zH ((CY.keep hB).more hB.size);have tl:=zH ((aO.keep hB).more hB.size);have bh:=zH hB;have bn:=zH d0;have bN:=zH d1;have al:=zH ag;have p0:=za d0 0 rfl;have p2:=za d0 2 rfl;have q1:=za d1 1 rfl;have q2:=za d1 2 rfl;clear ag d0 d1 hB eP CY aw aO Mh Mf;have HT:As (x≠y->decide (x=y)=Ax):=fun h=>Ll h
 have HU:As (x=y->decide (x=y)=Av):=fun h=>Lm h
 obtain⟨r,hr⟩:∃r,decide (x=y)=r:=⟨_,rfl⟩;rw[hr] at HT HU ⊢;clear hr;go_enter func98,ntmps98
 by_cases h1:x.c=y.c
 case neg=>
  have hR:=zH (HT.out (fun h=>h1 (congrArg Exn.c h)));have e0:(x.c != y.c)=Av:=by simpa using h1
  clear HT HU HS;go_wp2_with fail;rw[al.out];go_wp2_with fail
  all_goals
   go_ret;exact⟨ze hR.out.symm,bh.out⟩
 case pos=>
 have H1:=zH h1;rw[h1] at p0 al bn;clear h1;go_wp2_with fail;rw[al.out];go_wp2_with fail;refine HS.out.mono ?_;rintro e w2 ⟨rfl,m,cx⟩;have ae:Ao w1.heap.size w1 w2:=by rw[cx];exact zu (Lp _ _) m
 have aU:=zH ae;have p2:=za (La ae bn.out) 2 rfl;have q2:=za (La ae bN.out) 2 rfl;clear ae cx HS al q1 p0
 by_cases h2:x.word=y.word
 case neg=>
  have hR:=zH (HT.out (fun h=>h2 (congrArg Exn.word h)));rw[Ll h2];clear HT HU;go_wp2_with fail;go_ret;exact⟨ze hR.out.symm,Lc bh.out aU.out⟩
 case pos=>
 have H2:=zH h2;rw[Lm h2];clear h2
 by_cases h3:x.views.length=y.views.length
 case neg=>
  have hR:=zH (HT.out (fun h=>h3 (by rw[h])));have e0:((x.views.length:Int) != (y.views.length:Int))=Av:=by simp;omega
  have e1:¬((x.views.length:Int)=(y.views.length:Int)):=by omega
  clear HT HU h3;go_wp2_with fail;go_ret;exact⟨ze hR.out.symm,Lc bh.out aU.out⟩
 case pos=>
 have HL:=zH h3;have H3:As (x.views=y.views->r=Av):=fun h=>HU.out (exn_eq H1.out H2.out h)
 have H4:As (x.views≠y.views->r=Ax):=fun h=>HT.out (fun e=>h (congrArg Exn.views e))
 rw[<-h3] at q2 FG;clear HT HU h3;go_wp2_with fail;clear p2 q2
 go_loopw [5] (fun i wr=>∃k:Nat,k<=x.views.length/\i=O U (k:Int)/\As (x.views.take k=y.views.take k)/\As (Ao w1.heap.size w1 wr)) (fun i _=>x.views.length-(Aq i).toNat)
 case atStart=>exact⟨0,by omega,rfl,by rw[As,LO,LO],aU⟩
 obtain⟨k,hk,rfl,hp,hb⟩:=hrel;have p2:=za (La hb.out bn.out) 2 rfl;have q2:=za (La hb.out bN.out) 2 rfl;have Kl:=HL.out;rw[<-HL.out] at q2
 by_cases ac:k<x.views.length
 case neg=>
  obtain rfl:k=x.views.length:=by omega
  have hR:=zH (H3.out (xK HL.out hp.out));go_wp2_with fail;go_ret;exact⟨ze hR.out.symm,Lc bh.out hb.out⟩
 case pos=>
 have dL:k<y.views.length:=by omega
 obtain⟨ba,oa,A',k1,ea,_,a0,IA⟩:=(AP.out.keep hb.out).at_ k ac;obtain⟨bb,ob,B',k2,eb,_,b0,IB⟩:=(tl.out.keep hb.out).at_ k dL;subst ea;subst eb;have dE:=ie.out _ (Ld ac);have cO:=iI.out _ (Ld dL);have hc:=fun (p:Nat)=>gc A' B' k1 k2 x.views[k] y.views[k] dE cO (wr.drewN p) (IA.more hb.out.size) (IB.more hb.out.size)
 have h0:As (x.views[k]=y.views[k]->x.views.take (k+1)=y.views.take (k+1)):=fun he=>yG hp.out ac dL he
 have hN:As (x.views[k]≠y.views[k]->r=Ax):=fun he=>H4.out (fun h=>he (by simp only[h]))
 by_cases he:x.views[k]=y.views[k]
 . have hR:=zH (h0.out he)
   rw[Lm he] at hc;obtain⟨la,sj⟩:=Kh (x.views[k].length);obtain⟨lb,nx⟩:=Kh (y.views[k].length);rw[sj] at a0 hc dE;rw[nx] at b0 hc cO;have HC:=zH hc;go_wp2_with fail;go_quiet ((go_at_call 130;first | exact zJ (HC.out _) | exact Ni (HC.out _)));go_wp2_with fail
   go_roundw
   case rel=>exact⟨k+1,by omega,by go_num,hR,zu hb.out _⟩
   simp[Aq];omega
 have hR:=zH (hN.out he);rw[Ll he] at hc;obtain⟨la,sj⟩:=Kh (x.views[k].length);obtain⟨lb,nx⟩:=Kh (y.views[k].length);rw[sj] at a0 hc dE;rw[nx] at b0 hc cO;have HC:=zH hc;go_wp2_with fail;go_quiet ((go_at_call 130;first | exact zJ (HC.out _) | exact Ni (HC.out _)));go_wp2_with fail;go_ret;exact⟨ze hR.out.symm,zu (Lc bh.out hb.out) _⟩
end
section
def yD(f:Nat->Int):Nat->Int
 | 0=>0
 | k+1=>if yD f k=0 then f k else yD f k
theorem kL{f:Nat->Int}{k:Nat}(h:yD f k=0):yD f (k+1)=f k:=by simp[yD,h]
theorem JK{f:Nat->Int}{k:Nat}(h:yD f k≠0):∀m,k<=m->yD f m=yD f k:=by
 intro m hm
 induction m with
 | zero => obtain rfl : k = 0 := by omega
           rfl
 | succ m ih=>
  by_cases e:k=m+1
  . subst e;rfl
  . have:=ih (by omega)
    simp only[yD];rw[Lj (by rw[this];exact h),this]
theorem kk{f:Nat->Int}{k m:Nat}(h:yD f k=0)(hf:f k≠0)(hm:k<m):yD f m=f k:=by
 have h1:=kL h;rw[JK (k:=k+1) (by rw[h1];exact hf) m (by omega),h1]
theorem qG{f:Nat->Int}:∀ {m:Nat},yD f m=0↔∀k,k<m->f k=0
 | 0=>by simp[yD]
 | m+1=>by
  have ih:=qG (f:=f) (m:=m);simp only[yD];constructor
  . intro h k hk
    by_cases e:yD f m=0
    . rw[Ln e] at h
      by_cases ek:k=m
      . subst ek;exact h
      . exact ih.1 e k (by omega)
    . rw[Lj e] at h;exact absurd h e
  . intro h
    have e:yD f m=0:=ih.2 fun k hk=>h k (by omega)
    rw[Ln e];exact h m (by omega)
def zv(vs:List Vw)(i:Nat):Vw:=vs.getD i default
theorem kK{vs:List Vw}{i:Nat}(h:i<vs.length):zv vs i=vs[i]:=by simp[zv,h]
theorem gQ{vs:List Vw}{i k:Nat}(h:i<k):zv (vs.take k) i=zv vs i:=by
 unfold zv;rw[Lf,Lf,Rp,Ln h]
def ku(n:Int)(v:Vw)(q:Nat):Bool:=decide (v.h q≠-1/\(v.r=0\/n<=(q:Int)))
def xv(n:Int)(v:Vw):Bool:=decide (v.p<0\/n<=v.p\/v.r<0\/6<v.r\/(v.r=0/\(v.i<0\/8<=v.i)))
def xd(n:Int)(v:Vw):Int:=
 if xv n v=Av then 2 else if 0<v.r/\v.i≠0 then 3 else if (List.range 5).any (ku n v)=Av then 3 else 0
def yu(vs:List Vw)(v:Vw)(q:Nat):Int:=
 if v.h q=-1 then 0 else if v.h q<0\/(vs.length:Int)<=v.h q then 6
 else if (zv vs (v.h q).toNat).p≠(q:Int)\/(zv vs (v.h q).toNat).r≠v.r-1 then 22 else 0
def zY(v:Vw):List Nat:=(yy v).map fun x=>x.2.toNat
theorem wg{v:Vw}{c:Nat}:c∈zY v↔0<v.r/\∃q:Nat,q<5/\0<=v.h q/\c=(v.h q).toNat:=by
 unfold zY;rw[LG];constructor
 . rintro⟨x,hx,rfl⟩
   obtain⟨hr,q,hq,rfl,h0⟩:=qg.1 hx;exact⟨hr,q,hq,h0,rfl⟩
 rintro⟨hr,q,hq,h0,rfl⟩;exact⟨_,qg.2 ⟨hr,q,hq,rfl,h0⟩,rfl⟩
def qd(vs:List Vw):Nat->Nat->Nat->Bool
 | 0,i,x=>x==i
 | f+1,i,x=>x==i||(zY (zv vs i)).any fun c=>qd vs f c x
def qW(vs:List Vw)(i x:Nat):Bool:=qd vs vs.length i x
def qX(vs:List Vw)(l:List Nat):List Nat:=(List.range vs.length).filter fun x=>l.any fun c=>qW vs c x
def gY(vs:List Vw)(a b:Nat):Bool:=decide ((zv vs a).p=(zv vs b).p/\(zv vs a).r=(zv vs b).r)
def jQ(vs:List Vw):List Nat->Bool
 | []=>Av
 | a::l=>(l.all fun b=>!gY vs a b)&&jQ vs l
def zU(n:Int)(vs:List Vw)(v:Vw):Int:=
 if xd n v≠0\/v.r=0 then xd n v
 else if yD (yu vs v) 5≠0 then yD (yu vs v) 5
 else if v.h v.p.toNat=-1 then 20
 else if jQ vs (qX vs (zY v))=Av then 0 else 22
def j9(n:Int)(vs:List Vw)(k:Nat):Int:=
 if zU n (vs.take k) (zv vs k)≠0 then zU n (vs.take k) (zv vs k) else if zv vs k∈vs.take k then 7 else 0
def yt(n:Int)(vs:List Vw):Int:=if n<1\/5<n then 1 else if 8192<vs.length then 5 else yD (j9 n vs) vs.length
def wW(vs:List Vw):Prop:=∀i,i<vs.length->∀c,c∈zY (zv vs i)->c<i
def Wf(n:Int)(vs:List Vw):Prop:=1<=n/\n<=5/\∀k,k<vs.length->j9 n vs k=0
theorem jT{n:Int}{v:Vw}(h:xd n v=0):0<=v.p/\v.p<n/\0<=v.r/\v.r<=6/\(v.r=0->0<=v.i/\v.i<8)/\(0<v.r->v.i=0)/\∀q,q<5->v.h q≠-1->v.r≠0/\(q:Int)<n:=by
 unfold xd at h
 split at h
 . cases h
 rename_i h1
 split at h
 . cases h
 rename_i h2
 split at h
 . cases h
 rename_i h3;simp only[xv,decide_eq_true_eq] at h1;simp only[List.any_eq_true,List.mem_range,ku,decide_eq_true_eq,not_exists] at h3;refine⟨by omega,by omega,by omega,by omega,fun e=>by omega,fun e=>by omega,fun q hq hh=>?_⟩;have:=h3 q;constructor
 . intro e;exact this ⟨hq,hh,.inl e⟩
 have h4:¬n<=(q:Int):=fun e=>this ⟨hq,hh,.inr e⟩
 omega
theorem kM{n:Int}{vs:List Vw}{v:Vw}(h:zU n vs v=0):xd n v=0/\(v.r≠0->(∀q,q<5->yu vs v q=0)/\v.h v.p.toNat≠-1/\jQ vs (qX vs (zY v))=Av):=by
 unfold zU at h
 split at h
 . rename_i h1
   refine⟨h,fun hr=>?_⟩;rcases h1 with h1 | h1
   . exact absurd h h1
   exact absurd h1 hr
 rename_i h1
 split at h
 . rename_i h2;exact absurd h h2
 rename_i h2
 split at h
 . cases h
 rename_i h3
 split at h
 . rename_i h4
   exact⟨by omega,fun _=>⟨qG.1 (by omega),h3,h4⟩⟩
 cases h
theorem wj{vs:List Vw}{v:Vw}{q:Nat}(h:yu vs v q=0)(h1:v.h q≠-1):0<=v.h q/\(v.h q).toNat<vs.length/\(zv vs (v.h q).toNat).p=(q:Int)/\(zv vs (v.h q).toNat).r=v.r-1:=by
 unfold yu at h;rw[Lj h1] at h
 split at h
 . cases h
 split at h
 . cases h
 omega
theorem Zm{n:Int}{vs:List Vw}{k:Nat}(h:j9 n vs k=0):zU n (vs.take k) (zv vs k)=0/\zv vs k∉vs.take k:=by
 unfold j9 at h
 split at h
 . rename_i h1;exact absurd h h1
 rename_i h1
 split at h
 . cases h
 rename_i h2;exact⟨by omega,h2⟩
theorem kid_ok{n:Int}{vs:List Vw}{v:Vw}{c:Nat}(h:zU n vs v=0)(hc:c∈zY v):c<vs.length/\(zv vs c).r=v.r-1:=by
 obtain⟨hr,q,hq,h0,rfl⟩:=wg.1 hc;obtain⟨_,h2⟩:=kM h;have:=wj ((h2 (by omega)).1 q hq) (by omega);exact⟨this.2.1,this.2.2.2⟩
theorem Wf.acyc{n:Int}{vs:List Vw}(h:Wf n vs):wW vs:=fun i hi c hc=>by
 have:=(kid_ok (Zm (h.2.2 i hi)).1 hc).1;simp at this;omega
theorem Jj{n:Int}{vs:List Vw}{k m:Nat}(h:k<m):j9 n (vs.take m) k=j9 n vs k:=by
 unfold j9;rw[gQ h,RQ,show min k m=k from by omega]
theorem Wf.of_CheckE{n:Int}{vs:List Vw}(h:yt n vs=0):Wf n vs/\vs.length<=8192:=by
 unfold yt at h
 split at h
 . cases h
 split at h
 . cases h
 exact⟨⟨by omega,by omega,qG.1 h⟩,by omega⟩
theorem Z8{vs:List Vw}(ha:wW vs):∀(i f g x:Nat),i<vs.length->i<=f->i<=g->qd vs f i x=qd vs g i x:=by
 intro i
 induction i using Nat.strongRecOn with
 | _ i ih=>
  intro f g x hi hf hg
  have key:∀f,i<=f->qd vs f i x=(x==i||(zY (zv vs i)).any fun c=>qd vs c c x):=by
   intro f hf
   cases f with
   | zero=>
    have hk:zY (zv vs i)=[]:=by
     rw[List.eq_nil_iff_forall_not_mem];intro c hc;have:=ha i hi c hc;omega
    simp[qd,hk]
   | succ f=>
    simp only[qd]
    congr 1
    rw[Nq,NL,NL];constructor
    . rintro⟨c,hc,h⟩
      have:=ha i hi c hc;exact⟨c,hc,by rw[ih c this c f x (by omega) (by omega) (by omega)];exact h⟩
    . rintro⟨c,hc,h⟩
      have:=ha i hi c hc;exact⟨c,hc,by rw[ih c this f c x (by omega) (by omega) (by omega)];exact h⟩
  rw[key f hf,key g hg]
theorem kE{vs:List Vw}(ha:wW vs){i x:Nat}(hi:i<vs.length):qW vs i x=Av↔x=i\/∃c,c∈zY (zv vs i)/\qW vs c x=Av:=by
 have h1:qW vs i x=qd vs (vs.length+1) i x:=Z8 ha i _ _ x hi (by omega) (by omega);rw[h1];simp only[qd,Bool.or_eq_true,beq_iff_eq,List.any_eq_true]
 rfl
theorem uT(vs:List Vw)(i:Nat):qW vs i i=Av:=by
 unfold qW
 cases vs.length<;>simp[qd]
theorem Xe{vs:List Vw}(ha:wW vs):∀ {i x c:Nat},i<vs.length->qW vs i x=Av->c∈zY (zv vs x)->qW vs i c=Av:=by
 intro i
 induction i using Nat.strongRecOn with
 | _ i ih=>
  intro x c hi h hc;rcases(kE ha hi).1 h with rfl | ⟨d,hd,h'⟩
  . exact(kE ha hi).2 (.inr ⟨c,hc,uT vs c⟩)
  . have:=ha i hi d hd
    exact(kE ha hi).2 (.inr ⟨d,hd,ih d this (by omega) h' hc⟩)
theorem Zo{vs:List Vw}(ha:wW vs){S:Nat->Prop}(hS:∀i,i<vs.length->S i->∀c,c∈zY (zv vs i)->S c):∀ {i x:Nat},i<vs.length->S i->qW vs i x=Av->S x:=by
 intro i
 induction i using Nat.strongRecOn with
 | _ i ih=>
  intro x hi hs h;rcases(kE ha hi).1 h with rfl | ⟨d,hd,h'⟩
  . exact hs
  . have:=ha i hi d hd
    exact ih d this (by omega) (hS i hi hs d hd) h'
theorem Jz{vs:List Vw}{l:List Nat}{x:Nat}:x∈qX vs l↔x<vs.length/\∃c,c∈l/\qW vs c x=Av:=by
 simp[qX]
end
end Go.Proofs.YtkledihebeidlaaGreatDoor
