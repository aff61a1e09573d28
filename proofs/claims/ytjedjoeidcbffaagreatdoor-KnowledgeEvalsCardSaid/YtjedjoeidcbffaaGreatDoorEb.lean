/- Merged. -/
import Derived.Test.YtjedjoeidcbffaaGreatDoorEa
import Derived.Deep.RegionHeld3
import Derived.Deep.DeepCutAuto
import Derived.StillTailTactics
import Derived.RangeFuncNested
import Derived.RangeFuncBound
import Derived.RangeFuncCalls
import Derived.RangeFuncLeaves
import Derived.Shelf.Abstract
import Derived.Shelf.RegionOpen
import Derived.OwnWalkIn
import Derived.TacticsInMore
import Derived.LoopNIn
import Derived.LoopIn
open Go.Proofs.Tryz
open Go.Value renaming int->O,slice->I,bool->Aj,agg->Ak,pointer->Al
open Go.IntKind renaming i64->U
open Option renaming none->Z,some->J
open Go.Obj renaming cells->Ai
open Go.Ending renaming returned->Am
open Go.Proofs.Tryz renaming prog->Aq,func200->Sj
open Go.RowKit renaming Below->Ar,intOf->Au,Hid->Aw
open Go renaming Calls->As,Value->Ax,wpIn_wide->Sq
open Bool renaming true->AA,false->AC,false_and->Pf
open Go.Calls renaming quiet_of->NA
open Go.World renaming putObj_heap_other->Px
namespace Go.Proofs.YtjedjoeidcbffaaGreatDoor
abbrev Lz:=@Nat.le_trans
abbrev Pe:=@List.mem_iff_getElem
abbrev R5:=@beq_eq_false_iff_ne
abbrev Lh:=@Go.RowKit.Below.heap_setCell
abbrev R8:=@Go.cells_of_cell
abbrev LH:=@Go.World.cell?_of_block
abbrev PQ:=@List.nodup_cons
abbrev Se:=@Go.callsIn_wide
abbrev LL:=@List.mem_cons
abbrev LM:=@List.map_append
abbrev P4:=@List.map_map
abbrev Rz:=@List.flatten_cons
abbrev LJ:=@List.length_map
abbrev LE:=@List.length_cons
abbrev Nq:=@List.nil_append
abbrev Ns:=@List.cons_append
abbrev Lw:=@List.length_append
abbrev Nn:=@List.append_assoc
abbrev SI:=@Array.getElem?_eq_getElem
abbrev LG:=@Go.bodyPost_ret
abbrev Sd:=@Go.results_none
abbrev PG:=@Array.getElem?_modify
abbrev L4:=@List.mem_singleton
abbrev Nj:=@Go.grownBy_keeps_cells
abbrev Pg:=@Go.Proofs.enters_of
abbrev NI:=@List.mem_flatten
abbrev LZ:=@List.mem_map
abbrev P8:=@List.take_append_drop
abbrev PD:=@Nat.zero_mul
abbrev NS:=@Nat.add_zero
abbrev Lo:=@Int.toNat_natCast
abbrev Lk:=@List.getD_eq_getElem?_getD
abbrev Ln:=@List.getElem?_eq_getElem
abbrev NU:=@List.getElem?_take
abbrev Su:=@List.eq_nil_iff_forall_not_mem
abbrev NO:=@List.idxOf_append
abbrev Nd:=@List.take_of_length_le
set_option maxRecDepth 100000
set_option maxHeartbeats 16000000
section
open Go.RowKit
theorem vW{P:Program}{f:FuncId}{args:Array Ax}{W:Ba}{q a:Nat}{v:Ax}(h:As P f args (W.drewN (q+a)) fun e w'=>e=Am v/\w'=W.drewN (q+a)):As P f args (W.drewN (q+a)) fun e w'=>e=Am v/\∃n,w'=W.drewN (q+n):=
 h.mono fun _ _ ⟨h1,h2⟩=>⟨h1,a,h2⟩
theorem yy{P:Program}{f:FuncId}{args:Array Ax}{W:Ba}{q a:Nat}{v:Ax}(h:As P f args (W.drewN (q+a)) fun e w'=>e=Am v/\∃n,w'=(W.drewN (q+a)).drewN n):As P f args (W.drewN (q+a)) fun e w'=>e=Am v/\∃n,w'=W.drewN (q+n):=
 h.mono fun _ _ ⟨h1,n,h2⟩=>⟨h1,a+n,by rw[h2,Rr,PF]⟩
theorem rone_any(t:Tk)(A:Bb)(kc:Nat)(hf:FewT t)(i:Nat)(hi:i<t.cases.length)(w:Ba)(hA:CAt w w.heap.size A t.cases) :
  As Aq 122 #[Ak #[O U t.n,O U t.ins,O U t.outs,I A t.cases.length kc],O U i] w fun e w'=>e=Am (O U (qS t (zM t.cases i) t.cases[i]))/\Ar w.heap.size w w':=by
 obtain⟨ly,ny⟩:=hf;have nH:=zH ny;have sm:=zH (@QT t (zM t.cases i) t.cases[i]);have cm:=zH (@ZN t (zM t.cases i) t.cases[i]);have fI:=zH (@QU t (zM t.cases i) t.cases[i]);obtain⟨E,hE⟩:=Ki (qS t (zM t.cases i) t.cases[i]);rw[hE] at sm cm fI ⊢;obtain⟨n,ins,m,cs⟩:=t;dsimp only at ly nH sm cm fI hA hi ⊢;obtain⟨b,o,A0,k0,A1,k1,A2,k2,e,lz,c0,c1,c2,I0,I1,I2⟩:=hA.row i hi;obtain⟨f0,⟨f1,f2⟩,f3,f4⟩:=ny _ (Ld hi);obtain⟨bo,dF⟩:=Ki (qO ((zM cs i).map Cs.inp) cs[i].inp);have cx:=zH dF;rw[dF] at cm fI;have az:=zH (@ZJ n m cs[i]);have au:=zH (@Xs n m cs[i]);have aN:=zH (@ZK n m cs[i]);obtain⟨x,hx⟩:=Ki (cs[i]);have HX:=zH hx;rw[hx] at c0 c1 c2 I0 I1 I2 f0 f1 f2 f3 f4 sm cm fI az au aN;obtain⟨xi,xo,xc⟩:=x;dsimp only at c0 c1 c2 I0 I1 I2 f0 f1 f2 f3 f4 sm cm fI az au aN;obtain⟨ev,cW⟩:=Ki (zR xi n ins);rw[cW] at sm cm fI;have mq:=zH f2;have Dh:=zH f4;obtain⟨W1,eO,b0,b1,aX,bP⟩:=tboxes w #[O U n,O U ins,O U m,I A cs.length kc] #[I A0 xi.length k0,I A1 xo.length k1,I A2 xc.length k2] 24 87;have cu:=zH bP;have H0:=zH ((I0.keep bP).more (show w.heap.size<=W1.heap.size by omega));have H1:=zH ((I1.keep bP).more (show w.heap.size<=W1.heap.size by omega));have H2:=zH ((I2.keep bP).more (show w.heap.size<=W1.heap.size by omega));have Oh:=zH ((hA.keep bP).more (show w.heap.size<=W1.heap.size by omega));have Eh:=zH (vi A0 k0 xi n ins (by omega) W1 H0.out);rw[cW] at Eh;subst e
 have sP:=zH b0;have G':=zH b1;have nf:=zH eO;clear hE dF hx cW f2 f4 hA ny I0 I1 I2 eO bP b0 b1 aX;go_enter func122,ntmps122;go_wp2_with fail;rw[nf.out];obtain⟨q0,q1,q2,q3,_⟩:=Kb sP.out;obtain⟨p0,p1,p2,_⟩:=Kc G'.out;have VO:=cu.out.size;clear nf c0 c1 c2;refine Eh.out.mono ?_;rintro e w' ⟨rfl,lX⟩;obtain rfl:W1=w':=lX.symm;clear Eh
 by_cases cW:ev=0
 case neg=>
  have hd:=zH (sm.out cW);have e0:(ev != 0)=AA:=by simpa using cW
  clear sm cm fI az au aN cW cx HX;go_wp2_with fail;go_ret;exact⟨zm hd.out.symm,cu.out⟩
 case pos=>
 subst cW;clear sm
 cases i with
 | zero=>
  obtain rfl:bo=AC:=by rw[<-cx.out];rfl
  have g0:decide ((0:Int)<0)=AC:=by decide
  clear cx HX;go_wp2_with fail;go_quiet (fail);have dD:=zH (fI.out (by simp) (by simp));clear cm fI
  by_cases hz:xo.length<1
  . have hR:=zH (dD.out.trans (az.out hz))
    clear dD az au aN;go_wp2_with fail
    all_goals first | (exfalso;omega) | skip
    go_ret;exact⟨zm hR.out.symm,by repeat (first | exact cu.out | refine zP ?_ _)⟩
  have cO:¬((xo.length:Int)<1):=by omega
  have au:=zH (fun h=>dD.out.trans (au.out (by omega) (by omega) h));have aN:=zH (fun h=>dD.out.trans (aN.out (by omega) (by omega) h));clear az dD;obtain⟨F,hF⟩:∃F,kV (fun v=>zR v n m) xo=F:=⟨_,rfl⟩;have HF:Aw (F=xf (fun v=>zR v n m) xo 0):=by rw[qx];exact hF.symm
  rw[hF] at au aN;clear hF;go_wp2_with fail
  all_goals first | (exfalso;omega) | skip
  go_loopw [7] (fun i wr=>∃k q:Nat,k<=xo.length/\i=O U (k:Int)/\Aw (F=xf (fun v=>zR v n m) xo k)/\wr=W1.drewN q) (fun i _=>xo.length-(Au i).toNat)
  case atStart=>exact⟨0,_,by omega,rfl,HF,rfl⟩
  case round=>
   obtain⟨k,q,hk,rfl,aC,rfl⟩:=hrel;clear HF
   by_cases aa:k<xo.length
   . obtain⟨b,o,A3,k3,rfl,hb,c3,I3⟩:=H1.out.at_ k aa
     have l3:=mq.out _ (Ld aa);have Ce:=zH I3;have aT:=zH (@qU (fun v=>zR v n m) xo k aa);have cm:=zH (@qe (fun v=>zR v n m) xo k aa);have bh:=zH (@kQ (fun v=>zR v n m) xo k aa);have HV:=zH (fun (p:Nat)=>vi A3 k3 xo[k] n m (by omega) (W1.drewN p) I3);obtain⟨bo,dF⟩:=Ki (qO (zM xo k) xo[k]);have cx:=zH dF;rw[dF] at cm bh;obtain⟨v,hv⟩:=Ki (xo[k]);have HX:=zH hv;rw[hv] at c3 Ce l3 aT cm bh HV;obtain⟨ev,cW⟩:=Ki (zR v n m);rw[cW] at aT cm bh HV;obtain⟨vl,dI⟩:=Ki v.length;have fW:=zH dI;rw[dI] at c3 l3 HV;clear hv dF cW dI I3
     by_cases he:ev=0
     case neg=>
      have hR:=zH (aC.out.trans (aT.out he));have HR:=zH ((au.out (by rw[hR.out];exact he)).trans hR.out);clear aC cm bh aT au aN cx HX fW;have e0:(ev != 0)=AA:=by simpa using he
      clear he;go_wp2_with fail;go_quiet ((go_at_call 158;exact vW (HV.out _)));go_wp2_with fail;go_ret;exact⟨zm HR.out.symm,by repeat (first | exact cu.out | refine zP ?_ _)⟩
     case pos=>
     subst he;clear aT;go_wp2_with fail;go_quiet ((go_at_call 158;exact vW (HV.out _)));clear HV;have iH:k<=30:=by omega
     cases k with
     | zero=>
      obtain rfl:bo=AC:=by rw[<-cx.out];rfl
      have g0:decide ((0:Int)<0)=AC:=by decide
      clear cx HX fW;go_wp2_with fail;go_quiet (fail);have hR:=zH (aC.out.trans (bh.out (by simp) (by simp)));clear aC cm bh;go_wp2_with fail
      go_roundw
      case rel=>exact⟨0+1,_,by omega,by go_num,hR,rfl⟩
      case measure=>simp[Au];omega
     | succ j=>
      have hj:j<xo.length:=by omega
      have cV:qO (zM xo (j+1)) xo[j+1]=decide (0<=zJ xo[j] xo[j+1]):=by rw[yM xo j hj];rfl
      obtain⟨b',o',CF,tJ,e',_,u0,U0⟩:=H1.out.at_ j hj
      cases e'
      have Bc:=mq.out _ (Ld hj);rw[HX.out] at cV;have hc:=fun (p:Nat)=>xY CF A3 tJ k3 xo[j] v (by omega) (by rw[<-HX.out];have:=mq.out _ (Ld aa);omega) (W1.drewN p) U0 Ce.out
      rw[show qO (zM xo (j+1)) v=bo by have:=cx.out;rwa[HX.out] at this] at cV;obtain⟨r,hr⟩:=Ki (zJ xo[j] v);rw[hr] at cV hc;have dZ:=zH cV;obtain⟨nl,eN⟩:=Ki (xo[j].length);rw[eN] at u0 hc Bc;rw[fW.out] at hc;have HC:=zH hc;clear cV hc hr eN U0 cx HX fW;have g1:((j:Int)+1).toNat=j+1:=by omega
      have g3:IntKind.i64.wrap ((j:Int)+1-1)=(j:Int):=by rw[Ls];omega
      have g5:IntKind.i64.wrap ((j:Int)+1)=(j:Int)+1:=by rw[Ls];omega
      have g6:decide ((0:Int)<(j:Int)+1)=AA:=Lm (by omega)
      cases bo with
      | true=>
       have g7:decide (0<=r)=AA:=dZ.out.symm;have g8:0<=r:=LR g7;clear dZ;go_wp2_with fail;go_quiet ((go_at_call 159;first | exact yy (HC.out _) | exact NA (HC.out _)));clear HC g1 g3 g5 g6 u0;have hR:=zH (aC.out.trans (cm.out (by simp) (by simp)));have dk:=zH ((au.out (by rw[hR.out];decide)).trans hR.out);clear aC cm bh au aN;go_wp2_with fail;go_ret;exact⟨zm dk.out.symm,by repeat (first | exact cu.out | refine zP ?_ _)⟩
      | false=>
       have g7:decide (0<=r)=AC:=dZ.out.symm;have g8:¬0<=r:=N6 g7;clear dZ;go_wp2_with fail;go_quiet ((go_at_call 159;first | exact yy (HC.out _) | exact NA (HC.out _)));clear HC g1 g3 g5 g6 u0;have hR:=zH (aC.out.trans (bh.out (by simp) (by simp)));clear aC cm bh;go_wp2_with fail
       go_roundw
       case rel=>exact⟨j+1+1,_,by omega,by go_num,hR,rfl⟩
       case measure=>simp[Au];omega
   . obtain rfl:k=xo.length:=by omega
     have hR:=zH (aC.out.trans qT);have HR:=zH (aN.out hR.out);clear aC au aN hR;go_wp2_with fail;obtain⟨G,hG⟩:=Ki (kV (kD xo) xc);have HG:Aw (G=xf (kD xo) xc 0):=by rw[qx];exact hG.symm
     rw[hG] at HR;clear hG
     go_loopw [9] (fun i wr=>∃k q:Nat,k<=xc.length/\i=O U (k:Int)/\Aw (G=xf (kD xo) xc k)/\wr=W1.drewN q) (fun i _=>xc.length-(Au i).toNat)
     case atStart=>exact⟨0,_,by omega,rfl,HG,rfl⟩
     case round=>
      obtain⟨k,q,hk,rfl,aC,rfl⟩:=hrel;clear HG
      by_cases aa:k<xc.length
      . obtain⟨b,o,A3,k3,rfl,hb,c3,I3⟩:=H2.out.at_ k aa
        have l3:=Dh.out _ (Ld aa);have Ce:=zH I3;have aT:=zH (@qU (kD xo) xc k aa);have cm:=zH (@qe (kD xo) xc k aa);have bh:=zH (@kQ (kD xo) xc k aa);have HV:=zH (fun (p:Nat)=>rhas_any A1 k1 xo A3 k3 xc[k] (by omega) (fun v hv=>by have:=mq.out v hv;omega) (by omega) (W1.drewN p) H1.out I3);have mf:Aw (∀v,kD xo v=if v∈xo then 0 else 6):=fun _=>rfl
        obtain⟨bo,dF⟩:=Ki (qO (zM xc k) xc[k]);have cx:=zH dF;rw[dF] at cm bh;obtain⟨v,hv⟩:=Ki (xc[k]);have HX:=zH hv;rw[hv] at c3 Ce l3 aT cm bh HV;have mf:=zH (mf.out v);obtain⟨ev,cW⟩:=Ki (kD xo v);rw[cW] at aT cm bh mf;obtain⟨vl,dI⟩:=Ki v.length;have fW:=zH dI;rw[dI] at c3 l3 HV;clear hv dF cW dI I3
        by_cases hm:v∈xo
        case neg=>
         have he:ev=6:=mf.out.trans (Lg hm);subst he;rw[Lj hm] at HV;have hR:=zH (aC.out.trans (aT.out (by decide)));have dk:=zH (HR.out.trans hR.out);clear aC cm bh aT hm mf HR cx HX fW;go_wp2_with fail;go_quiet ((go_at_call 160;exact yy (HV.out _)));go_wp2_with fail;go_ret;exact⟨zm dk.out.symm,by repeat (first | exact cu.out | refine zP ?_ _)⟩
        case pos=>
        have he:ev=0:=mf.out.trans (Li hm);subst he;rw[Lm hm] at HV;clear aT hm mf;go_wp2_with fail;go_quiet ((go_at_call 160;exact yy (HV.out _)));clear HV;have iH:k<=30:=by omega
        cases k with
        | zero=>
         obtain rfl:bo=AC:=by rw[<-cx.out];rfl
         have g0:decide ((0:Int)<0)=AC:=by decide
         clear cx HX fW;go_wp2_with fail;go_quiet (fail);have hR:=zH (aC.out.trans (bh.out (by simp) (by simp)));clear aC cm bh;go_wp2_with fail
         go_roundw
         case rel=>exact⟨0+1,_,by omega,by go_num,hR,rfl⟩
         case measure=>simp[Au];omega
        | succ j=>
         have hj:j<xc.length:=by omega
         have cV:qO (zM xc (j+1)) xc[j+1]=decide (0<=zJ xc[j] xc[j+1]):=by rw[yM xc j hj];rfl
         obtain⟨b',o',CF,tJ,e',_,u0,U0⟩:=H2.out.at_ j hj
         cases e'
         have Bc:=Dh.out _ (Ld hj);rw[HX.out] at cV;have hc:=fun (p:Nat)=>xY CF A3 tJ k3 xc[j] v (by omega) (by rw[<-HX.out];have:=Dh.out _ (Ld aa);omega) (W1.drewN p) U0 Ce.out
         rw[show qO (zM xc (j+1)) v=bo by have:=cx.out;rwa[HX.out] at this] at cV;obtain⟨r,hr⟩:=Ki (zJ xc[j] v);rw[hr] at cV hc;have dZ:=zH cV;obtain⟨nl,eN⟩:=Ki (xc[j].length);rw[eN] at u0 hc Bc;rw[fW.out] at hc;have HC:=zH hc;clear cV hc hr eN U0 cx HX fW;have g1:((j:Int)+1).toNat=j+1:=by omega
         have g3:IntKind.i64.wrap ((j:Int)+1-1)=(j:Int):=by rw[Ls];omega
         have g5:IntKind.i64.wrap ((j:Int)+1)=(j:Int)+1:=by rw[Ls];omega
         have g6:decide ((0:Int)<(j:Int)+1)=AA:=Lm (by omega)
         cases bo with
         | true=>
          have g7:decide (0<=r)=AA:=dZ.out.symm;have g8:0<=r:=LR g7;clear dZ;go_wp2_with fail;go_quiet ((go_at_call 159;first | exact yy (HC.out _) | exact NA (HC.out _)));clear HC g1 g3 g5 g6 u0;have hR:=zH (aC.out.trans (cm.out (by simp) (by simp)));have dk:=zH (HR.out.trans hR.out);clear aC cm bh HR;go_wp2_with fail;go_ret;exact⟨zm dk.out.symm,by repeat (first | exact cu.out | refine zP ?_ _)⟩
         | false=>
          have g7:decide (0<=r)=AC:=dZ.out.symm;have g8:¬0<=r:=N6 g7;clear dZ;go_wp2_with fail;go_quiet ((go_at_call 159;first | exact yy (HC.out _) | exact NA (HC.out _)));clear HC g1 g3 g5 g6 u0;have hR:=zH (aC.out.trans (bh.out (by simp) (by simp)));clear aC cm bh;go_wp2_with fail
          go_roundw
          case rel=>exact⟨j+1+1,_,by omega,by go_num,hR,rfl⟩
          case measure=>simp[Au];omega
      . obtain rfl:k=xc.length:=by omega
        have hR:=zH (aC.out.trans qT);have dk:=zH (HR.out.trans hR.out);clear aC HR hR;go_wp2_with fail;go_ret;exact⟨zm dk.out.symm,by repeat (first | exact cu.out | refine zP ?_ _)⟩
 | succ j=>
  have hj:j<cs.length:=by omega
  have cV:qO ((zM cs (j+1)).map Cs.inp) cs[j+1].inp=decide (0<=zJ cs[j].inp cs[j+1].inp):=by rw[yM cs j hj];rfl
  obtain⟨b',o',CF,tJ,_,_,_,_,e',_,u0,_,_,U0,_,_⟩:=Oh.out.row j hj
  cases e'
  obtain⟨Bc,_,_⟩:=nH.out _ (Ld hj);rw[HX.out] at cV;have hc:=fun (p:Nat)=>xY CF A0 tJ k0 cs[j].inp xi (by omega) (by omega) (W1.drewN p) U0 H0.out
  rw[show qO ((zM cs (j+1)).map Cs.inp) xi=bo by have:=cx.out;rwa[HX.out] at this] at cV;obtain⟨r,hr⟩:=Ki (zJ cs[j].inp xi);rw[hr] at cV hc;have dZ:=zH cV;obtain⟨nl,eN⟩:=Ki (cs[j].inp.length);rw[eN] at u0 hc Bc;have HC:=zH hc;clear cV hc hr eN U0 cx HX;have g1:((j:Int)+1).toNat=j+1:=by omega
  have g3:IntKind.i64.wrap ((j:Int)+1-1)=(j:Int):=by rw[Ls];omega
  have g5:IntKind.i64.wrap ((j:Int)+1)=(j:Int)+1:=by rw[Ls];omega
  have g6:decide ((0:Int)<(j:Int)+1)=AA:=Lm (by omega)
  cases bo with
  | true=>
   have g7:decide (0<=r)=AA:=dZ.out.symm;have g8:0<=r:=LR g7;clear dZ;go_wp2_with fail;go_quiet ((go_at_call 159;first | exact yy (HC.out _) | exact NA (HC.out _)));clear HC g1 g3 g5 g6 u0;have hd:=zH (cm.out (by simp) (by simp));clear cm fI az au aN;go_wp2_with fail;go_ret;exact⟨zm hd.out.symm,by repeat (first | exact cu.out | refine zP ?_ _)⟩
  | false=>
   have g7:decide (0<=r)=AC:=dZ.out.symm;have g8:¬0<=r:=N6 g7;clear dZ;go_wp2_with fail;go_quiet ((go_at_call 159;first | exact yy (HC.out _) | exact NA (HC.out _)));clear HC g1 g3 g5 g6 u0;have dD:=zH (fI.out (by simp) (by simp));clear cm fI
   by_cases hz:xo.length<1
   . have hR:=zH (dD.out.trans (az.out hz))
     clear dD az au aN;go_wp2_with fail
     all_goals first | (exfalso;omega) | skip
     go_ret;exact⟨zm hR.out.symm,by repeat (first | exact cu.out | refine zP ?_ _)⟩
   have cO:¬((xo.length:Int)<1):=by omega
   have au:=zH (fun h=>dD.out.trans (au.out (by omega) (by omega) h));have aN:=zH (fun h=>dD.out.trans (aN.out (by omega) (by omega) h));clear az dD;obtain⟨F,hF⟩:∃F,kV (fun v=>zR v n m) xo=F:=⟨_,rfl⟩;have HF:Aw (F=xf (fun v=>zR v n m) xo 0):=by rw[qx];exact hF.symm
   rw[hF] at au aN;clear hF;go_wp2_with fail
   all_goals first | (exfalso;omega) | skip
   go_loopw [7] (fun i wr=>∃k q:Nat,k<=xo.length/\i=O U (k:Int)/\Aw (F=xf (fun v=>zR v n m) xo k)/\wr=W1.drewN q) (fun i _=>xo.length-(Au i).toNat)
   case atStart=>exact⟨0,_,by omega,rfl,HF,rfl⟩
   case round=>
    obtain⟨k,q,hk,rfl,aC,rfl⟩:=hrel;clear HF
    by_cases aa:k<xo.length
    . obtain⟨b,o,A3,k3,rfl,hb,c3,I3⟩:=H1.out.at_ k aa
      have l3:=mq.out _ (Ld aa);have Ce:=zH I3;have aT:=zH (@qU (fun v=>zR v n m) xo k aa);have cm:=zH (@qe (fun v=>zR v n m) xo k aa);have bh:=zH (@kQ (fun v=>zR v n m) xo k aa);have HV:=zH (fun (p:Nat)=>vi A3 k3 xo[k] n m (by omega) (W1.drewN p) I3);obtain⟨bo,dF⟩:=Ki (qO (zM xo k) xo[k]);have cx:=zH dF;rw[dF] at cm bh;obtain⟨v,hv⟩:=Ki (xo[k]);have HX:=zH hv;rw[hv] at c3 Ce l3 aT cm bh HV;obtain⟨ev,cW⟩:=Ki (zR v n m);rw[cW] at aT cm bh HV;obtain⟨vl,dI⟩:=Ki v.length;have fW:=zH dI;rw[dI] at c3 l3 HV;clear hv dF cW dI I3
      by_cases he:ev=0
      case neg=>
       have hR:=zH (aC.out.trans (aT.out he));have HR:=zH ((au.out (by rw[hR.out];exact he)).trans hR.out);clear aC cm bh aT au aN cx HX fW;have e0:(ev != 0)=AA:=by simpa using he
       clear he;go_wp2_with fail;go_quiet ((go_at_call 158;exact vW (HV.out _)));go_wp2_with fail;go_ret;exact⟨zm HR.out.symm,by repeat (first | exact cu.out | refine zP ?_ _)⟩
      case pos=>
      subst he;clear aT;go_wp2_with fail;go_quiet ((go_at_call 158;exact vW (HV.out _)));clear HV;have iH:k<=30:=by omega
      cases k with
      | zero=>
       obtain rfl:bo=AC:=by rw[<-cx.out];rfl
       have g0:decide ((0:Int)<0)=AC:=by decide
       clear cx HX fW;go_wp2_with fail;go_quiet (fail);have hR:=zH (aC.out.trans (bh.out (by simp) (by simp)));clear aC cm bh;go_wp2_with fail
       go_roundw
       case rel=>exact⟨0+1,_,by omega,by go_num,hR,rfl⟩
       case measure=>simp[Au];omega
      | succ j=>
       have hj:j<xo.length:=by omega
       have cV:qO (zM xo (j+1)) xo[j+1]=decide (0<=zJ xo[j] xo[j+1]):=by rw[yM xo j hj];rfl
       obtain⟨b',o',CF,tJ,e',_,u0,U0⟩:=H1.out.at_ j hj
       cases e'
       have Bc:=mq.out _ (Ld hj);rw[HX.out] at cV;have hc:=fun (p:Nat)=>xY CF A3 tJ k3 xo[j] v (by omega) (by rw[<-HX.out];have:=mq.out _ (Ld aa);omega) (W1.drewN p) U0 Ce.out
       rw[show qO (zM xo (j+1)) v=bo by have:=cx.out;rwa[HX.out] at this] at cV;obtain⟨r,hr⟩:=Ki (zJ xo[j] v);rw[hr] at cV hc;have dZ:=zH cV;obtain⟨nl,eN⟩:=Ki (xo[j].length);rw[eN] at u0 hc Bc;rw[fW.out] at hc;have HC:=zH hc;clear cV hc hr eN U0 cx HX fW;have g1:((j:Int)+1).toNat=j+1:=by omega
       have g3:IntKind.i64.wrap ((j:Int)+1-1)=(j:Int):=by rw[Ls];omega
       have g5:IntKind.i64.wrap ((j:Int)+1)=(j:Int)+1:=by rw[Ls];omega
       have g6:decide ((0:Int)<(j:Int)+1)=AA:=Lm (by omega)
       cases bo with
       | true=>
        have g7:decide (0<=r)=AA:=dZ.out.symm;have g8:0<=r:=LR g7;clear dZ;go_wp2_with fail;go_quiet ((go_at_call 159;first | exact yy (HC.out _) | exact NA (HC.out _)));clear HC g1 g3 g5 g6 u0;have hR:=zH (aC.out.trans (cm.out (by simp) (by simp)));have dk:=zH ((au.out (by rw[hR.out];decide)).trans hR.out);clear aC cm bh au aN;go_wp2_with fail;go_ret;exact⟨zm dk.out.symm,by repeat (first | exact cu.out | refine zP ?_ _)⟩
       | false=>
        have g7:decide (0<=r)=AC:=dZ.out.symm;have g8:¬0<=r:=N6 g7;clear dZ;go_wp2_with fail;go_quiet ((go_at_call 159;first | exact yy (HC.out _) | exact NA (HC.out _)));clear HC g1 g3 g5 g6 u0;have hR:=zH (aC.out.trans (bh.out (by simp) (by simp)));clear aC cm bh;go_wp2_with fail
        go_roundw
        case rel=>exact⟨j+1+1,_,by omega,by go_num,hR,rfl⟩
        case measure=>simp[Au];omega
    . obtain rfl:k=xo.length:=by omega
      have hR:=zH (aC.out.trans qT);have HR:=zH (aN.out hR.out);clear aC au aN hR;go_wp2_with fail;obtain⟨G,hG⟩:=Ki (kV (kD xo) xc);have HG:Aw (G=xf (kD xo) xc 0):=by rw[qx];exact hG.symm
      rw[hG] at HR;clear hG
      go_loopw [9] (fun i wr=>∃k q:Nat,k<=xc.length/\i=O U (k:Int)/\Aw (G=xf (kD xo) xc k)/\wr=W1.drewN q) (fun i _=>xc.length-(Au i).toNat)
      case atStart=>exact⟨0,_,by omega,rfl,HG,rfl⟩
      case round=>
       obtain⟨k,q,hk,rfl,aC,rfl⟩:=hrel;clear HG
       by_cases aa:k<xc.length
       . obtain⟨b,o,A3,k3,rfl,hb,c3,I3⟩:=H2.out.at_ k aa
         have l3:=Dh.out _ (Ld aa);have Ce:=zH I3;have aT:=zH (@qU (kD xo) xc k aa);have cm:=zH (@qe (kD xo) xc k aa);have bh:=zH (@kQ (kD xo) xc k aa);have HV:=zH (fun (p:Nat)=>rhas_any A1 k1 xo A3 k3 xc[k] (by omega) (fun v hv=>by have:=mq.out v hv;omega) (by omega) (W1.drewN p) H1.out I3);have mf:Aw (∀v,kD xo v=if v∈xo then 0 else 6):=fun _=>rfl
         obtain⟨bo,dF⟩:=Ki (qO (zM xc k) xc[k]);have cx:=zH dF;rw[dF] at cm bh;obtain⟨v,hv⟩:=Ki (xc[k]);have HX:=zH hv;rw[hv] at c3 Ce l3 aT cm bh HV;have mf:=zH (mf.out v);obtain⟨ev,cW⟩:=Ki (kD xo v);rw[cW] at aT cm bh mf;obtain⟨vl,dI⟩:=Ki v.length;have fW:=zH dI;rw[dI] at c3 l3 HV;clear hv dF cW dI I3
         by_cases hm:v∈xo
         case neg=>
          have he:ev=6:=mf.out.trans (Lg hm);subst he;rw[Lj hm] at HV;have hR:=zH (aC.out.trans (aT.out (by decide)));have dk:=zH (HR.out.trans hR.out);clear aC cm bh aT hm mf HR cx HX fW;go_wp2_with fail;go_quiet ((go_at_call 160;exact yy (HV.out _)));go_wp2_with fail;go_ret;exact⟨zm dk.out.symm,by repeat (first | exact cu.out | refine zP ?_ _)⟩
         case pos=>
         have he:ev=0:=mf.out.trans (Li hm);subst he;rw[Lm hm] at HV;clear aT hm mf;go_wp2_with fail;go_quiet ((go_at_call 160;exact yy (HV.out _)));clear HV;have iH:k<=30:=by omega
         cases k with
         | zero=>
          obtain rfl:bo=AC:=by rw[<-cx.out];rfl
          have g0:decide ((0:Int)<0)=AC:=by decide
          clear cx HX fW;go_wp2_with fail;go_quiet (fail);have hR:=zH (aC.out.trans (bh.out (by simp) (by simp)));clear aC cm bh;go_wp2_with fail
          go_roundw
          case rel=>exact⟨0+1,_,by omega,by go_num,hR,rfl⟩
          case measure=>simp[Au];omega
         | succ j=>
          have hj:j<xc.length:=by omega
          have cV:qO (zM xc (j+1)) xc[j+1]=decide (0<=zJ xc[j] xc[j+1]):=by rw[yM xc j hj];rfl
          obtain⟨b',o',CF,tJ,e',_,u0,U0⟩:=H2.out.at_ j hj
          cases e'
          have Bc:=Dh.out _ (Ld hj);rw[HX.out] at cV;have hc:=fun (p:Nat)=>xY CF A3 tJ k3 xc[j] v (by omega) (by rw[<-HX.out];have:=Dh.out _ (Ld aa);omega) (W1.drewN p) U0 Ce.out
          rw[show qO (zM xc (j+1)) v=bo by have:=cx.out;rwa[HX.out] at this] at cV;obtain⟨r,hr⟩:=Ki (zJ xc[j] v);rw[hr] at cV hc;have dZ:=zH cV;obtain⟨nl,eN⟩:=Ki (xc[j].length);rw[eN] at u0 hc Bc;rw[fW.out] at hc;have HC:=zH hc;clear cV hc hr eN U0 cx HX fW;have g1:((j:Int)+1).toNat=j+1:=by omega
          have g3:IntKind.i64.wrap ((j:Int)+1-1)=(j:Int):=by rw[Ls];omega
          have g5:IntKind.i64.wrap ((j:Int)+1)=(j:Int)+1:=by rw[Ls];omega
          have g6:decide ((0:Int)<(j:Int)+1)=AA:=Lm (by omega)
          cases bo with
          | true=>
           have g7:decide (0<=r)=AA:=dZ.out.symm;have g8:0<=r:=LR g7;clear dZ;go_wp2_with fail;go_quiet ((go_at_call 159;first | exact yy (HC.out _) | exact NA (HC.out _)));clear HC g1 g3 g5 g6 u0;have hR:=zH (aC.out.trans (cm.out (by simp) (by simp)));have dk:=zH (HR.out.trans hR.out);clear aC cm bh HR;go_wp2_with fail;go_ret;exact⟨zm dk.out.symm,by repeat (first | exact cu.out | refine zP ?_ _)⟩
          | false=>
           have g7:decide (0<=r)=AC:=dZ.out.symm;have g8:¬0<=r:=N6 g7;clear dZ;go_wp2_with fail;go_quiet ((go_at_call 159;first | exact yy (HC.out _) | exact NA (HC.out _)));clear HC g1 g3 g5 g6 u0;have hR:=zH (aC.out.trans (bh.out (by simp) (by simp)));clear aC cm bh;go_wp2_with fail
           go_roundw
           case rel=>exact⟨j+1+1,_,by omega,by go_num,hR,rfl⟩
           case measure=>simp[Au];omega
       . obtain rfl:k=xc.length:=by omega
         have hR:=zH (aC.out.trans qT);have dk:=zH (HR.out.trans hR.out);clear aC HR hR;go_wp2_with fail;go_ret;exact⟨zm dk.out.symm,by repeat (first | exact cu.out | refine zP ?_ _)⟩
end
section
open Go.RowKit
attribute [local go_sem] Oper.semAt_some
theorem uv(A B:Bb)(ca cb:Nat)(xs ys:List (List Int))(hx:xs.length<=17592186044416)(_TL:ys.length<=17592186044416)(ed:∀v∈xs,v.length<=17592186044416)(fY:∀v∈ys,v.length<=17592186044416)(w:Ba)(hA:LAt w w.heap.size A xs)(hB:LAt w w.heap.size B ys) :
  As Aq 188 #[I A xs.length ca,I B ys.length cb] w fun e w'=>e=Am (Aj (decide (xs=ys)))/\∃n,w'=w.drewN n:=by
 have HXL:=zH ed;have WS:=zH fY;have HA:=zH hA;have HB:=zH hB;have HT:Aw (∀b,(xs=ys↔b=AA)->decide (xs=ys)=b):=fun b h=>by cases b<;>simp_all
 obtain⟨r,hr⟩:∃r,decide (xs=ys)=r:=⟨_,rfl⟩;rw[hr] at HT ⊢;go_enter func188,ntmps188
 by_cases hl:xs.length=ys.length
 case neg=>
  have hR:Aw (r=AC):=HT.out AC ⟨fun h=>absurd (congrArg List.length h) hl,fun h=>by cases h⟩;have e0:((xs.length:Int) != (ys.length:Int))=AA:=by simp;omega
  go_wp2_with fail;go_ret;exact⟨zn hR.out.symm,0,rfl⟩
 case pos=>
 have HL:=zH hl;rw[<-hl] at _TL ⊢;go_wp2_with fail
 go_loopw [5] (fun i wr=>∃k n:Nat,k<=xs.length/\i=O U (k:Int)/\Aw (xs.take k=ys.take k)/\Aw (wr=w.drewN n)) (fun i _=>xs.length-(Au i).toNat)
 case atStart=>exact⟨0,0,by omega,rfl,by rw[Aw,L1,L1],rfl⟩
 obtain⟨k,n,hk,rfl,hp,hw⟩:=hrel
 by_cases aa:k<xs.length
 case neg=>
  obtain rfl:k=xs.length:=by omega
  have hR:Aw (r=AA):=HT.out AA ⟨fun _=>rfl,fun _=>ku HL.out hp.out⟩;go_wp2_with fail;go_ret;exact⟨zn hR.out.symm,n,hw.out⟩
 case pos=>
 have lp:k<ys.length:=by have:=HL.out;omega
 obtain⟨ba,oa,A1,k1,ea,_,a0,IA⟩:=(HA.out).at_ k aa;obtain⟨bb,ob,A2,k2,eb,_,b0,IB⟩:=(HB.out).at_ k lp;subst ea;subst eb;have nz:Aw (∀p,wr.cell? p=w.cell? p):=fun p=>by rw[hw.out];rfl
 rw[<-nz.out] at a0 b0;have lK:=HXL.out _ (Ld aa);have mu:=WS.out _ (Ld lp);have hc:=fun (p:Nat)=>xY A1 A2 k1 k2 xs[k] ys[k] lK mu (wr.drewN p) (by rw[hw.out];exact IA) (by rw[hw.out];exact IB)
 by_cases he:xs[k]=ys[k]
 . have hR:=zH (xO hp.out aa lp he)
   have hz:zJ xs[k] ys[k]=0:=by rw[he];exact xZ _
   rw[hz] at hc;obtain⟨la,sA⟩:=Ki (xs[k].length);obtain⟨lb,oE⟩:=Ki (ys[k].length);rw[sA] at a0 hc lK;rw[oE] at b0 hc mu;have HC:=zH hc;go_wp2_with fail;go_quiet ((go_at_call 159;first | exact yy (HC.out _) | exact NA (HC.out _)));go_wp2_with fail
   go_roundw
   case rel=>exact⟨k+1,n+nq,by omega,by go_num,hR,by rw[Aw,hw.out,je]⟩
   simp[Au];omega
 have hR:Aw (r=AC):=HT.out AC ⟨fun h=>absurd (by subst h;rfl) he,fun h=>by cases h⟩;have hz:zJ xs[k] ys[k]≠0:=fun h=>he (kB h)
 obtain⟨z,hze⟩:=Ki (zJ xs[k] ys[k]);rw[hze] at hz hc;obtain⟨la,sA⟩:=Ki (xs[k].length);obtain⟨lb,oE⟩:=Ki (ys[k].length);rw[sA] at a0 hc lK;rw[oE] at b0 hc mu;have HC:=zH hc;have e0:(z != 0)=AA:=by simpa using hz
 go_wp2_with fail;go_quiet ((go_at_call 159;first | exact yy (HC.out _) | exact NA (HC.out _)));go_wp2_with fail;go_ret;exact⟨zn hR.out.symm,n+nq,by rw[hw.out,je]⟩
end
section
open Go.RowKit
theorem rtcheck_any(t:Tk)(A:Bb)(kc:Nat)(hf:FewT t)(w:Ba)(hA:CAt w w.heap.size A t.cases) :
  As Aq 74 #[Ak #[O U t.n,O U t.ins,O U t.outs,I A t.cases.length kc]] w fun e w'=>e=Am (O U (xD t))/\Ar w.heap.size w w':=by
 have Ck:=zH (fun (i:Nat) (hi:i<t.cases.length) (w':Ba) (h:CAt w' w'.heap.size A t.cases)=>rone_any t A kc hf i hi w' h);obtain⟨ly,ny⟩:=hf;have HA:=zH hA;have az:=zH (@Zi t);have au:=zH (@Yk t);have aN:=zH (@Zj t);obtain⟨E,hE⟩:=Ki (xD t);rw[hE] at az au aN ⊢
 by_cases hr:t.n<1\/5<t.n\/t.ins<1\/8<t.ins\/t.outs<1\/8<t.outs
 . have HR:=zH (az.out hr)
   obtain⟨cv,rf⟩:=Ki (I A t.cases.length kc);rw[rf];have HN:=zH hr;obtain⟨n,ins,outs,cases⟩:=t;dsimp only at HN ⊢;clear az au aN rf hA ny HA hE hr Ck ly;go_enter func74,ntmps74;go_wp2_with fail
   all_goals first | (exfalso;have:=HN.out;omega) | (go_ret;exact⟨zm HR.out.symm,ye w _⟩)
 have r1:¬t.n<1:=by omega
 have r2:¬5<t.n:=by omega
 have r3:¬t.ins<1:=by omega
 have r4:¬8<t.ins:=by omega
 have r5:¬t.outs<1:=by omega
 have r6:¬8<t.outs:=by omega
 have au:=zH (au.out hr);have du:=zH (aN.out hr);clear hr az hE hA ny aN
 by_cases hz:t.cases.length<1
 . have HR:=zH (au.out hz)
   obtain⟨n,ins,outs,cases⟩:=t;dsimp only at ly r1 r2 r3 r4 r5 r6 hz ⊢;clear au du HA Ck;go_enter func74,ntmps74;go_wp2_with fail
   all_goals first | (exfalso;omega) | skip
   go_ret;exact⟨zm HR.out.symm,ye w _⟩
 have cO:¬((t.cases.length:Int)<1):=by omega
 have aN:=zH (du.out (by omega) (by omega));clear au hz du;have aT:=zH (fun k h=>@ZM t t.cases k h);have bh:=zH (fun k h=>@Xt t t.cases k h);have hen:=zH (@ZL t t.cases);obtain⟨cg,hcg⟩:∃cg:Nat->Int,(fun k=>xS t t.cases k)=cg:=⟨_,rfl⟩;have SK:∀k,xS t t.cases k=cg k:=fun k=>congrFun hcg k
 obtain⟨cE,hcE⟩:∃cE:(k:Nat)->k<t.cases.length->Int,(fun k h=>qS t (zM t.cases k) t.cases[k])=cE:=⟨_,rfl⟩;have SL:∀k h,qS t (zM t.cases k) t.cases[k]=cE k h:=fun k h=>congrFun (congrFun hcE k) h
 simp only[SK,SL] at aT bh hen aN Ck;clear hcg SK hcE SL;obtain⟨n,ins,outs,cs⟩:=t;dsimp only at ly r1 r2 r3 r4 r5 r6 cO HA aN Ck cE aT bh hen ⊢;go_enter func74,ntmps74;go_wp2_with fail
 all_goals first | (exfalso;omega) | skip
 obtain⟨W0,dN,b0,aX,ce⟩:∃W0,w.alloc (Ai #[O U n,O U ins,O U outs,I A cs.length kc] 24)=W0/\W0.heap[w.heap.size]?=J (Ai #[O U n,O U ins,O U outs,I A cs.length kc] 24 (0,0))/\w.heap.size+1<=W0.heap.size/\Ar w.heap.size w W0:=
  ⟨_,rfl,zy _ _,by simp,ye w _⟩
 rw[dN];have iZ:=zH ce;have sP:=zH b0;clear dN ce b0
 go_loopw [3] (fun i wr=>∃k:Nat,k<=cs.length/\i=O U (k:Int)/\Aw (E=cg k)/\Ar W0.heap.size W0 wr) (fun i _=>cs.length-(Au i).toNat)
 case atStart=>exact⟨0,by omega,rfl,aN,Ll _ _⟩
 obtain⟨k,hk,rfl,aC,aL⟩:=hrel;have dE:=zH (Lc iZ.out aL);have HW:=zH aL;have d0:=Lb aL (by omega) sP.out;obtain⟨q0,q1,q2,q3,_⟩:=Kb d0
 by_cases aa:k<cs.length
 . have HC:=zH (fun (w':Ba) (h:CAt w' w'.heap.size A cs)=>Ck.out k aa w' h)
   have aT:=zH (aT.out k aa);have bh:=zH (bh.out k aa);obtain⟨ev,cW⟩:=Ki (cE k aa);rw[cW] at HC aT bh;have HAr:=zH ((HA.out.keep dE.out).more dE.out.size);go_wp2_with fail;refine(HC.out _ HAr.out).mono ?_;rintro e w1 ⟨rfl,aq⟩;have li:=zH (Lc dE.out aq);have CE:=zH (Lc HW.out aq);clear aq HC
   by_cases he:ev=0
   . subst he
     have hR:=zH (aC.out.trans (bh.out (by simp)));clear aC aT bh;go_wp2_with fail
     go_roundw
     case rel=>exact⟨k+1,by omega,by go_num,hR,CE.out⟩
     simp[Au];omega
   have hR:=zH (aC.out.trans (aT.out he));have e0:(ev != 0)=AA:=by simpa using he
   clear aC aT bh he;go_wp2_with fail;go_ret;exact⟨zm hR.out.symm,li.out⟩
 obtain rfl:k=cs.length:=by omega
 have HR:=zH (aC.out.trans hen.out);clear aC;go_wp2_with fail;go_ret;exact⟨zm HR.out.symm,dE.out⟩
def vH(t:Tk):Bool:=decide (t.cases.length<=30)&&t.cases.all fun c=>decide (c.inp.length<=10)&&vG c.out 30&&vG c.calm 30
theorem fewl_iff{l:List (List Int)}:vG l 30=AA↔FewL l:=by
 unfold vG FewL;simp
theorem fewT_iff{t:Tk}:vH t=AA↔FewT t:=by
 unfold vH FewT FewC;simp only[Bool.and_eq_true,decide_eq_true_eq,List.all_eq_true,fewl_iff,and_assoc]
end
section
open Go.RowKit
attribute [local go_sem] Oper.semAt_some
def okC(c:Cs):Bool:=decide (c.inp.length<=10)&&vG c.out 30&&vG c.calm 30
theorem fewTB_eq(t:Tk):vH t=(decide (t.cases.length<=30)&&t.cases.all okC):=rfl
def LowC(c:Cs):Prop:=c.inp.length<=17592186044416/\c.out.length<=17592186044416/\c.calm.length<=17592186044416/\(∀v∈c.out,v.length<=17592186044416)/\∀v∈c.calm,v.length<=17592186044416
theorem rfewT_any(t:Tk)(A:Bb)(kc:Nat)(hl:t.cases.length<=17592186044416)(aU:∀c∈t.cases,LowC c)(w:Ba)(hA:CAt w w.heap.size A t.cases) :
  As Aq 33 #[Ak #[O U t.n,O U t.ins,O U t.outs,I A t.cases.length kc]] w fun e w'=>e=Am (Aj (vH t))/\Ar w.heap.size w w':=by
 have ic:=zH aU;have H:Aw (vH t=(decide (t.cases.length<=30)&&t.cases.all okC)):=fewTB_eq t;obtain⟨r,hr⟩:=Ki (vH t);rw[hr] at H ⊢;obtain⟨w1,ab⟩:=Ki (w.alloc (Ai #[O U t.n,O U t.ins,O U t.outs,I A t.cases.length kc] 24));have aY:=zy w (Ai #[O U t.n,O U t.ins,O U t.outs,I A t.cases.length kc] 24);have aM:Ar w.heap.size w w1:=by rw[<-ab];exact ye w _
 have eP:w1.heap.size=w.heap.size+1:=by rw[<-ab];simp
 rw[ab] at aY;have cJ:=zH aY;have ch:=zH aM;have HA:=zH ((hA.keep aM).more (by omega:w.heap.size<=w1.heap.size));have ai:=zH ab;have q3:=zh aY 3 rfl;clear hA ab aM aY aU hr;go_enter func33,ntmps33
 by_cases hc:t.cases.length<=30
 case neg=>
  have hR:Aw (r=AC):=H.out.trans (by rw[Lj hc,Pf]);clear H;go_wp2_with fail;rw[ai.out];go_wp2_with fail
  all_goals first | (exfalso;omega) | skip
  go_ret;exact⟨zn hR.out.symm,ch.out⟩
 case pos=>
 have HR:Aw (r=(t.cases.drop 0).all okC):=H.out.trans (by rw[Lm hc,Nt,Nc]);clear H;go_wp2_with fail;rw[ai.out];go_wp2_with fail
 all_goals first | (exfalso;omega) | skip
 clear q3 ai
 go_loopw [3] (fun i wr=>∃k:Nat,k<=t.cases.length/\i=O U (k:Int)/\Aw (r=(t.cases.drop k).all okC)/\Aw (Ar w1.heap.size w1 wr)) (fun i _=>t.cases.length-(Au i).toNat)
 case atStart=>exact⟨0,by omega,rfl,HR,Ll _ _⟩
 clear HR;obtain⟨k,hk,rfl,hp,hb⟩:=hrel;have bC:=La hb.out cJ.out;have q3:=zh bC 3 rfl;clear bC
 by_cases aa:k<t.cases.length
 case neg=>
  have hR:Aw (r=AA):=hp.out.trans (all_end (by omega));obtain rfl:k=t.cases.length:=by omega
  clear hp;go_wp2_with fail;go_ret;exact⟨zn hR.out.symm,ch.out.trans (hb.out.mono (by omega))⟩
 case pos=>
 obtain⟨b,o,A0,c0,A1,c1,A2,c2,e',lz,d0,d1,d2,I0,I1,I2⟩:=(HA.out.keep hb.out).row k aa;subst e';have fh:=all_step (p:=okC) aa;obtain⟨l0,l1,l2,l3,l4⟩:=ic.out _ (Ld aa);have bk:=hb.out.size;have ly:=fun (W:Ba) (hW:Ar wr.heap.size wr W)=>fewv_any A1 c1 t.cases[k].out l1 l3 W (((I1.more bk).keep hW).more hW.size)
 have ny:=fun (W:Ba) (hW:Ar wr.heap.size wr W)=>fewv_any A2 c2 t.cases[k].calm l2 l4 W (((I2.more bk).keep hW).more hW.size)
 unfold okC at fh;obtain⟨c,MR⟩:=Ki (t.cases[k]);rw[MR] at d0 d1 d2 l0 l1 l2 fh ly ny;obtain⟨b1,aq⟩:=Ki (vG c.out 30);obtain⟨b2,ag⟩:=Ki (vG c.calm 30);rw[aq] at fh ly;rw[ag] at fh ny;obtain⟨wc,tf⟩:=Ki (wr.alloc (Ai #[I A0 c.inp.length c0,I A1 c.out.length c1,I A2 c.calm.length c2] 87));have tq:=zy wr (Ai #[I A0 c.inp.length c0,I A1 c.out.length c1,I A2 c.calm.length c2] 87);have en:Ar wr.heap.size wr wc:=by rw[<-tf];exact ye wr _
 rw[tf] at tq;obtain⟨p0,p1,p2,_⟩:=Kc tq;have Cz:=zH (ly wc en);have mq:=zH (ny wc en);have cu:=zH (hb.out.trans (en.mono bk));have KQ:=zH tf;have dq:=zH (hp.out.trans fh);obtain⟨il,mC⟩:=Ki c.inp.length;rw[mC] at d0 l0 dq KQ p0;clear hp fh ly ny tf en tq aq ag MR mC I0 I1 I2
 by_cases hi:il<=10
 case neg=>
  have hR:Aw (r=AC):=dq.out.trans (by rw[Lj hi];rfl);clear dq Cz mq;go_wp2_with fail;rw[KQ.out];go_wp2_with fail
  all_goals first | (exfalso;omega) | skip
  go_ret;exact⟨zn hR.out.symm,ch.out.trans (cu.out.mono (by omega))⟩
 case pos=>
 have dS:Aw (r=((b1&&b2)&&(t.cases.drop (k+1)).all okC)):=dq.out.trans (by rw[Lm hi,Nt];rfl);clear dq;go_wp2_with fail;rw[KQ.out];go_wp2_with fail
 all_goals first | (exfalso;omega) | skip
 refine Cz.out.mono ?_;rintro e w2 ⟨rfl,rfl⟩
 cases b1 with
 | false=>
  have hR:Aw (r=AC):=dS.out;go_wp2_with fail;go_ret;exact⟨zn hR.out.symm,ch.out.trans (cu.out.mono (by omega))⟩
 | true=>
 go_wp2_with fail;refine mq.out.mono ?_;rintro e w2 ⟨rfl,bZ⟩;obtain rfl:=bZ.symm
 cases b2 with
 | false=>
  have hR:Aw (r=AC):=dS.out;go_wp2_with fail;go_ret;exact⟨zn hR.out.symm,ch.out.trans (cu.out.mono (by omega))⟩
 | true=>
  have hR:Aw (r=(t.cases.drop (k+1)).all okC):=dS.out;go_wp2_with fail
  go_roundw
  case rel=>exact⟨k+1,by omega,by go_num,hR,cu⟩
  case measure=>simp[Au];omega
def LowT(t:Tk):Prop:=t.cases.length<=17592186044416/\∀c∈t.cases,LowC c
theorem tk_eq{a b:Tk}(h1:a.n=b.n)(h2:a.ins=b.ins)(h3:a.outs=b.outs)(h4:a.cases=b.cases):a=b:=by cases a;cases b;simp_all
theorem cs_eq{a b:Cs}(h1:a.inp=b.inp)(h2:a.out=b.out)(h3:a.calm=b.calm):a=b:=by cases a;cases b;simp_all
def TwoCs(w0:Ba)(c1 c2:Array Ax)(s t:Ax)(wx:Ba):Prop:=
 ∃g h:Nat,s=Al (J ⟨g,0,Z⟩)/\t=Al (J ⟨h,0,Z⟩)/\wx.heap[g]?=J (Ai c1 87 (0,0))/\wx.heap[h]?=J (Ai c2 87 (0,0))/\Ar w0.heap.size w0 wx
theorem rsameT_any(a b:Tk)(ha:LowT a)(hb:LowT b)(A B:Bb)(ca cb:Nat)(w:Ba)(hA:CAt w w.heap.size A a.cases)(hB:CAt w w.heap.size B b.cases) :
  As Aq 170 #[Ak #[O U a.n,O U a.ins,O U a.outs,I A a.cases.length ca],Ak #[O U b.n,O U b.ins,O U b.outs,I B b.cases.length cb]] w fun e w'=>e=Am (Aj (decide (a=b)))/\Ar w.heap.size w w':=by
 obtain⟨fK,iK⟩:=ha;obtain⟨aq,ag⟩:=hb;have G9:=zH iK;have Ef:=zH ag;obtain⟨w1,ab,d0,d1,aK,dj⟩:=yV w #[O U a.n,O U a.ins,O U a.outs,I A a.cases.length ca] #[O U b.n,O U b.ins,O U b.outs,I B b.cases.length cb] 24 24;have HA:=zH ((hA.keep dj).more dj.size);have HB:=zH ((hB.keep dj).more dj.size);have cu:=zH dj;have bK:=zH d0;have cN:=zH d1;have ai:=zH ab;obtain⟨p0,p1,p2,p3,_⟩:=Kb d0;obtain⟨q0,q1,q2,q3,_⟩:=Kb d1;clear ab d0 d1 dj hA hB iK ag;have HT:Aw (a≠b->decide (a=b)=AC):=fun h=>Lj h
 have HU:Aw (a=b->decide (a=b)=AA):=fun h=>Lm h
 obtain⟨r,hr⟩:∃r,decide (a=b)=r:=⟨_,rfl⟩;rw[hr] at HT HU ⊢;clear hr;go_enter func170,ntmps170
 by_cases h1:a.n=b.n/\a.ins=b.ins/\a.outs=b.outs/\a.cases.length=b.cases.length
 case neg=>
  have hR:=zH (HT.out (fun h=>h1 (by rw[h];exact⟨rfl,rfl,rfl,rfl⟩)));clear HT HU
  by_cases k1:a.n=b.n
  case neg=>
   have e0:(a.n != b.n)=AA:=by simpa using k1
   clear h1;go_wp2_with fail;rw[ai.out];go_wp2_with fail
   all_goals
    go_ret;exact⟨zn hR.out.symm,cu.out⟩
  case pos=>
  have e0:(a.n != b.n)=AC:=by simpa using k1
  by_cases k2:a.ins=b.ins
  case neg=>
   have e1:(a.ins != b.ins)=AA:=by simpa using k2
   clear h1 k1;go_wp2_with fail;rw[ai.out];go_wp2_with fail
   all_goals
    go_ret;exact⟨zn hR.out.symm,cu.out⟩
  case pos=>
  have e1:(a.ins != b.ins)=AC:=by simpa using k2
  by_cases k3:a.outs=b.outs
  case neg=>
   have e2:(a.outs != b.outs)=AA:=by simpa using k3
   clear h1 k1 k2;go_wp2_with fail;rw[ai.out];go_wp2_with fail
   all_goals
    go_ret;exact⟨zn hR.out.symm,cu.out⟩
  case pos=>
  have e2:(a.outs != b.outs)=AC:=by simpa using k3
  have k4:a.cases.length≠b.cases.length:=fun h=>h1 ⟨k1,k2,k3,h⟩
  have e3:((a.cases.length:Int) != (b.cases.length:Int))=AA:=by simp;omega
  clear h1 k1 k2 k3;go_wp2_with fail;rw[ai.out];go_wp2_with fail
  all_goals
   go_ret;exact⟨zn hR.out.symm,cu.out⟩
 case pos=>
 obtain⟨k1,k2,k3,k4⟩:=h1;have H3:Aw (a.cases=b.cases->r=AA):=fun h=>HU.out (tk_eq k1 k2 k3 h)
 have H4:Aw (a.cases≠b.cases->r=AC):=fun h=>HT.out (fun e=>h (congrArg Tk.cases e))
 have HL:=zH k4;rw[k1] at p0 ai bK ⊢;rw[k2] at p1 ai bK ⊢;rw[k3] at p2 ai bK ⊢;rw[<-k4] at q3 aq ai cN ⊢;clear k1 k2 k3 k4 HT HU;go_wp2_with fail;rw[ai.out];go_wp2_with fail;clear p0 p1 p2 p3 q0 q1 q2 q3 ai
 go_loopw [5] (fun i wr=>∃k:Nat,k<=a.cases.length/\i=O U (k:Int)/\Aw (a.cases.take k=b.cases.take k)/\Aw (Ar w1.heap.size w1 wr)) (fun i _=>a.cases.length-(Au i).toNat)
 case atStart=>exact⟨0,by omega,rfl,by rw[Aw,L1,L1],Ll _ _⟩
 obtain⟨k,hk,rfl,hp,aL⟩:=hrel;have p3:=zh (La aL.out bK.out) 3 rfl;have q3:=zh (La aL.out cN.out) 3 rfl;have HLy:=HL.out
 by_cases aa:k<a.cases.length
 case neg=>
  obtain rfl:k=a.cases.length:=by omega
  have hR:=zH (H3.out (ku HL.out hp.out));clear H3 H4 hp;go_wp2_with fail;go_ret;exact⟨zn hR.out.symm,Lc cu.out aL.out⟩
 case pos=>
 have lp:k<b.cases.length:=by omega
 clear HLy;obtain⟨ba,oa,A0,m0,A1,m1,A2,m2,ea,IM,a0,a1,a2,IA0,Um,Ul⟩:=(HA.out.keep aL.out).row k aa;obtain⟨bb,ob,B0,n0,B1,n1,B2,n2,eb,aY,b0,b1,b2,IB0,Uk,Uj⟩:=(HB.out.keep aL.out).row k lp;subst ea;subst eb;have lK:=zH (G9.out _ (Ld aa));have mu:=zH (Ef.out _ (Ld lp));have h0:Aw (a.cases[k]=b.cases[k]->a.cases.take (k+1)=b.cases.take (k+1)):=fun he=>xO hp.out aa lp he
 have hN:Aw (a.cases[k]≠b.cases[k]->r=AC):=fun he=>H4.out (fun h=>he (by simp only[h]))
 obtain⟨X,hX⟩:=Ki (a.cases[k]);obtain⟨Y,hY⟩:=Ki (b.cases[k]);rw[hX] at a0 a1 a2 IA0 Um Ul lK h0 hN;rw[hY] at b0 b1 b2 IB0 Uk Uj mu h0 hN;clear hX hY hp;have oy:=aL.out.size;have HI:=zH (fun (W:Ba) (hW:Ar wr.heap.size wr W)=>(⟨((IA0.more oy).keep hW).more hW.size,((Um.more oy).keep hW).more hW.size,((Ul.more oy).keep hW).more hW.size⟩:IAt W W.heap.size A0 X.inp/\LAt W W.heap.size A1 X.out/\LAt W W.heap.size A2 X.calm));have HJ:=zH (fun (W:Ba) (hW:Ar wr.heap.size wr W)=>(⟨((IB0.more oy).keep hW).more hW.size,((Uk.more oy).keep hW).more hW.size,((Uj.more oy).keep hW).more hW.size⟩:IAt W W.heap.size B0 Y.inp/\LAt W W.heap.size B1 Y.out/\LAt W W.heap.size B2 Y.calm));clear IA0 Um Ul IB0 Uk Uj;have rL:w.heap.size<wr.heap.size:=by have:=zj bK.out;omega
 have iR:w.heap.size+1<wr.heap.size:=by have:=zj cN.out;omega
 have IL:ba<wr.heap.size:=by omega
 have IK:bb<wr.heap.size:=by omega
 have eG:Aw (∀W,Ar wr.heap.size wr W->W.cell? ⟨w.heap.size,3,Z⟩=J (I (J ⟨ba,oa,Z⟩) a.cases.length ca)/\W.cell? ⟨w.heap.size+1,3,Z⟩=J (I (J ⟨bb,ob,Z⟩) a.cases.length cb) /\
   W.cell? ⟨ba,oa+k*3,Z⟩=J (I A0 X.inp.length m0)/\W.cell? ⟨ba,oa+k*3+1,Z⟩=J (I A1 X.out.length m1)/\W.cell? ⟨ba,oa+k*3+2,Z⟩=J (I A2 X.calm.length m2) /\
   W.cell? ⟨bb,ob+k*3,Z⟩=J (I B0 Y.inp.length n0)/\W.cell? ⟨bb,ob+k*3+1,Z⟩=J (I B1 Y.out.length n1)/\W.cell? ⟨bb,ob+k*3+2,Z⟩=J (I B2 Y.calm.length n2)):=fun W hW=>
  ⟨(hW.cell (p:=⟨_,_,Z⟩) rL).trans p3,(hW.cell (p:=⟨_,_,Z⟩) iR).trans q3,(hW.cell (p:=⟨_,_,Z⟩) IL).trans a0,(hW.cell (p:=⟨_,_,Z⟩) IL).trans a1,(hW.cell (p:=⟨_,_,Z⟩) IL).trans a2,
   (hW.cell (p:=⟨_,_,Z⟩) IK).trans b0,(hW.cell (p:=⟨_,_,Z⟩) IK).trans b1,(hW.cell (p:=⟨_,_,Z⟩) IK).trans b2⟩
 have dh:(0:Int)<=(k:Int):=by omega
 have aW:(k:Int)<(a.cases.length:Int):=by omega
 go_wp2_with fail
 go_cut [6,7] (fun s6 s7 wx=>TwoCs wr #[I A0 X.inp.length m0,I A1 X.out.length m1,I A2 X.calm.length m2] #[I B0 Y.inp.length n0,I B1 Y.out.length n1,I B2 Y.calm.length n2] s6 s7 wx)
 case first=>
  go_region_held3 (fun W=>W.cell? ⟨w.heap.size,3,Z⟩=J (I (J ⟨ba,oa,Z⟩) a.cases.length ca)/\W.cell? ⟨w.heap.size+1,3,Z⟩=J (I (J ⟨bb,ob,Z⟩) a.cases.length cb) /\
   W.cell? ⟨ba,oa+k*3,Z⟩=J (I A0 X.inp.length m0)/\W.cell? ⟨ba,oa+k*3+1,Z⟩=J (I A1 X.out.length m1)/\W.cell? ⟨ba,oa+k*3+2,Z⟩=J (I A2 X.calm.length m2) /\
   W.cell? ⟨bb,ob+k*3,Z⟩=J (I B0 Y.inp.length n0)/\W.cell? ⟨bb,ob+k*3+1,Z⟩=J (I B1 Y.out.length n1)/\W.cell? ⟨bb,ob+k*3+2,Z⟩=J (I B2 Y.calm.length n2))
   (first | exact⟨p3,q3,a0,a1,a2,b0,b1,b2⟩ | exact eG.out _ (by first | exact(ye wr _).drew | exact ye wr _ | exact(kJ wr _ _).drew | exact kJ wr _ _))
   (fail)
  all_goals
   go_wp2_with fail
   go_meet
  . exact⟨_,_,rfl,rfl,yU (zy wr _) _,(by have:=zy (wr.alloc (Ai #[I A0 X.inp.length m0,I A1 X.out.length m1,I A2 X.calm.length m2] 87)) (Ai #[I B0 Y.inp.length n0,I B1 Y.out.length n1,I B2 Y.calm.length n2] 87);rwa[Nk] at this),by first | exact kJ wr _ _ | exact(kJ wr _ _).drew⟩
  exact⟨_,_,rfl,rfl,(by have:=zy (wr.alloc (Ai #[I B0 Y.inp.length n0,I B1 Y.out.length n1,I B2 Y.calm.length n2] 87)) (Ai #[I A0 X.inp.length m0,I A1 X.out.length m1,I A2 X.calm.length m2] 87);rwa[Nk] at this),yU (zy wr _) _,by first | exact kJ wr _ _ | exact(kJ wr _ _).drew⟩
 obtain⟨g,h,rfl,rfl,G,H,bk⟩:=hcut;obtain⟨g0,g1,g2,_⟩:=Kc G;obtain⟨j0,j1,j2,_⟩:=Kc H;have aV:=zH (aL.out.trans (bk.mono oy));have HO:=zH (xY A0 B0 m0 n0 X.inp Y.inp lK.out.1 mu.out.1 wc (HI.out wc bk).1 (HJ.out wc bk).1);have HV1:=zH (fun m=>uv A1 B1 m1 n1 X.out Y.out lK.out.2.1 mu.out.2.1 lK.out.2.2.2.1 mu.out.2.2.2.1 (wc.drewN m) (HI.out wc bk).2.1 (HJ.out wc bk).2.1);have Uq:=zH (fun m=>uv A2 B2 m2 n2 X.calm Y.calm lK.out.2.2.1 mu.out.2.2.1 lK.out.2.2.2.2 mu.out.2.2.2.2 (wc.drewN m) (HI.out wc bk).2.2 (HJ.out wc bk).2.2);have tw:X.inp≠Y.inp->Aw (r=AC):=fun h=>hN.out (fun e=>h (by rw[e]))
 have ij:X.out≠Y.out->Aw (r=AC):=fun h=>hN.out (fun e=>h (by rw[e]))
 have Ty:X.calm≠Y.calm->Aw (r=AC):=fun h=>hN.out (fun e=>h (by rw[e]))
 have hE4:X.inp=Y.inp->X.out=Y.out->X.calm=Y.calm->Aw (a.cases.take (k+1)=b.cases.take (k+1)):=fun p q s=>h0.out (cs_eq p q s)
 have az:=zH tw;have au:=zH ij;have aN:=zH Ty;have du:=zH hE4;have HZ:=zH (@kB X.inp Y.inp);have HS:=zH (fun e:X.inp=Y.inp=>show zJ X.inp Y.inp=0 by rw[e];exact xZ _);obtain⟨o,ho⟩:=Ki (zJ X.inp Y.inp);rw[ho] at HO HZ HS;go_wp2_with fail;refine HO.out.mono ?_;rintro e w2 ⟨rfl,z,rfl⟩
 by_cases t1:X.inp=Y.inp
 case neg=>
  have hR:=zH (az.out t1).out;have e0:(o != 0)=AA:=by simpa using fun h=>t1 (HZ.out h)
  go_wp2_with fail
  all_goals
   go_ret;exact⟨zn hR.out.symm,zP (Lc cu.out aV.out) _⟩
 case pos=>
 have e0:(o != 0)=AC:=by simpa using HS.out t1
 have fM:=zH (du.out t1);go_wp2_with fail;refine(HV1.out z).mono ?_;rintro e w2 ⟨rfl,z2,rfl⟩
 by_cases t2:X.out=Y.out
 case neg=>
  have hR:=zH (au.out t2).out;rw[Lj t2];clear au aN fM Uq t2;go_wp2_with fail
  all_goals
   go_ret;exact⟨zn hR.out.symm,by repeat (first | exact Lc cu.out aV.out | refine zP ?_ _)⟩
 case pos=>
 have HE6:=zH (fM.out t2);rw[Lm t2];clear au fM t2;go_wp2_with fail;refine(Uq.out (z+z2)).mono ?_;rintro e w2 ⟨rfl,z3,rfl⟩;clear Uq
 by_cases t3:X.calm=Y.calm
 case neg=>
  have hR:=zH (aN.out t3).out;rw[Lj t3];clear aN HE6 t3;go_wp2_with fail
  all_goals
   go_ret;exact⟨zn hR.out.symm,by repeat (first | exact Lc cu.out aV.out | refine zP ?_ _)⟩
 have hR:=zH (HE6.out t3).out;rw[Lm t3];clear aN HE6 t3;go_wp2_with fail
 go_roundw
 case rel=>exact⟨k+1,by omega,by go_num,hR,by repeat (first | exact aV.out | refine zP ?_ _)⟩
 simp[Au];omega
end
section
open Go.RowKit
def FewA(a:Ad):Prop:=a.sts.length<=8/\a.mvs.length<=40
theorem FewA.each{a:Ad}(h:FewA a){l:List Mv}(hl:l∈a.sts):l.length<=40:=by
 refine Lz ?_ h.2;unfold Ad.mvs;obtain⟨i,hi,rfl⟩:=Pe.1 hl;exact(List.sublist_flatten_of_mem (Ld hi)).length_le
theorem ZA{a:Ad}{p:Option Mv}{m:Mv}(h:yD m.r≠0):qB a p m=yD m.r:=Li h
theorem moveE_n{a:Ad}{p:Option Mv}{m:Mv}(h:yD m.r=0)(h2:m.r.n≠a.n):qB a p m=22:=by unfold qB;rw[Lg (by simpa using h),Li h2]
theorem ZB{a:Ad}{p:Option Mv}{m:Mv}(h:yD m.r=0)(h2:m.r.n=a.n)(h3:XU p m=AA):qB a p m=14:=by unfold qB;rw[Lg (by simpa using h),Lg (by simpa using h2),Li h3]
theorem moveE_to{a:Ad}{p:Option Mv}{m:Mv}(h:yD m.r=0)(h2:m.r.n=a.n)(h3:XU p m=AC)(h4:m.to<0\/(a.sts.length:Int)<=m.to):qB a p m=2:=by unfold qB;rw[Lg (by simpa using h),Lg (by simpa using h2),Lg (by rw[h3];decide),Li h4]
theorem moveE_ok{a:Ad}{p:Option Mv}{m:Mv}(h:yD m.r=0)(h2:m.r.n=a.n)(h3:XU p m=AC)(h4:¬(m.to<0\/(a.sts.length:Int)<=m.to)):qB a p m=0:=by unfold qB;rw[Lg (by simpa using h),Lg (by simpa using h2),Lg (by rw[h3];decide),Lg h4]
theorem Zk{a:Ad}{l:List Mv}(h:l.length=0):qW a l=19:=Li h
theorem Yn{a:Ad}{l:List Mv}(h:l.length≠0):qW a l=qr a l 0:=Lg h
theorem state_any(a:Ad)(SV:Bb)(ks:Nat)(_Kq:a.sts.length<=8)(A:Bb)(k0:Nat)(l:List Mv)(hl:l.length<=40)(w:Ba)(hA:MAt w w.heap.size A l) :
  As Aq 186 #[Ak #[O U a.n,I SV a.sts.length ks],I A l.length k0] w fun e w'=>e=Am (O U (qW a l))/\Ar w.heap.size w w':=by
 have HA:=zH hA;have az:=zH (@Zk a l);have au:=zH (@Yn a l);obtain⟨E,hE⟩:=Ki (qW a l);rw[hE] at az au ⊢
 by_cases hz:l.length=0
 . have hR:=zH (az.out hz)
   have e0:((l.length:Int)==0)=AA:=by simp[hz]
   clear az au hz;go_enter func186,ntmps186;go_wp2_with fail;go_ret;exact⟨zm hR.out.symm,ye w _⟩
 have HE:=zH (au.out hz);have e0:((l.length:Int)==0)=AC:=R5.2 (by omega);clear az au hz;go_enter func186,ntmps186;go_wp2_with fail
 obtain⟨W0,dN,b0,aX,ce⟩:∃W0,w.alloc (Ai #[O U a.n,I SV a.sts.length ks] 27)=W0/\W0.heap[w.heap.size]?=J (Ai #[O U a.n,I SV a.sts.length ks] 27 (0,0))/\w.heap.size+1<=W0.heap.size/\Ar w.heap.size w W0:=
  ⟨_,rfl,zy _ _,by simp,ye w _⟩
 rw[dN];have iZ:=zH ce;have sP:=zH b0;clear dN ce b0 e0
 go_loopw [13] (fun i wr=>∃k:Nat,k<=l.length/\i=O U (k:Int)/\Aw (E=qr a l k)/\Ar W0.heap.size W0 wr) (fun i _=>l.length-(Au i).toNat)
 case atStart=>exact⟨0,by omega,rfl,HE,Ll _ _⟩
 obtain⟨k,hk,rfl,aC,aL⟩:=hrel;clear HE;have dE:=zH (Lc iZ.out aL);have HW:=zH aL;clear aL
 by_cases aa:k<l.length
 . obtain⟨b,o,rfl,lz,c0,c1,c2,c3,c4,c5,c6,c7⟩:=(HA.out.keep dE.out).row k aa
   have aT:=zH (@Zz a l k aa);have bh:=zH (@YS a l k aa);have hb:=dE.out.size;have hws:w.heap.size<wr.heap.size:=by have:=HW.out.size;omega
   obtain⟨bo,dF⟩:=Ki (XU (zM l k) l[k]);have cx:=zH dF;have m1:=zH (@ZA a (zM l k) l[k]);have m2:=zH (@moveE_n a (zM l k) l[k]);have m3:=zH (@ZB a (zM l k) l[k]);have m4:=zH (@moveE_to a (zM l k) l[k]);have m5:=zH (@moveE_ok a (zM l k) l[k]);rw[dF] at m3 m4 m5;obtain⟨m,hm⟩:=Ki (l[k]);have HX:=zH hm;obtain⟨mE,Pd⟩:=Ki (qB a (zM l k) l[k]);rw[Pd] at aT bh m1 m2 m3 m4 m5;rw[hm] at c0 c1 c2 c3 c4 c5 c6 c7 m1 m2 m3 m4 m5;have HR:=zH (fun w'=>Yy m.r w');obtain⟨rE,OU⟩:=Ki (yD m.r);rw[OU] at m1 m2 m3 m4 m5 HR;unfold Rd.cells at HR;clear dF hm Pd OU;go_wp2_with fail
   obtain⟨W1,eO,b1,aK,bP⟩:∃W1,wr.alloc (Ai #[O U m.r.n,O U m.r.h0,O U m.r.h1,O U m.r.h2,O U m.r.h3,O U m.r.h4,O U m.r.f,O U m.to] 94)=W1/\W1.heap[wr.heap.size]?=J (Ai #[O U m.r.n,O U m.r.h0,O U m.r.h1,O U m.r.h2,O U m.r.h3,O U m.r.h4,O U m.r.f,O U m.to] 94 (0,0))/\wr.heap.size+1<=W1.heap.size/\Ar wr.heap.size wr W1:=
    ⟨_,rfl,zy _ _,by simp,ye wr _⟩
   rw[eO];refine(HR.out W1).mono ?_;rintro e w1 ⟨rfl,aq⟩;have li:=zH ((dE.out.trans (bP.mono hb)).trans (aq.mono (by have:=bP.size;omega)));have CE:=zH ((Lc HW.out bP).trans (aq.mono (by have:=bP.size;have:=HW.out.size;omega)));have d0:=Lb CE.out (by omega) sP.out;have d1:=Lb aq (by omega) b1;have cN:=zH d1;have bK:=zH d0;obtain⟨q0,q1,_⟩:=Ka d0;obtain⟨p0,p1,p2,p3,p4,p5,p6,p7,_⟩:=Ke d1;have Dv:=zj d1;clear eO b1 bP aq d0 d1 c0 c1 c2 c3 c4 c5 c6 c7 HR
   by_cases hr:rE=0
   case neg=>
    have he:=m1.out hr;have hR:=zH (aC.out.trans ((aT.out (by rw[he];exact hr)).trans he));have e0:(rE != 0)=AA:=by simpa using hr
    clear aT bh m1 m2 m3 m4 m5 he hr aC cx HX;go_wp2_with fail;go_ret;exact⟨zm hR.out.symm,li.out⟩
   case pos=>
   subst hr;clear m1
   by_cases hn:m.r.n=a.n
   case neg=>
    have he:=m2.out (by simp) hn;have hR:=zH (aC.out.trans ((aT.out (by rw[he];decide)).trans he));have e0:(m.r.n != a.n)=AA:=by simpa using hn
    clear aT bh m2 m3 m4 m5 he hn aC cx HX;go_wp2_with fail;go_ret;exact⟨zm hR.out.symm,li.out⟩
   case pos=>
   have e0:(m.r.n != a.n)=AC:=by simpa using hn
   have n3:=zH (m3.out (by simp) hn);have n4:=zH (m4.out (by simp) hn);have n5:=zH (m5.out (by simp) hn);clear m2 hn m3 m4 m5
   cases k with
   | zero=>
    obtain rfl:bo=AC:=by rw[<-cx.out];rfl
    have g0:decide ((0:Int)<0)=AC:=by decide
    clear cx HX n3;go_wp2_with fail;go_quiet (fail)
    by_cases ht:m.to<0\/(a.sts.length:Int)<=m.to
    . have he:=n4.out (by simp) ht
      have hR:=zH (aC.out.trans ((aT.out (by rw[he];decide)).trans he));clear aT bh n4 n5 he aC
      by_cases Du:m.to<0
      . clear ht
        go_wp2_with fail;go_ret;exact⟨zm hR.out.symm,zP li.out _⟩
      . have H9:(a.sts.length:Int)<=m.to:=by omega
        clear ht;go_wp2_with fail
        all_goals first | (exfalso;omega) | skip
        go_ret;exact⟨zm hR.out.symm,zP li.out _⟩
    . have hR:=zH (aC.out.trans (bh.out (n5.out (by simp) ht)))
      have Du:¬m.to<0:=by omega
      have H9:¬(a.sts.length:Int)<=m.to:=by omega
      clear aT bh n4 n5 aC ht;go_wp2_with fail
      all_goals first | (exfalso;omega) | skip
      go_roundw
      case rel=>exact⟨0+1,by omega,by go_num,hR,zP CE.out _⟩
      case measure=>simp[Au];omega
   | succ j=>
    have hj:j<l.length:=by omega
    have cV:XU (zM l (j+1)) l[j+1]=decide (0<=zJ l[j].r.l l[j+1].r.l):=by rw[yM l j hj];rfl
    rw[HX.out] at cV;rw[show XU (zM l (j+1)) m=bo by have:=cx.out;rwa[HX.out] at this] at cV;obtain⟨b',o',e',_,u0,u1,u2,u3,u4,u5,u6,u7⟩:=(HA.out.keep li.out).row j hj
    cases e'
    have hc:=fun w'=>XH l[j].r m.r w'
    obtain⟨mj,O8⟩:=Ki (l[j]);rw[O8] at cV hc u0 u1 u2 u3 u4 u5 u6 u7;obtain⟨r,hr⟩:=Ki (zJ mj.r.l m.r.l);rw[hr] at cV hc;unfold Rd.cells at hc;have dZ:=zH cV;have HC:=zH hc;have g1:((j:Int)+1).toNat=j+1:=by omega
    have g3:IntKind.i64.wrap ((j:Int)+1-1)=(j:Int):=by rw[Ls];omega
    have g5:IntKind.i64.wrap ((j:Int)+1)=(j:Int)+1:=by rw[Ls];omega
    have g6:decide ((0:Int)<(j:Int)+1)=AA:=Lm (by omega);have g7:IntKind.i64.wrap (j:Int)=(j:Int):=by rw[Ls];omega
    have g8:(0:Int)<=(j:Int):=by omega
    have g9:(j:Int)<(l.length:Int):=by omega
    clear cV hc hr O8 cx HX;go_wp2_with fail
    go_still_tail 11,(by kernel_rfl)
    change wpList _ _ _ _ _ w1.drew;obtain⟨w2,bZ⟩:∃w2,w2=w1.drew:=⟨_,rfl⟩;have Mr:Aw (Ar w.heap.size w w2):=by rw[bZ];exact li.out.drew
    have VI:Aw (Ar W0.heap.size W0 w2):=by rw[bZ];exact CE.out.drew
    have az:Aw (w2.heap[wr.heap.size]?=J (Ai #[O U m.r.n,O U m.r.h0,O U m.r.h1,O U m.r.h2,O U m.r.h3,O U m.r.h4,O U m.r.f,O U m.to] 94 (0,0))):=by rw[bZ];exact cN.out
    have dD:Aw (w2.heap[w.heap.size]?=J (Ai #[O U a.n,I SV a.sts.length ks] 27 (0,0))):=by rw[bZ];exact bK.out
    rw[<-bZ];clear bK cN bZ q1 p1 p2 p3 p4 p5 p6 p7 u0 u1 u2 u3 u4 u5 u6 u7 g1 g3 g5 g7 g8 g9;go_wp2_with fail;refine(HC.out w2).mono ?_;rintro e w3 ⟨rfl,aj⟩;have sk:=zH (Lc Mr.out aj);have BW3:=zH (Lc VI.out aj);have d0:=La aj dD.out;have d1:=La aj az.out;have q1:=zh d0 1 rfl;have p7:=zh d1 7 rfl
    cases bo with
    | true=>
     have g0':0<=r:=LR dZ.out.symm;have he:=n3.out (by simp);have hR:=zH (aC.out.trans ((aT.out (by rw[he];decide)).trans he));go_wp2_with fail
     all_goals first | (exfalso;omega) | skip
     go_ret;exact⟨zm hR.out.symm,sk.out⟩
    | false=>
     have g0':¬0<=r:=N6 dZ.out.symm
     by_cases ht:m.to<0\/(a.sts.length:Int)<=m.to
     . have he:=n4.out (by simp) ht
       have hR:=zH (aC.out.trans ((aT.out (by rw[he];decide)).trans he))
       by_cases Du:m.to<0
       . clear ht
         go_wp2_with fail
         all_goals first | (exfalso;omega) | skip
         go_ret;exact⟨zm hR.out.symm,sk.out⟩
       . have H9:(a.sts.length:Int)<=m.to:=by omega
         go_wp2_with fail
         all_goals first | (exfalso;omega) | skip
         go_ret;exact⟨zm hR.out.symm,sk.out⟩
     . have hR:=zH (aC.out.trans (bh.out (n5.out (by simp) ht)))
       have Du:¬m.to<0:=by omega
       have H9:¬(a.sts.length:Int)<=m.to:=by omega
       go_wp2_with fail
       all_goals first | (exfalso;omega) | skip
       go_roundw
       case rel=>exact⟨j+1+1,by omega,by go_num,hR,BW3.out⟩
       case measure=>simp[Au];omega
 obtain rfl:k=l.length:=by omega
 have hR:=zH (aC.out.trans Zy);go_wp2_with fail;go_ret;exact⟨zm hR.out.symm,dE.out⟩
end
section
open Go.RowKit Go.Shelf
structure KeepB(K:Nat->Prop)(W W':Ba):Prop where
 size:W.heap.size<=W'.heap.size
 same:∀k,K k->k<W.heap.size->W'.heap[k]?=W.heap[k]?
theorem KeepB.trans{K:Nat->Prop}{A B C:Ba}(h:KeepB K A B)(k:KeepB K B C):KeepB K A C:=
 ⟨Lz h.size k.size,fun i hi hl=>(k.same i hi (LF hl h.size)).trans (h.same i hi hl)⟩
theorem KeepB.drew(K:Nat->Prop)(W:Ba):KeepB K W W.drew:=⟨Le _,fun _ _ _=>rfl⟩
theorem KeepB.alloc(K:Nat->Prop)(W:Ba)(o:Obj):KeepB K W (W.alloc o):=⟨by simp,fun k _ hk=>N9 W o k hk⟩
theorem KeepB.setCell{K:Nat->Prop}{W:Ba}{a:Addr}(h:¬K a.block)(v:Ax):KeepB K W (W.setCell a v):=
 ⟨by simp[World.setCell],fun k hk _=>Lh W a v k (fun e=>h (e▸hk))⟩
theorem KeepB.of_below{K:Nat->Prop}{W W':Ba}{B:Nat}(h:Ar B W W')(hK:∀k,K k->k<B):KeepB K W W':=
 ⟨h.size,fun k hk _=>h.block k (hK k hk)⟩
theorem KeepB.of_grown{K:Nat->Prop}{W W':Ba}{row:Option Nat}(h:W.grownBy W' row)(hK:∀k,row=J k->¬K k):KeepB K W W':=
 ⟨h.size,fun k hk hl=>h.block k hl (fun e=>hK k e.symm hk)⟩
theorem KeepB.mono{K K':Nat->Prop}{W W':Ba}(h:KeepB K W W')(hK:∀k,K' k->K k):KeepB K' W W':=⟨h.size,fun k hk=>h.same k (hK k hk)⟩
theorem KeepB.putObj{K:Nat->Prop}{W:Ba}{l:Nat}(h:¬K l)(o:Obj):KeepB K W (W.putObj l o):=
 ⟨by simp,fun k hk _=>Px (fun e=>h (e▸hk))⟩
def Iter{β:Type}(P:Program)(g:Nat)(lb:Array Ax)(nX:β->Array Ax)(K:Nat->Prop)(xs:List β)(w:Ba):Prop:=
 ∀n,1<=n->SeqStopsK Fence.wide n P g lb (fun x:{ x:β // x∈xs }=>nX x.1) (KeepB K) (fun ys=>ys.map (·.1)=xs) (fun pre=>pre.map (·.1) <+: xs) xs.length w
section
variable {P:Program}
theorem JT{β:Type}{g:Operand}{ps:Array Tmp}{assign body:Code}{Q:Exit->Act->Ba->Prop}{a:Act}{w:Ba}
  {gf:Nat} {lb:Array Ax} (hg:a.eval g=.func (.func gf) #[] lb) (eg:Enters P gf)
  {nX:β->Array Ax} {K:Nat->Prop} {xs:List β} (Ic:Iter P gf lb nX K xs w) (hK:∀k,K k->k<w.heap.size) (i9:∀x,(nX x).size=ps.size)
  (Af:List { x:β // x∈xs }->Ba->Prop) (Ix:Code->List { x:β // x∈xs }->Ba->Prop) (hI:OwnFrom w.heap.size Af) (hIx:∀c,OwnFrom w.heap.size (Ix c)) (h0:Af [] w) (a₁:{ x:β // x∈xs }->Act)
  (nW:∀(l:Nat) (x:{ x:β // x∈xs }) (W:Ba) (K:Act->Ba->Prop),K (a₁ x) W ->
   assign.wpIn (Fence.wide.inRound l) 7 P (Exit.then K (fun _ _ _=>False)) { tmps:=(ps.zip (nX x.1)).foldl (fun t (p,v)=>t.setIfInBounds p v) a.tmps,defers:=[] } W)
  (AI:∀(l:Nat) (pre:List { x:β // x∈xs }) (x:{ x:β // x∈xs }) (W:Ba),Af pre W->pre.length<xs.length->body.wpIn (Fence.wide.inRound l) 7 P (ownPostG w.heap.size (KeepB K) Af Ix (pre++[x]) W) (a₁ x) W)
  (z':∀(D:Nat) (ys:List { x:β // x∈xs }) (W:Ba),w.heap.size<=D->ys.map (·.1)=xs->Af ys W->W.heap[D]?=J (.deferred (J []))->Q .normal { a with defers:={ target:=.collected D,args:=#[] }::a.defers } W)
  (tM:∀(D:Nat) (c:Code) (pre:List { x:β // x∈xs }) (W:Ba),w.heap.size<=D->pre.map (·.1) <+: xs->Ix c pre W->W.heap[D]?=J (.deferred (J []))->c.wp P Q { a with defers:={ target:=.collected D,args:=#[] }::a.defers } W) :
  (Code.rangeFunc g ps assign body).wp P Q a w:=
 (Sq (n:=9)).1 (wpIn_rangeFunc_ownG (F:=Fence.wide) (n:=9) rfl (by omega) hg trivial eg (Ic 8 (by omega)) KeepB.trans
  (fun W l o o' hl _ _ _=>KeepB.putObj (fun hk=>by have:=hK l hk;omega) o') (Ll _ _) (fun x=>i9 x.1) Af Ix hI hIx h0 a₁ nW AI z'
  (fun D c pre W hD hS hc hk=>Sq.2 (tM D c pre W hD hS hc hk)))
def Marks(B:Nat)(ds:List Deferred)(w:Ba):Prop:=
 ∃rs:List Nat,ds=rs.map (fun r=>{ target:=.collected r,args:=#[] })/\rs.Nodup/\∀r∈rs,B<=r/\w.heap[r]?=J (.deferred (J []))
theorem Marks.nil(B:Nat)(w:Ba):Marks B [] w:=⟨[],rfl,List.nodup_nil,fun _ h=>by cases h⟩
structure Shut(B:Nat)(w w':Ba):Prop where
 below:Ar B w w'
 same:∀(k:Nat) (o:Obj),w.heap[k]?=J o->o.isCells=AA->w'.heap[k]?=J o
theorem Shut.refl(B:Nat)(w:Ba):Shut B w w:=⟨Ll _ _,fun _ _ h _=>h⟩
theorem Shut.own{B:Nat}{w w':Ba}(h:Shut B w w'){base:Nat}{e:TypeId}{size:Nat}{v:Ax}{k:Nat}{xs:List Ax}(hr:w.ownsRow base e size v k xs):w'.ownsRow base e size v k xs:=by
 refine⟨hr.1,?_⟩;rcases hr.2 with hn | ⟨g,cap,cur,hv,hb,hg,rest⟩
 . exact .inl hn
 exact .inr ⟨g,cap,cur,hv,hb,h.same g _ hg rfl,rest⟩
theorem Shut.cell{B:Nat}{w w':Ba}(h:Shut B w w'){a:Addr}{v:Ax}(hc:w.cell? a=J v):w'.cell? a=J v:=by
 obtain⟨o,ho,ex⟩:=R8 hc;rw[LH ((h.same _ _ ho ex).trans ho.symm)];exact hc
theorem wJ{fn:Func}{tmps:Array Ax}{R:Ending->Ba->Prop}{B n:Nat}{v:Ax}(bJ:∀W,(results fn tmps).run P W=.ok v W) :
  ∀(rs:List Nat) (w:Ba),rs.Nodup->(∀r∈rs,B<=r/\w.heap[r]?=J (.deferred (J [])))->(∀W,Shut B w W->R (Am v) W) ->
   LeavesInM Fence.wide n P fn tmps R (rs.map (fun r=>{ target:=.collected r,args:=#[] })) .returning w
 | [],w,_,_,hR=>⟨v,bJ w,hR w (Shut.refl _ _)⟩
 | r::rs,w,hn,hm,hR=>by
  obtain⟨hr,EG⟩:=PQ.1 hn;obtain⟨hB,hk⟩:=hm r (by simp);refine⟨by simp,.inl ⟨r,_,rfl,run_takeDeferred hk,?_⟩⟩;refine wJ bJ rs _ EG (fun r' pl=>⟨(hm r' (by simp[pl])).1,?_⟩) (fun W hW=>hR W ?_)
  . rw[Px (by rintro rfl;exact hr pl)]
    exact(hm r' (by simp[pl])).2
  . refine⟨((Ll B w).grown (grownBy_putObj' w r (.deferred Z)) (by have:=(Lu.1 hk).1;omega) (fun k e=>by cases e;exact hB)).trans hW.below,fun k o ho hc=>?_⟩
    refine hW.same k o ?_ hc
    by_cases e:k=r
    . subst e;rw[hk] at ho;cases ho;cases hc
    . exact(Px e).trans ho
theorem xm{f:FuncId}{fn:Func}{c:Code}{args:Array Ax}{w:Ba}{R:Ending->Ba->Prop}
  (hf:P.funcs[f]?=J fn) (hb:fn.body=J c)
  (h:c.wp P (bodyPostM Fence.wide 9 P fn R) { tmps:=args++Array.replicate (fn.ntmps-args.size) undef,defers:=[] } w):As P f args w R:=
 (Se (n:=9)).1 (callsIn_of_wp_marks hf hb trivial (Sq.2 h))
theorem xP{fn:Func}{R:Ending->Ba->Prop}{a:Act}{w:Ba}{B:Nat}{v:Ax}(hm:Marks B a.defers w)(bJ:∀W,(results fn a.tmps).run P W=.ok v W)
  (hR:∀W,Shut B w W->R (Am v) W):bodyPostM Fence.wide 9 P fn R .ret a w:=by
 obtain⟨rs,hd,hn,hk⟩:=hm;show LeavesInM Fence.wide 9 P fn a.tmps R a.defers .returning w;rw[hd];exact wJ bJ rs w hn hk hR
theorem Marks.cons{B D:Nat}{ds:List Deferred}{w w':Ba}(h:Marks B ds w)(hs:∀(k:Nat),w.heap[k]?=J (Obj.deferred (J []))->w'.heap[k]?=J (Obj.deferred (J [])))
  (hB:B<=w.heap.size) (hD:w.heap.size<=D) (hk:w'.heap[D]?=J (.deferred (J []))):Marks B ({ target:=.collected D,args:=#[] }::ds) w':=by
 obtain⟨rs,rfl,hn,hr⟩:=h;refine⟨D::rs,rfl,PQ.2 ⟨fun hD'=>?_,hn⟩,fun r pl=>?_⟩
 . have:=(Lu.1 (hr D hD').2).1;omega
 rcases LL.1 pl with rfl | pl
 . exact⟨by omega,hk⟩
 exact⟨(hr r pl).1,hs r (hr r pl).2⟩
end
end
section
open Go.RowKit Go.Shelf
attribute [local go_sem] Oper.semAt_some
def zU:Nat->List (List Mv)->List (Int×Mv)
 | _,[]=>[]
 | s,l::r=>l.map (fun m=>((s:Int),m))++zU (s+1) r
theorem Jt{xss:List (List Mv)}{s:Nat}(h:s<xss.length):zU s (xss.drop s)=(xss[s]).map (fun m=>((s:Int),m))++zU (s+1) (xss.drop (s+1)):=by
 rw[LB h];rfl
theorem jl:∀(s:Nat) (xss:List (List Mv)),(zU s xss).map Prod.snd=xss.flatten
 | _,[]=>rfl
 | s,l::r=>by
  rw[zU,LM,jl (s+1) r,P4,Rz]
  congr 1
  exact List.map_id' l
theorem mvsFrom_len(a:Ad):(zU 0 a.sts).length=a.mvs.length:=by
 rw[<-LJ (f:=Prod.snd),jl];rfl
theorem Xw{B:Nat}{w w':Ba}(hs:w.heap.size<=w'.heap.size)(h:∀k,k<B->w'.heap[k]?=w.heap[k]?):Ar B w { w' with os:=w.os,tape:=w.tape,output:=w.output }:=⟨rfl,rfl,rfl,hs,h⟩
theorem SAt.same{w w':Ba}{B:Nat}{A:Bb}{xss:List (List Mv)}(h:SAt w B A xss)(hs:w.heap.size<=w'.heap.size)(hk:∀k,k<B->w'.heap[k]?=w.heap[k]?):SAt w' B A xss:=by
 have h2:=h.keep (Xw hs hk);exact h2
theorem MAt.same{w w':Ba}{B:Nat}{A:Bb}{xs:List Mv}(h:MAt w B A xs)(hs:w.heap.size<=w'.heap.size)(hk:∀k,k<B->w'.heap[k]?=w.heap[k]?):MAt w' B A xs:=by
 have h2:=h.keep (Xw hs hk);exact h2
theorem gG(n:Int)(SV:Ax)(w:Ba):As Aq 187 #[Ak #[O U n,SV]] w fun e w'=>
  e=Am (.func (.func 200) #[] #[Al (J ⟨w.heap.size,0,Z⟩)])/\w.alloc (Ai #[O U n,SV] 27)=w':=by
 go_enter func187,ntmps187;go_wp2;go_ret;exact⟨rfl,rfl⟩
theorem vx(a:Ad)(hf:FewA a)(SV:Bb)(ks B bx:Nat)(w:Ba)(hb:w.heap[bx]?=J (Ai #[O U a.n,I SV a.sts.length ks] 27))(hS:SAt w B SV a.sts)(hB:B<=w.heap.size) :
  Iter Aq 200 #[Al (J ⟨bx,0,Z⟩)] (fun x:Int×Mv=>#[O U x.1,.agg x.2.cells]) (fun k=>k<B\/k=bx) (zU 0 a.sts) w:=fun n hn l Ah Jx W hW hJ hJx hY h0=>by
 have bk:bx<w.heap.size:=(Lu.1 hb).1;have ig:W.heap[bx]?=J (Ai #[O U a.n,I SV a.sts.length ks] 27):=(hW.block bx bk).trans hb;have IS:SAt W B SV a.sts:=hS.keep (hW.mono hB);have HF:=zH (fun l hl=>hf.each (l:=l) hl);have pA:=hf.1;have HY:=zH hY;have UK:Aw (∀s X o,Ah s X->Ah s (X.alloc o)):=fun s X o hs=>hJ s X (X.alloc o) Z hs (World.grownBy_alloc X o Z) (fun r e=>by cases e)
 have c1:=zh ig 1 rfl;have Dc:=zH IS;have H0:=zH h0;have iZ:=zH ig;have hBs:B<=W.heap.size:=Lz hB hW.size;have hbW:bx<W.heap.size:=LF bk hW.size;obtain⟨n0,sts⟩:=a;dsimp only at iZ c1 Dc HF pA HY ⊢;refine callsIn_of_wp Sj rfl trivial ?_ rfl;simp only[ntmps200,List.size_toArray,List.length_cons,List.length_nil,Nat.reduceAdd,Nat.reduceSub,Array.replicate_succ,Array.replicate_zero,List.push_toArray,List.append_toArray,List.nil_append,List.cons_append];gi_wp2
 gi_loopw [10] (fun p wr=>∃s:Nat,s<=sts.length/\p=O U (s:Int)/\∃pre:List { x:Int×Mv // x∈zU 0 sts },Aw (pre.map (·.1)++zU s (sts.drop s)=zU 0 sts)/\Aw (Ah pre wr)/\Aw (SAt wr B SV sts)/\Aw (wr.heap[bx]?=J (Ai #[O U n0,I SV sts.length ks] 27))/\W.heap.size<=wr.heap.size) (fun p _=>sts.length-(Au p).toNat)
 case atStart=>exact⟨0,by omega,rfl,[],by simp[Aw],H0,Dc,iZ,Le _⟩
 case round=>
  obtain⟨s,hs,rfl,pre,hp,mh,AO,ay,aX⟩:=hrel
  by_cases aa:s<sts.length
  . obtain⟨b,o,A',k',rfl,lz,q1,hM⟩:=AO.out.at_ s aa
    have iy:=HF.out _ (Ld aa);have tn:=Jt aa;obtain⟨L,hL⟩:=Ki (sts[s]);rw[hL] at q1 hM iy tn;have HP:Aw (pre.map (·.1)++((L.drop 0).map (fun m=>((s:Int),m))++zU (s+1) (sts.drop (s+1)))=zU 0 sts):=by rw[Nc,<-tn];exact hp.out
    have HM0:=zH hM;gi_wp2_with fail
    gi_loopw [17] (fun p wr=>∃j:Nat,j<=L.length/\p=O U (j:Int)/\∃pre:List { x:Int×Mv // x∈zU 0 sts },Aw (pre.map (·.1)++((L.drop j).map (fun m=>((s:Int),m))++zU (s+1) (sts.drop (s+1)))=zU 0 sts)/\Aw (Ah pre wr)/\Aw (SAt wr B (J ⟨b,o,Z⟩) sts)/\Aw (wr.heap[bx]?=J (Ai #[O U n0,I (J ⟨b,o,Z⟩) sts.length ks] 27))/\Aw (MAt wr B A' L)/\W.heap.size<=wr.heap.size) (fun p _=>L.length-(Au p).toNat)
    case atStart=>exact⟨0,by omega,rfl,pre,HP,mh,AO,ay,HM0,aX⟩
    case round=>
     obtain⟨j,hj,rfl,pre,hp,mh,AO,ay,hMr,aX⟩:=hrel
     by_cases cq:j<L.length
     . obtain⟨b2,o2,rfl,ag,m0,m1,m2,m3,m4,m5,m6,m7⟩:=hMr.out.row j cq
       have hdj:L.drop j=L[j]::L.drop (j+1):=LB cq;obtain⟨m,hm⟩:=Ki (L[j]);rw[hm] at m0 m1 m2 m3 m4 m5 m6 m7 hdj
       have ti:pre.map (·.1)++(((s:Int),m)::((L.drop (j+1)).map (fun m=>((s:Int),m))++zU (s+1) (sts.drop (s+1))))=zU 0 sts:=by
        have:=hp.out;rw[hdj,L5,Ns] at this;exact this
       have dx:((s:Int),m)∈zU 0 sts:=by rw[<-ti];simp
       have aS:pre.length<(zU 0 sts).length:=by
        have:=congrArg List.length ti;simp only[List.length_append,List.length_map,List.length_cons] at this;omega
       obtain⟨fn,tmps,assign,body,hy,hR⟩:=HY.out pre ⟨((s:Int),m),dx⟩ _ (UK.out _ _ (Ai #[O U m.r.n,O U m.r.h0,O U m.r.h1,O U m.r.h2,O U m.r.h3,O U m.r.h4,O U m.r.f,O U m.to] 94) mh.out) aS;unfold Mv.cells at hy;dsimp only at hy
       have Hh:Aw ((pre++[(⟨((s:Int),m),dx⟩:{ x:Int×Mv // x∈zU 0 sts })]).map (·.1)++((L.drop (j+1)).map (fun m=>((s:Int),m))++zU (s+1) (sts.drop (s+1)))=zU 0 sts):=by
        rw[LM,Nn];exact ti
       have HR:=zH hR;gi_wp2_with fail;refine HR.out.mono ?_;rintro e W3 (⟨rfl,Tv,rM⟩ | ⟨rfl,AT⟩)
       . have aK:wr.heap.size<=W3.heap.size:=by have:=rM.size;simp at this;omega
         have aW:∀k,(k<B\/k=bx)->k<wr.heap.size->W3.heap[k]?=wr.heap[k]?:=fun k hk aa=>(rM.same k hk (by simp;omega)).trans (yU (SI aa) _ |>.trans (SI aa).symm)
         have S3:=zH (AO.out.same aK (fun k hk=>aW k (.inl hk) (by omega)));have M3:=zH (hMr.out.same aK (fun k hk=>aW k (.inl hk) (by omega)));have B3:=zH ((aW bx (.inr rfl) (by omega)).trans ay.out);have J3:=zH Tv;have iP:W.heap.size<=W3.heap.size:=by omega
         gi_wp2_with fail
         go_roundw
         case rel=>exact⟨j+1,by omega,by go_num,_,Hh,J3,S3,B3,M3,iP⟩
         case measure=>simp[Au];omega
       . gi_wp2_with fail
         refine LG (Sd rfl _ _ _) rfl ?_;refine⟨⟨_,rfl⟩,.inr ⟨_,?_,AT⟩⟩;exact⟨_,Hh.out⟩
     . obtain rfl:j=L.length:=by omega
       have HP:Aw (pre.map (·.1)++zU (s+1) (sts.drop (s+1))=zU 0 sts):=by have:=hp.out;rwa[NB,NE,Nq] at this
       gi_wp2_with fail
       go_roundw
       case rel=>exact⟨s+1,by omega,by go_num,pre,HP,mh,AO,ay,aX⟩
       case measure=>simp[Au];omega
  . obtain rfl:s=sts.length:=by omega
    have HP:Aw (pre.map (·.1)=zU 0 sts):=by have:=hp.out;rwa[NB,zU,Nr] at this
    gi_wp2_with fail
    go_end0
    exact⟨⟨_,rfl⟩,.inl ⟨pre,HP.out,mh.out⟩⟩
theorem kI{w:Ba}{g:Nat}{v:Ax}{t:TypeId}(h:w.heap[g]?=J (Ai #[v] t (0,0)))(v':Ax) :
  (w.setCell ⟨g,0,Z⟩ v').heap[g]?=J (Ai #[v'] t (0,0))/\(w.setCell ⟨g,0,Z⟩ v').heap.size=w.heap.size/\∀k,k≠g->(w.setCell ⟨g,0,Z⟩ v').heap[k]?=w.heap[k]?:=by
 refine⟨?_,by simp[World.setCell],fun k hk=>Lh w ⟨g,0,Z⟩ v' k hk⟩;rw[World.setCell,PG,Li rfl,h]
 rfl
theorem vy{B D:Nat}{w:Ba}(hB:B<=D)(hk:w.heap[D]?=J (.deferred (J []))):Marks B [{ target:=.collected D,args:=#[] }] w:=
 ⟨[D],rfl,by simp,fun r hr=>by simp only[List.mem_singleton] at hr;subst hr;exact⟨hB,hk⟩⟩
structure SzIn(B:Nat)(C:Array Ax)(T:TypeId)(Fb:Int)(w W:Ba):Prop where
 below:Ar B w W
 b0:W.heap[B]?=J (Ai C T (0,0))
 b1:W.heap[B+1]?=J (Ai #[O U Fb] 3 (0,0))
theorem SzIn.turn{B:Nat}{C:Array Ax}{T:TypeId}{Fb:Int}{w W W':Ba}{row:Option Nat}(h:SzIn B C T Fb w W)(hg:W.grownBy W' row)(hr:∀r,row=J r->B<=r/\∃o:Obj,W.heap[r]?=J o/\o.isCells=AC):SzIn B C T Fb w W':=
 ⟨h.below.grown hg (by have:=(Lu.1 h.b0).1;omega) (fun k hk=>(hr k hk).1),(Nj hg (fun r e=>(hr r e).2) h.b0 rfl).trans h.b0,(Nj hg (fun r e=>(hr r e).2) h.b1 rfl).trans h.b1⟩
theorem SzIn.set{B:Nat}{C:Array Ax}{T:TypeId}{Fb:Int}{w W:Ba}(h:SzIn B C T Fb w W)(c':Int):SzIn B C T c' w (W.setCell ⟨B+1,0,Z⟩ (O U c')):=by
 obtain⟨x1,x2,x3⟩:=kI h.b1 (O U c');exact⟨h.below.setCell (by simp) _,(x3 B (by omega)).trans h.b0,x1⟩
theorem SzIn.keeps{B D:Nat}{C:Array Ax}{T:TypeId}{Fb:Int}{w W:Ba}(h:SzIn B C T Fb w W)(c':Int)(K:Nat->Prop)(hK:¬K (B+1)):KeepsFrom D W (W.setCell ⟨B+1,0,Z⟩ (O U c'))/\KeepB K W (W.setCell ⟨B+1,0,Z⟩ (O U c')):=by
 obtain⟨x1,x2,x3⟩:=kI h.b1 (O U c');refine⟨⟨by omega,fun k o _ hk ho=>?_⟩,KeepB.setCell hK _⟩;have k1:k≠B+1:=by rintro rfl;rw[h.b1] at hk;cases hk;cases ho
 exact(x3 k k1).trans hk
theorem sized_any(a:Ad)(hf:FewA a)(SV:Bb)(ks:Nat)(w:Ba)(hS:SAt w w.heap.size SV a.sts) :
  As Aq 185 #[Ak #[O U a.n,I SV a.sts.length ks]] w fun e w'=>e=Am (O U (if a.sts.length<1 then 5 else 0))/\Ar w.heap.size w w':=by
 have ly:=hf.1;have ny:=hf.2;have fa:=mvsFrom_len a;have HI:=zH (fun (bx:Nat) (w':Ba) (hb:w'.heap[bx]?=J (Ai #[O U a.n,I SV a.sts.length ks] 27)) (h:SAt w' w.heap.size SV a.sts) (hB:w.heap.size<=w'.heap.size)=>vx a hf SV ks w.heap.size bx w' hb h hB);have HS:=zH hS;obtain⟨nl,eN⟩:=Ki ((zU 0 a.sts).length);have o9:=zH eN;clear hS;refine xm func185 rfl ?_;simp only[ntmps185,List.size_toArray,List.length_cons,List.length_nil,Nat.reduceAdd,Nat.reduceSub,Array.replicate_succ,Array.replicate_zero,List.push_toArray,List.append_toArray,List.nil_append,List.cons_append];go_wp2_with fail;obtain⟨w2,bZ,b0,b1,aX,hB⟩:=yV w #[O U a.n,I SV a.sts.length ks] #[O U 0] 27 3;rw[bZ];have ec:w2.heap.size=w.heap.size+2:=by rw[<-bZ];simp
 refine(gG a.n (I SV a.sts.length ks) w2).mono ?_;rintro e W ⟨rfl,hW⟩;have bb:=zy w2 (Ai #[O U a.n,I SV a.sts.length ks] 27);have cH:Ar w2.heap.size w2 W:=by rw[<-hW];exact ye _ _
 have aK:w2.heap.size<W.heap.size:=by rw[<-hW];simp
 rw[hW] at bb;have hI0:SzIn w.heap.size #[O U a.n,I SV a.sts.length ks] 27 0 w W:=⟨hB.trans (cH.mono (by omega)),jN b0 cH (by omega),jN b1 cH (by omega)⟩;have hit:=HI.out w2.heap.size W bb ((HS.out.keep hB).keep (cH.mono (by omega))) (by omega);have H0:=zH hI0;have lh:=zH hit;have HZ:=zH ec;have cO:w.heap.size+2<=w2.heap.size:=aX;clear bZ hW bb b0 b1 hB cH hI0 hit ec aX HI HS eN;go_wp2_with fail
 refine JT rfl (Pg Sj (by kernel_rfl) rfl) lh.out (by rintro k (h | rfl)<;>omega) (fun _=>rfl)
  (fun (pre:List { x:Int×Mv // x∈zU 0 a.sts }) W=>SzIn w.heap.size #[O U a.n,I SV a.sts.length ks] 27 ((pre.length:Nat):Int) w W) (fun _ _ _=>False) (fun _ _ _ _ h hg hr=>h.turn hg (fun r e=>⟨by have:=(hr r e).1;omega,(hr r e).2⟩)) (fun _ _ _ _ _ h _ _=>h)
  H0.out ?a1 ?assign ?body ?done ?stop
 case assign=>
  intro l x W K hK;gi_wp2;exact hK
 case body=>
  intro l pre x W hI aa;have DD:pre.length<100:=by have:=o9.out;omega
  have c1:=zh hI.b1 0 rfl;have f1:=zi hI.b1 0;have HI:=zH hI;clear hI aa;gi_wp2_with fail;have hK:¬(w.heap.size+1<w.heap.size\/w.heap.size+1=w2.heap.size):=by have:=HZ.out;omega
  refine⟨(HI.out.keeps _ (fun k=>k<w.heap.size\/k=w2.heap.size) hK).1,(HI.out.keeps (D:=0) _ (fun k=>k<w.heap.size\/k=w2.heap.size) hK).2,?_⟩;have:=HI.out.set ((pre.length:Int)+1);dsimp only;rw[show(((pre++[x]).length:Nat):Int)=(pre.length:Int)+1 by simp];exact this
 case done=>
  intro D ys W hD nI hI mi;have aS:ys.length=(zU 0 a.sts).length:=by have:=congrArg List.length nI;rwa[LJ] at this
  have fY:ys.length<=40:=by omega
  obtain⟨q0,q1,_⟩:=Ka hI.b0;have c1:=zh hI.b1 0 rfl;have HI:=zH hI;have HD:=zH mi
  by_cases hz:a.sts.length<1
  . clear hI mi aS nI
    go_wp2_with fail
    all_goals first | (exfalso;omega) | skip
    refine xP (B:=w.heap.size) (vy (by omega) HD.out) (v:=O U 5) (fun W=>by kernel_rfl) ?_;intro W hS;exact⟨by first | rfl | rw[Li hz],HI.out.below.trans hS.below⟩
  have cO:¬((a.sts.length:Int)<1):=by omega
  clear hI mi aS nI;go_wp2_with fail
  all_goals first | (exfalso;omega) | skip
  refine xP (B:=w.heap.size) (vy (by omega) HD.out) (v:=O U 0) (fun W=>by kernel_rfl) ?_;intro W hS;exact⟨by first | rfl | rw[Lg hz],HI.out.below.trans hS.below⟩
 intro D c pre W _ _ h;exact h.elim
theorem uZ{a:Ad}(h:a.n<1\/5<a.n):qQ a=2:=Li h
theorem Za{a:Ad}(h:¬(a.n<1\/5<a.n))(h2:a.sts.length<1):qQ a=5:=by unfold qQ;rw[Lg h,Li (.inl h2)]
theorem uY{a:Ad}(h:¬(a.n<1\/5<a.n))(h2:1<=a.sts.length)(hf:FewA a)(h3:zQ a a.sts≠0):qQ a=zQ a a.sts:=by
 unfold qQ;rw[Lg h,Lg (by have:=hf.1;have:=hf.2;omega),Li h3]
theorem we{a:Ad}(h:¬(a.n<1\/5<a.n))(h2:1<=a.sts.length)(hf:FewA a)(h3:zQ a a.sts=0):qQ a=if qk a=AA then 0 else 21:=by
 unfold qQ;rw[Lg h,Lg (by have:=hf.1;have:=hf.2;omega),Lg (by simpa using h3)]
theorem ux{a:Ad}:∀ {p:Option Mv} {l:List Mv},jF a p l=0->∀m∈l,yD m.r=0/\m.r.n=a.n/\0<=m.to/\m.to<a.sts.length
 | _,[],_,m,hm=>by cases hm
 | p,x::r,h,m,hm=>by
  rw[jF] at h
  split at h
  . rename_i h1;exact absurd h h1
  . rename_i h1
    have h1:qB a p x=0:=by simpa using h1
    rcases LL.1 hm with rfl | hm
    . unfold qB at h1
      split at h1
      . rename_i h2;exact absurd h1 h2
      . split at h1
        . cases h1
        . split at h1
          . cases h1
          . split at h1
            . cases h1
            . rename_i h2 h3 h4 h5
              exact⟨by simpa using h2,by simpa using h3,by omega,by omega⟩
    . exact ux h m hm
theorem vh{a:Ad}:∀ {xs:List (List Mv)},zQ a xs=0->∀l∈xs,l.length≠0/\∀m∈l,yD m.r=0/\m.r.n=a.n/\0<=m.to/\m.to<a.sts.length
 | [],_,l,hl=>by cases hl
 | x::r,h,l,hl=>by
  rw[zQ] at h
  split at h
  . rename_i h1;exact absurd h h1
  . rename_i h1
    have h1:qW a x=0:=by simpa using h1
    rcases LL.1 hl with rfl | hl
    . unfold qW at h1
      split at h1
      . cases h1
      . rename_i h2
        exact⟨h2,fun m hm=>ux (p:=zM l 0) (l:=l) (by have:=h1;unfold qr at this;rwa[Nc] at this) m hm⟩
    . exact vh h l hl
theorem kX{r:Rd}(h:yD r=0):1<=r.n/\r.n<=5/\xj r=0/\xC r.n r.f=0:=by
 unfold yD at h
 split at h
 . rename_i h1;exact absurd h h1
 rename_i h1;have h1:xj r=0:=by simpa using h1
 refine⟨?_,?_,h1,h⟩
 . unfold xj at h1
   split at h1
   . cases h1
   omega
 unfold xj at h1
 split at h1
 . cases h1
 omega
theorem qq{a:Ad}(h:zQ a a.sts=0):∀m∈a.mvs,yD m.r=0/\m.r.n=a.n/\0<=m.to/\m.to<a.sts.length:=fun m hm=>by
 obtain⟨l,hl,fa⟩:=NI.1 hm;exact(vh h l hl).2 m fa
theorem kO{m:Mv}(h:yD m.r=0):∃f:Nat,m.r.f=(f:Int)/\f<32:=by
 obtain⟨_,k,_,e,_,_,_,hk⟩:=check_ok (kX h).2.2.2;exact⟨k,e,hk⟩
theorem andnot_zero{s x:Nat}(hs:s<32)(hx:x<32):(bits BinOp.andNot U (x:Int) (s:Int)=0)↔(x &&& s=x):=by
 have h1:=vf (p:=fun s=>wU fun x=>decide ((bits BinOp.andNot U (x:Int) (s:Int)=0)↔(x &&& s=x))) (by decide +kernel) hs;have h2:=vf h1 hx;simpa using h2
theorem Js{a:Ad}{x:Int×Mv}(h:x∈zU 0 a.sts):x.2∈a.mvs:=by
 have:x.2∈(zU 0 a.sts).map Prod.snd:=LZ.2 ⟨x,h,rfl⟩;rwa[jl] at this
end
section
open Go.RowKit
theorem flat_step{xss:List (List Mv)}{k:Nat}(h:k<xss.length):((xss.take (k+1)).flatten).length=((xss.take k).flatten).length+xss[k].length:=by
 rw[Lr h,List.flatten_append,Lw];simp
theorem flat_le{xss:List (List Mv)}{k:Nat}:((xss.take k).flatten).length<=xss.flatten.length:=by
 conv=>rhs;rw[<-P8 k xss]
 rw[List.flatten_append,Lw];omega
theorem YB(a:Ad)(SV:Bb)(ks:Nat)(hl:a.sts.length<=17592186044416)(hm:a.mvs.length<=4611686018427387904)(aU:∀l∈a.sts,l.length<=17592186044416)(w:Ba)(hS:SAt w w.heap.size SV a.sts) :
  As Aq 73 #[Ak #[O U a.n,I SV a.sts.length ks]] w fun e w'=>e=Am (O U (a.mvs.length:Nat))/\w'=w.alloc (Ai #[O U a.n,I SV a.sts.length ks] 27):=by
 have HS:=zH (hS.keep (ye w (Ai #[O U a.n,I SV a.sts.length ks] 27)));have ic:=zH aU;obtain⟨n0,sts⟩:=a;unfold Ad.mvs at hm ⊢;dsimp only at hl hm ic HS ⊢;go_enter func73,ntmps73;go_wp2_with fail
 go_loop [3,4] (fun v i=>∃k c:Nat,k<=sts.length/\i=O U (k:Int)/\v=O U (c:Int)/\Aw (c=((sts.take k).flatten).length)) (fun _ i=>sts.length-(Au i).toNat)
 case atStart=>exact⟨0,0,by omega,rfl,rfl,rfl⟩
 obtain⟨k,c,hk,rfl,rfl,hc⟩:=hrel
 by_cases aa:k<sts.length
 . obtain⟨b,o,A',k',rfl,lz,c1,_⟩:=HS.out.at_ k aa
   have dl:=ic.out _ (Ld aa);have fh:=flat_step aa;have eU:=flat_le (xss:=sts) (k:=k+1);obtain⟨ll,aU⟩:=Ki (sts[k].length);rw[aU] at c1 dl fh;have MR:c+ll=((sts.take (k+1)).flatten).length:=by rw[fh,hc.out]
   have hb:c+ll<=4611686018427387904:=by omega
   have HC:=zH MR;go_wp2_with fail
   go_round
   case rel=>exact⟨k+1,c+ll,by omega,by go_num,by go_num,HC.out⟩
   simp[Au];omega
 obtain rfl:k=sts.length:=by omega
 have MR:c=sts.flatten.length:=by rw[hc.out,LC]
 subst MR;go_wp2_with fail;go_ret;exact⟨rfl,rfl⟩
theorem mvs_le{a:Ad}(h8:a.sts.length<=8)(aU:∀l∈a.sts,l.length<=17592186044416):a.mvs.length<=4611686018427387904:=by
 have h:∀(xs:List (List Mv)),(∀l∈xs,l.length<=17592186044416)->xs.flatten.length<=xs.length*17592186044416:=by
  intro xs
  induction xs with
  | nil=>intro _;simp
  | cons x xs ih=>
   intro hx;have h1:=ih fun l hl=>hx l (RZ _ hl)
   have h2:=hx x (Sb ..);rw[Rz,Lw,LE,Nat.succ_mul];omega
 have h1:=h a.sts aU;unfold Ad.mvs;omega
theorem rfewA_any(a:Ad)(SV:Bb)(ks:Nat)(hl:a.sts.length<=17592186044416)(aU:∀l∈a.sts,l.length<=17592186044416)(w:Ba)(hS:SAt w w.heap.size SV a.sts) :
  As Aq 34 #[Ak #[O U a.n,I SV a.sts.length ks]] w fun e w'=>e=Am (Aj (decide (a.sts.length<=8)&&decide (a.mvs.length<=40)))/\Ar w.heap.size w w':=by
 have HC:=zH (fun (hm:a.mvs.length<=4611686018427387904)=>YB a SV ks hl hm aU (w.alloc (Ai #[O U a.n,I SV a.sts.length ks] 27)) ((hS.keep (ye w _)).more (by simp)));have hm8:=zH (fun (h8:a.sts.length<=8)=>mvs_le h8 aU);obtain⟨q,hq⟩:=Ki a.mvs.length;rw[hq] at HC hm8 ⊢;obtain⟨sl,f'⟩:=Ki a.sts.length;rw[f'] at HC hm8 hl ⊢;go_enter func34,ntmps34
 by_cases h1:sl<=8
 . have hm:=hm8.out h1
   go_wp2_with fail
   all_goals first | (exfalso;omega) | skip
   refine(HC.out hm).mono ?_;rintro e w1 ⟨rfl,rfl⟩;go_wp2_with fail;go_ret;exact⟨zn (by first | (rw[Lm h1,Nt];exact dec_eq (by omega)) | exact dec_eq (by omega)),kJ w _ _⟩
 go_wp2_with fail
 all_goals first | (exfalso;omega) | skip
 go_ret;exact⟨zn (by first | rfl | rw[Lj h1,Pf]),ye w _⟩
theorem moves_small{a:Ad}(hf:FewA a):(∀l∈a.sts,l.length<=17592186044416)/\a.sts.length<=17592186044416/\a.mvs.length<=4611686018427387904:=
 ⟨fun l hl=>by have:=hf.each hl;omega,by have:=hf.1;omega,by have:=hf.2;omega⟩
theorem rmove_any(a:Ad)(SV:Bb)(ks:Nat)(_Kq:a.sts.length<=8)(A:Bb)(k0:Nat)(l:List Mv)(hl:l.length<=40)(k:Nat)(aa:k<l.length)(w:Ba)(hA:MAt w w.heap.size A l) :
  As Aq 123 #[Ak #[O U a.n,I SV a.sts.length ks],I A l.length k0,O U k] w fun e w'=>e=Am (O U (qB a (zM l k) l[k]))/\Ar w.heap.size w w':=by
 have HA:=zH hA;obtain⟨b,o,rfl,lz,c0,c1,c2,c3,c4,c5,c6,c7⟩:=hA.row k aa;obtain⟨bo,dF⟩:=Ki (XU (zM l k) l[k]);have cx:=zH dF;have m1:=zH (@ZA a (zM l k) l[k]);have m2:=zH (@moveE_n a (zM l k) l[k]);have m3:=zH (@ZB a (zM l k) l[k]);have m4:=zH (@moveE_to a (zM l k) l[k]);have m5:=zH (@moveE_ok a (zM l k) l[k]);rw[dF] at m3 m4 m5;obtain⟨m,hm⟩:=Ki (l[k]);have HX:=zH hm;obtain⟨mE,Pd⟩:=Ki (qB a (zM l k) l[k]);rw[Pd] at m1 m2 m3 m4 m5 ⊢;rw[hm] at c0 c1 c2 c3 c4 c5 c6 c7 m1 m2 m3 m4 m5;have HR:=zH (fun w'=>ZQ m.r w');obtain⟨rE,OU⟩:=Ki (yD m.r);rw[OU] at m1 m2 m3 m4 m5 HR;unfold Rd.cells at HR;clear dF hm Pd OU hA;go_enter func123,ntmps123;go_wp2_with fail;obtain⟨W1,eO,b0,b1,aK,bP⟩:=yV w #[O U a.n,I SV a.sts.length ks] #[O U m.r.n,O U m.r.h0,O U m.r.h1,O U m.r.h2,O U m.r.h3,O U m.r.h4,O U m.r.f] 27 92;rw[eO];refine(HR.out W1).mono ?_;rintro e w1 ⟨rfl,aq⟩;have li:=zH (bP.trans (aq.mono (by omega)));have d0:=Lb aq (by omega) b0;have d1:=Lb aq (by omega) b1;have cN:=zH d1;have bK:=zH d0;obtain⟨q0,q1,_⟩:=Ka d0;obtain⟨p0,p1,p2,p3,p4,p5,p6,_⟩:=Kf d1;have Dv:=zj d1;obtain⟨_,_,e7,_,_,_,_,_,_,_,_,p7⟩:=(HA.out.keep li.out).row k aa
 cases e7
 rw[HX.out] at p7;clear eO b0 b1 bP aq d0 d1 c0 c1 c2 c3 c4 c5 c6 c7 HR
 by_cases hr:rE=0
 case neg=>
  have he:=zH (m1.out hr);have e0:(rE != 0)=AA:=by simpa using hr
  clear m1 m2 m3 m4 m5 hr cx HX;go_wp2_with fail;go_ret;exact⟨zm he.out.symm,li.out⟩
 case pos=>
 subst hr;clear m1
 by_cases hn:m.r.n=a.n
 case neg=>
  have he:=zH (m2.out (by simp) hn);have e0:(m.r.n != a.n)=AA:=by simpa using hn
  clear m2 m3 m4 m5 hn cx HX;go_wp2_with fail;go_ret;exact⟨zm he.out.symm,li.out⟩
 case pos=>
 have e0:(m.r.n != a.n)=AC:=by simpa using hn
 have n3:=zH (m3.out (by simp) hn);have n4:=zH (m4.out (by simp) hn);have n5:=zH (m5.out (by simp) hn);clear m2 hn m3 m4 m5
 cases k with
 | zero=>
  obtain rfl:bo=AC:=by rw[<-cx.out];rfl
  have g0:decide ((0:Int)<0)=AC:=by decide
  rw[PD,NS] at p7;clear cx HX n3;go_wp2_with fail;go_quiet (fail)
  by_cases ht:m.to<0\/(a.sts.length:Int)<=m.to
  . have he:=zH (n4.out (by simp) ht)
    clear n4 n5
    by_cases Du:m.to<0
    . clear ht
      go_wp2_with fail;go_quiet (fail);go_wp2_with fail;go_ret;exact⟨zm he.out.symm,by repeat (first | exact li.out | refine zP ?_ _)⟩
    . have H9:(a.sts.length:Int)<=m.to:=by omega
      clear ht;go_wp2_with fail;go_quiet (fail);go_wp2_with fail;go_ret;exact⟨zm he.out.symm,by repeat (first | exact li.out | refine zP ?_ _)⟩
  . have he:=zH (n5.out (by simp) ht)
    have Du:¬m.to<0:=by omega
    have H9:¬(a.sts.length:Int)<=m.to:=by omega
    clear n4 n5 ht;go_wp2_with fail;go_quiet (fail);go_wp2_with fail;go_ret;exact⟨zm he.out.symm,by repeat (first | exact li.out | refine zP ?_ _)⟩
 | succ j=>
  have hj:j<l.length:=by omega
  have cV:XU (zM l (j+1)) l[j+1]=decide (0<=zJ l[j].r.l l[j+1].r.l):=by rw[yM l j hj];rfl
  rw[HX.out] at cV;rw[show XU (zM l (j+1)) m=bo by have:=cx.out;rwa[HX.out] at this] at cV;obtain⟨b',o',e',_,u0,u1,u2,u3,u4,u5,u6,u7⟩:=(HA.out.keep li.out).row j hj
  cases e'
  have hc:=fun w'=>Yv l[j].r m.r w'
  obtain⟨mj,O8⟩:=Ki (l[j]);rw[O8] at cV hc u0 u1 u2 u3 u4 u5 u6 u7;obtain⟨r,hr⟩:=Ki (zJ mj.r.l m.r.l);rw[hr] at cV hc;unfold Rd.cells at hc;have dZ:=zH cV;have HC:=zH hc;have g1:((j:Int)+1).toNat=j+1:=by omega
  have g3:IntKind.i64.wrap ((j:Int)+1-1)=(j:Int):=by rw[Ls];omega
  have g5:IntKind.i64.wrap ((j:Int)+1)=(j:Int)+1:=by rw[Ls];omega
  have g6:decide ((0:Int)<(j:Int)+1)=AA:=Lm (by omega);have g7:IntKind.i64.wrap (j:Int)=(j:Int):=by rw[Ls];omega
  have g8:(0:Int)<=(j:Int):=by omega
  have g9:(j:Int)<(l.length:Int):=by omega
  clear cV hc hr O8 cx;go_wp2_with fail
  go_still_tail 10,(by kernel_rfl)
  change wpList _ _ _ _ _ w1.drew;obtain⟨w2,bZ⟩:∃w2,w2=w1.drew:=⟨_,rfl⟩;have Mr:Aw (Ar w.heap.size w w2):=by rw[bZ];exact li.out.drew
  have az:Aw (w2.heap[w.heap.size]?=J (Ai #[O U a.n,I SV a.sts.length ks] 27 (0,0))):=by rw[bZ];exact bK.out
  rw[<-bZ];clear bK cN bZ q0 q1 p0 p1 p2 p3 p4 p5 p6 p7 u0 u1 u2 u3 u4 u5 u6 u7 g3 g7 g8 g9;go_wp2_with fail;refine(HC.out w2).mono ?_;rintro e w3 ⟨rfl,aj⟩;have sk:=zH (Lc Mr.out aj);have d0:=La aj az.out;obtain⟨q0,q1,_⟩:=Ka d0;obtain⟨_,_,e7,_,_,_,_,_,_,_,_,p7⟩:=(HA.out.keep sk.out).row (j+1) aa
  cases e7
  rw[HX.out] at p7;have i1:(0:Int)<=(j:Int)+1:=by omega
  have i2:(j:Int)+1<(l.length:Int):=by omega
  clear d0 aj HC HX
  cases bo with
  | true=>
   have g0':0<=r:=LR dZ.out.symm;have he:=zH (n3.out (by simp));clear n3 n4 n5 dZ;go_wp2_with fail
   all_goals first | (exfalso;omega) | skip
   go_ret;exact⟨zm he.out.symm,sk.out⟩
  | false=>
   have g0':¬0<=r:=N6 dZ.out.symm;clear n3 dZ
   by_cases ht:m.to<0\/(a.sts.length:Int)<=m.to
   . have he:=zH (n4.out (by simp) ht)
     clear n4 n5
     by_cases Du:m.to<0
     . clear ht
       go_wp2_with fail
       all_goals first | (exfalso;omega) | skip
       go_quiet (fail);go_wp2_with fail;go_ret;exact⟨zm he.out.symm,by repeat (first | exact sk.out | refine zP ?_ _)⟩
     . have H9:(a.sts.length:Int)<=m.to:=by omega
       clear ht;go_wp2_with fail
       all_goals first | (exfalso;omega) | skip
       go_quiet (fail);go_wp2_with fail;go_ret;exact⟨zm he.out.symm,by repeat (first | exact sk.out | refine zP ?_ _)⟩
   . have he:=zH (n5.out (by simp) ht)
     have Du:¬m.to<0:=by omega
     have H9:¬(a.sts.length:Int)<=m.to:=by omega
     clear n4 n5 ht;go_wp2_with fail
     all_goals first | (exfalso;omega) | skip
     go_quiet (fail);go_wp2_with fail;go_ret;exact⟨zm he.out.symm,by repeat (first | exact sk.out | refine zP ?_ _)⟩
end
section
open Go.RowKit
attribute [local go_sem] Oper.semAt_some
def okB(a:Ad)(m:Mv):Bool:=(a.at_ m.to).all fun k=>jb m k
theorem grows_all{a:Ad}(h:∀t (ht:t<a.sts.length),∀m∈a.sts[t],okB a m=AA):qk a=AA:=by
 unfold qk;rw[LT];intro m hm;obtain⟨l,hl,fa⟩:=NI.1 hm;obtain⟨t,ht,rfl⟩:=Pe.1 hl;exact h t ht m fa
theorem grows_none{a:Ad}{m k:Mv}(hm:m∈a.mvs)(hk:k∈a.at_ m.to)(h:jb m k=AC):qk a=AC:=by
 rw[Bool.eq_false_iff];intro hg;unfold qk at hg;have:=LT.1 (LT.1 hg m hm) k hk;rw[this] at h
 cases h
theorem at_get{a:Ad}{t:Nat}(h:t<a.sts.length){x:Int}(hx:x=(t:Int)):a.at_ x=a.sts[t]:=by
 subst hx;unfold Ad.at_;rw[Lo,Lk,Ln h];rfl
theorem rgrows_any(a:Ad)(hf:FewA a)(hz:zQ a a.sts=0)(SV:Bb)(ks:Nat)(w:Ba)(hS:SAt w w.heap.size SV a.sts) :
  As Aq 124 #[Ak #[O U a.n,I SV a.sts.length ks]] w fun e w'=>e=Am (Aj (qk a))/\Ar w.heap.size w w':=by
 have ly:=hf.1;have rF:=zH (fun l hl=>hf.each (l:=l) hl);have HZ:=zH (@qq a hz);have HGA:=zH (@grows_all a);have Hk:=zH (fun m k hm hk h=>@grows_none a m k hm hk h);obtain⟨G,hG⟩:=Ki (qk a);rw[hG] at HGA ⊢;simp only[hG] at Hk;go_enter func124,ntmps124;go_wp2_with fail;obtain⟨w1,ab⟩:=Ki (w.alloc (Ai #[O U a.n,I SV a.sts.length ks] 27));have aY:=zy w (Ai #[O U a.n,I SV a.sts.length ks] 27);have aM:Ar w.heap.size w w1:=by rw[<-ab];exact ye w _
 have eP:w1.heap.size=w.heap.size+1:=by rw[<-ab];simp
 rw[ab] at aY ⊢;have cJ:=zH aY;have ch:=zH aM;have HS:=zH ((hS.keep aM).more (by omega:w.heap.size<=w1.heap.size))
 go_loopw [3] (fun i wr=>∃s:Nat,s<=a.sts.length/\i=O U (s:Int)/\Aw (∀t (ht:t<a.sts.length),t<s->∀m∈a.sts[t],okB a m=AA)/\Aw (Ar w1.heap.size w1 wr)) (fun i _=>a.sts.length-(Au i).toNat)
 case atStart=>exact⟨0,by omega,rfl,(fun t ht h0=>by omega),Ll _ _⟩
 obtain⟨s,hs,rfl,i9,cA⟩:=hrel;have bC:=La cA.out cJ.out;have q1:=zh bC 1 rfl
 by_cases aa:s<a.sts.length
 case neg=>
  obtain rfl:s=a.sts.length:=by omega
  have hg:=zH (HGA.out (fun t ht=>i9.out t ht ht));go_wp2_with fail;go_ret;exact⟨zn hg.out.symm,ch.out.trans (cA.out.mono (by omega))⟩
 case pos=>
 obtain⟨b,o,A',k',rfl,lz,c1,hM⟩:=(HS.out.keep cA.out).at_ s aa;have iy:=rF.out _ (Ld aa);have UH:Aw (∀m∈a.sts[s],m∈a.mvs):=fun m hm=>NI.2 ⟨_,Ld aa,hm⟩
 have mI:Aw ((∀m∈a.sts[s],okB a m=AA)->∀t (ht:t<a.sts.length),t<s+1->∀m∈a.sts[t],okB a m=AA):=fun h t ht h2 m hm=>by
  by_cases e:t=s
  . subst e;exact h m hm
  . exact i9.out t ht (by omega) m hm
 have fg:Aw (∀wr:Ba,Ar w1.heap.size w1 wr->wr.cell? ⟨b,o+s,Z⟩=J (.slice A' (a.sts[s]).length k')/\MAt wr w1.heap.size A' a.sts[s]):=fun Ok di=>
  ⟨((di.cell (p:=⟨b,_,Z⟩) lz).trans ((cA.out.cell (p:=⟨b,_,Z⟩) lz).symm)).trans c1,(by
   obtain⟨b2,o2,A2,k2,e2,cH,c2,EY⟩:=(HS.out.keep di).at_ s aa
   cases e2
   have:=(((di.cell (p:=⟨b,o+s,Z⟩) lz).trans ((cA.out.cell (p:=⟨b,o+s,Z⟩) lz).symm)).trans c1).symm.trans c2
   cases this
   exact EY)⟩
 obtain⟨L,hL⟩:=Ki (a.sts[s]);rw[hL] at c1 iy UH mI fg;go_wp2_with fail
 go_loopw [4] (fun i wr=>∃j:Nat,j<=L.length/\i=O U (j:Int)/\Aw (∀u (hu:u<L.length),u<j->okB a L[u]=AA)/\Aw (Ar w1.heap.size w1 wr)) (fun i _=>L.length-(Au i).toNat)
 case atStart=>exact⟨0,by omega,rfl,(fun u hu h0=>by omega),cA⟩
 obtain⟨j,hj,rfl,EB,cA⟩:=hrel;have bC:=La cA.out cJ.out;have q1:=zh bC 1 rfl;obtain⟨c1,hM⟩:=fg.out _ cA.out
 by_cases cq:j<L.length
 case neg=>
  obtain rfl:j=L.length:=by omega
  have hg:=zH (mI.out (fun m hm=>by
   obtain⟨u,hu,rfl⟩:=Pe.1 hm
   exact EB.out u hu hu))
  go_wp2_with fail
  go_roundw
  case rel=>exact⟨s+1,by omega,by go_num,hg,cA⟩
  simp[Au];omega
 case pos=>
 obtain⟨b',o',e',hbB',d0,d1,d2,d3,d4,d5,d6,d7⟩:=hM.row j cq
 cases e'
 have HLj:Aw (L[j]∈a.mvs):=UH.out _ (Ld cq)
 have Od:Aw (okB a L[j]=AA->∀u (hu:u<L.length),u<j+1->okB a L[u]=AA):=fun h u hu h2=>by
  by_cases e:u=j
  . subst e;exact h
  . exact EB.out u hu (by omega)
 obtain⟨m,hm⟩:=Ki (L[j]);rw[hm] at d0 d1 d2 d3 d4 d5 d6 d7 HLj Od;obtain⟨z1,z2,z3,z4⟩:=HZ.out m HLj.out;obtain⟨f1,TD,lf1⟩:=kO z1;obtain⟨t,et⟩:=Lp z3;have pj:t<a.sts.length:=by omega
 have bL:=at_get pj et;have HKt:Aw (∀y∈a.at_ m.to,y∈a.mvs):=by rw[bL];exact fun y hy=>NI.2 ⟨_,Ld pj,hy⟩
 have Pp:=rF.out _ (Ld pj)
 have ry:Aw (∀wr:Ba,Ar w1.heap.size w1 wr->∃A' c,wr.cell? ⟨b,o+t,Z⟩=J (.slice A' (a.at_ m.to).length c)/\MAt wr w1.heap.size A' (a.at_ m.to)):=fun Ok di=>by
  rw[bL];obtain⟨b2,o2,A2,k2,e2,cH,c2,EY⟩:=(HS.out.keep di).at_ t pj
  cases e2
  exact⟨A2,k2,c2,EY⟩
 rw[<-bL] at Pp;have mH:Aw ((∀y∈a.at_ m.to,jb m y=AA)->okB a m=AA):=fun h=>LT.2 h
 obtain⟨L2,I4⟩:=Ki (a.at_ m.to)
 have Cn:Aw (∀y∈L2,jb m y=AC->G=AC):=by
  rw[<-I4];exact fun y hy h=>Hk.out m y HLj.out hy h
 rw[I4] at HKt Pp ry mH;have az:=zH TD;have HET:=zH et;rw[et] at d7;clear hM hm z1 z2 z3 z4 et TD bL I4 EB;go_wp2_with fail;obtain⟨wm,oz⟩:=Ki (wr.alloc (Ai m.cells 94));have oS:=zy wr (Ai m.cells 94);have hmB:Ar w1.heap.size w1 wm:=by rw[<-oz];exact cA.out.trans ((ye wr _).mono cA.out.size)
 have oN:wm.heap.size=wr.heap.size+1:=by rw[<-oz];simp
 have Dx:=cA.out.size;rw[oz] at oS;unfold Mv.cells at oz oS;rw[HET.out] at oz oS;rw[oz];obtain⟨g,hg⟩:=Ki wr.heap.size;rw[hg] at oS oN Dx ⊢;have HMB:=zH oS;have HMW:=zH hmB
 go_loopw [6] (fun i wx=>∃q:Nat,q<=L2.length/\i=O U (q:Int)/\Aw (∀u (hu:u<L2.length),u<q->jb m L2[u]=AA)/\Aw (Ar wm.heap.size wm wx)) (fun i _=>L2.length-(Au i).toNat)
 case atStart=>exact⟨0,by omega,rfl,(fun u hu h0=>by omega),Ll _ _⟩
 obtain⟨q,hq,rfl,VT,bk⟩:=hrel;have aQ:=HMW.out.trans (bk.out.mono (by omega));have bC:=La aQ cJ.out;have q1:=zh bC 1 rfl;have eq:=Lb bk.out (by omega) HMB.out;have p6:=zh eq 6 rfl;have p7:=zh eq 7 rfl;obtain⟨A2,k2,c2,EY⟩:=ry.out _ aQ;have cu:=zH aQ
 by_cases oB:q<L2.length
 case neg=>
  obtain rfl:q=L2.length:=by omega
  have hg:=zH (Od.out (mH.out (fun y hy=>by
   obtain⟨u,hu,rfl⟩:=Pe.1 hy
   exact VT.out u hu hu)))
  go_wp2_with fail
  go_roundw
  case rel=>exact⟨j+1,by omega,by go_num,hg,cu⟩
  simp[Au];omega
 case pos=>
 obtain⟨b3,o3,e3,ct,_,_,_,_,_,_,c6,_⟩:=EY.row q oB;subst e3;have dx:=Ld oB;obtain⟨f2,Ed,lf2⟩:=kO (HZ.out _ (HKt.out _ dx)).1;have Em:=zH (Cn.out _ dx)
 have HQ2:Aw (jb m L2[q]=AA->∀u (hu:u<L2.length),u<q+1->jb m L2[u]=AA):=fun h u hu h2=>by
  by_cases e:u=q
  . subst e;exact h
  . exact VT.out u hu (by omega)
 have cP:jb m L2[q]=(f1 &&& f2==f1):=by unfold jb;rw[az.out,Ed,Lo,Lo]
 have HC:=zH (fun w'=>inside_any f1 f2 lf1 lf2 w');obtain⟨y,hy⟩:=Ki (L2[q]);rw[hy] at c6 Em HQ2 cP Ed;obtain⟨bo,dF⟩:∃bo,(f1 &&& f2==f1)=bo:=⟨_,rfl⟩;rw[dF] at cP HC;have sU:=zH cP;have Wi:=az.out;rw[Wi] at p6;rw[Ed] at c6
 cases bo with
 | true=>
  have hg:=zH (HQ2.out sU.out);go_wp2_with fail;go_quiet ((go_at_call 163;exact(HC.out _).mono fun e w' h=>⟨h.1,_,h.2.symm⟩));go_wp2_with fail
  go_roundw
  case rel=>exact⟨q+1,by omega,by go_num,hg,zP bk.out _⟩
  case measure=>simp[Au];omega
 | false=>
  have hg:=zH (Em.out sU.out);go_wp2_with fail;go_quiet ((go_at_call 163;exact(HC.out _).mono fun e w' h=>⟨h.1,_,h.2.symm⟩));go_wp2_with fail;go_ret;exact⟨zn hg.out.symm,zP (ch.out.trans (cu.out.mono (by omega))) _⟩
theorem racheck_any(a:Ad)(hf:FewA a)(SV:Bb)(ks:Nat)(w:Ba)(hS:SAt w w.heap.size SV a.sts) :
  As Aq 75 #[Ak #[O U a.n,I SV a.sts.length ks]] w fun e w'=>e=Am (O U (qQ a))/\Ar w.heap.size w w':=by
 have ly:=hf.1;have ny:=hf.2;obtain⟨fa,EH,lm⟩:=moves_small hf;have NV:=zH (fun (w':Ba) (h:SAt w' w'.heap.size SV a.sts)=>YB a SV ks EH lm fa w' h);have Mb:=zH (fun hz (w':Ba) (h:SAt w' w'.heap.size SV a.sts)=>rgrows_any a hf hz SV ks w' h);have N1:=zH (fun (A:Bb) (k0:Nat) (l:List Mv) (hl:l.length<=40) (k:Nat) (aa:k<l.length) (w':Ba) (h:MAt w' w'.heap.size A l)=>rmove_any a SV ks ly A k0 l hl k aa w' h);have rF:=zH (fun l hl=>hf.each (l:=l) hl);have az:=zH (@uZ a);have au:=zH (@Za a);have aN:=zH (fun h h2=>@uY a h h2 hf);have du:=zH (fun h h2=>@we a h h2 hf);obtain⟨E,hE⟩:=Ki (qQ a);rw[hE] at az au aN du ⊢;obtain⟨ml,O7⟩:=Ki a.mvs.length;rw[O7] at NV ny;go_enter func75,ntmps75
 by_cases hr:a.n<1\/5<a.n
 . have hR:=zH (az.out hr)
   have HN:=zH hr;go_wp2_with fail
   all_goals first | (exfalso;have:=HN.out;omega) | skip
   all_goals
    go_ret;exact⟨zm hR.out.symm,ye w _⟩
 have r1:¬a.n<1:=by omega
 have r2:¬5<a.n:=by omega
 have au:=zH (au.out hr);have aN:=zH (aN.out hr);have du:=zH (du.out hr);obtain⟨w1,ab⟩:=Ki (w.alloc (Ai #[O U a.n,I SV a.sts.length ks] 27));have aY:=zy w (Ai #[O U a.n,I SV a.sts.length ks] 27);have aM:Ar w.heap.size w w1:=by rw[<-ab];exact ye w _
 have eP:w1.heap.size=w.heap.size+1:=by rw[<-ab];simp
 rw[ab] at aY;have cJ:=zH aY;have ch:=zH aM;have HS:=zH ((hS.keep aM).more (by omega:w.heap.size<=w1.heap.size));have ai:=zH ab;clear hS ab aM;obtain⟨q0,q1,_⟩:=Ka aY
 by_cases hz:a.sts.length<1
 . have hR:=zH (au.out hz)
   clear au aN du NV Mb N1 rF;go_wp2_with fail;rw[ai.out];go_wp2_with fail;go_ret;exact⟨zm hR.out.symm,ch.out⟩
 have cO:1<=a.sts.length:=by omega
 have G3:=zH (aN.out cO);have G4:=zH (du.out cO);clear au hz aN du;obtain⟨F,hF⟩:=Ki (zQ a a.sts);have HF:Aw (F=zQ a (a.sts.drop 0)):=by rw[Nc];exact hF.symm
 rw[hF] at G3 G4 Mb;clear hF;have g1:=zH (fun k h=>@uu a a.sts k h);have g2:=zH (fun k h=>@wj a a.sts k h);have g3:=zH (fun k h=>@ut a a.sts k h);go_wp2_with fail;rw[ai.out];refine(NV.out w1 HS.out).mono ?_;rintro e w2 ⟨rfl,bZ⟩;have ag:Ar w1.heap.size w1 w2:=by rw[bZ];exact ye w1 _
 have aw:=zH ag;have bC:=La ag cJ.out;have q1:=zh bC 1 rfl;clear bZ ag bC aY NV ai;go_wp2_with fail
 all_goals first | (exfalso;omega) | skip
 clear q1
 go_loopw [3] (fun i wr=>∃s:Nat,s<=a.sts.length/\i=O U (s:Int)/\Aw (F=zQ a (a.sts.drop s))/\Aw (Ar w1.heap.size w1 wr)) (fun i _=>a.sts.length-(Au i).toNat)
 case atStart=>exact⟨0,by omega,rfl,HF,aw⟩
 obtain⟨s,hs,rfl,aC,cA⟩:=hrel;have bC:=La cA.out cJ.out;obtain⟨q0,q1,_⟩:=Ka bC
 by_cases aa:s<a.sts.length
 case neg=>
  obtain rfl:s=a.sts.length:=by omega
  have I':F=0:=aC.out.trans (g3.out _ rfl);have hR:=zH (G4.out I');have HG:=zH (Mb.out I' wr ((HS.out.keep cA.out).more cA.out.size));obtain⟨gb,lw⟩:=Ki (qk a);rw[lw] at hR HG;clear G3 G4 g1 g2 g3 aC lw I' Mb N1 rF bC;go_wp2_with fail;refine HG.out.mono ?_;rintro e w3 ⟨rfl,aj⟩;have aJ:=zH (ch.out.trans ((Lc cA.out aj).mono (by omega)));clear HG aj q1
  cases gb with
  | true=>
   go_wp2_with fail;go_ret;exact⟨zm hR.out.symm,aJ.out⟩
  | false=>
   go_wp2_with fail;go_ret;exact⟨zm hR.out.symm,aJ.out⟩
 case pos=>
 have aT:=zH (g1.out s aa);have bh:=zH (g2.out s aa);obtain⟨b,o,A',k',e',lz,c1,hM⟩:=(HS.out.keep cA.out).at_ s aa;subst e';have iy:=rF.out _ (Ld aa)
 have fg:Aw (∀wr:Ba,Ar w1.heap.size w1 wr->wr.cell? ⟨b,o+s,Z⟩=J (.slice A' (a.sts[s]).length k')/\MAt wr w1.heap.size A' a.sts[s]):=fun Ok di=>
  ⟨((di.cell (p:=⟨b,_,Z⟩) lz).trans ((cA.out.cell (p:=⟨b,_,Z⟩) lz).symm)).trans c1,(by
   obtain⟨b2,o2,A2,k2,e2,cH,c2,EY⟩:=(HS.out.keep di).at_ s aa
   cases e2
   have:=(((di.cell (p:=⟨b,o+s,Z⟩) lz).trans ((cA.out.cell (p:=⟨b,o+s,Z⟩) lz).symm)).trans c1).symm.trans c2
   cases this
   exact EY)⟩
 obtain⟨L,hL⟩:=Ki (a.sts[s]);rw[hL] at c1 iy fg aT bh;clear hM hL g1 g2 g3 bC rF Mb
 by_cases rL:L.length=0
 . have he:=Zk (a:=a) rL
   rw[he] at aT;have CW:=aC.out.trans (aT.out (by decide));have hR:=zH ((G3.out (by rw[CW];decide)).trans CW);rw[rL] at c1;clear G3 G4 aT bh aC he CW rL iy fg N1;go_wp2_with fail;go_ret;exact⟨zm hR.out.symm,ch.out.trans (cA.out.mono (by omega))⟩
 have sR:=zH (Yn (a:=a) rL);have e0:(((L.length:Nat):Int)==0)=AC:=by simpa using rL
 have e1:¬((L.length:Nat):Int)=0:=by omega
 have b1:=zH (fun k h=>@Zz a L k h);have b2:=zH (fun k h=>@YS a L k h);have b3:=zH (@Zy a L);obtain⟨V,hV⟩:=Ki (qW a L);rw[hV] at sR aT bh;clear hV rL;go_wp2_with fail;clear q1 c1
 go_loopw [4] (fun i wr=>∃j:Nat,j<=L.length/\i=O U (j:Int)/\Aw (V=qr a L j)/\Aw (Ar w1.heap.size w1 wr)) (fun i _=>L.length-(Au i).toNat)
 case atStart=>exact⟨0,by omega,rfl,sR,cA⟩
 clear cA sR;obtain⟨j,hj,rfl,EB,cA⟩:=hrel;have bC:=La cA.out cJ.out;obtain⟨q0,q1,_⟩:=Ka bC;obtain⟨c1,hM⟩:=fg.out _ cA.out
 by_cases cq:j<L.length
 case neg=>
  obtain rfl:j=L.length:=by omega
  have hV0:V=0:=EB.out.trans b3.out;have hR:=zH (aC.out.trans (bh.out hV0));clear EB hM b1 b2 b3 aT bh aC hV0 bC fg N1 G3 G4;go_wp2_with fail
  go_roundw
  case rel=>exact⟨s+1,by omega,by go_num,hR,cA⟩
  simp[Au];omega
 case pos=>
 have hC:=N1.out A' k' L iy j cq;have x1:=b1.out j cq;have x2:=b2.out j cq;obtain⟨ev,cW⟩:=Ki (qB a (zM L j) L[j]);rw[cW] at hC x1 x2;have HC:=zH hC;have X1:=zH x1;have X2:=zH x2;have pM:=zH hM;have si:=zH bC;have i1:(0:Int)<=(s:Int):=by omega
 have i2:(s:Int)<(a.sts.length:Int):=by omega
 clear hC x1 x2 cW hM bC b1 b2 b3 N1;go_wp2_with fail
 go_still_tail 7,(by kernel_rfl)
 change wpList _ _ _ _ _ wr.drew;obtain⟨wd,pS⟩:∃wd,wd=wr.drew:=⟨_,rfl⟩;have BLd:Aw (Ar w1.heap.size w1 wd):=by rw[pS];exact cA.out.drew
 have HMd:Aw (MAt wd wd.heap.size A' L):=by rw[pS];exact(pM.out.keep (Ll _ wr).drew).more cA.out.size
 rw[<-pS];clear pS pM q1 c1 si;go_wp2_with fail;refine(HC.out wd HMd.out).mono ?_;rintro e w3 ⟨rfl,aj⟩;have sk:=zH (Lc BLd.out aj)
 by_cases he:ev=0
 . subst he
   have hR:=zH (EB.out.trans (X2.out (by simp)));go_wp2_with fail
   go_roundw
   case rel=>exact⟨j+1,by omega,by go_num,hR,sk⟩
   simp[Au];omega
 have hVv:=EB.out.trans (X1.out he);have CW:=(aC.out.trans (aT.out (by rw[hVv];exact he))).trans hVv;have hR:=zH ((G3.out (by rw[CW];exact he)).trans CW);have e2:(ev != 0)=AA:=by simpa using he
 go_wp2_with fail;go_ret;exact⟨zm hR.out.symm,ch.out.trans (sk.out.mono (by omega))⟩
end
section
open Go.RowKit Go.Shelf
section
variable {P:Program}
theorem uz{fn:Func}{tmps:Array Ax}{R:Ending->Ba->Prop}{B n:Nat} :
  ∀(rs:List Nat) (w:Ba),rs.Nodup->(∀r∈rs,B<=r/\w.heap[r]?=J (.deferred (J [])))->(∀W,Shut B w W->∃v,(results fn tmps).run P W=.ok v W/\R (Am v) W) ->
   LeavesInM Fence.wide n P fn tmps R (rs.map (fun r=>{ target:=.collected r,args:=#[] })) .returning w
 | [],w,_,_,hR=>hR w (Shut.refl _ _)
 | r::rs,w,hn,hm,hR=>by
  obtain⟨hr,EG⟩:=PQ.1 hn;obtain⟨hB,hk⟩:=hm r (by simp);refine⟨by simp,.inl ⟨r,_,rfl,run_takeDeferred hk,?_⟩⟩;refine uz rs _ EG (fun r' pl=>⟨(hm r' (by simp[pl])).1,?_⟩) (fun W hW=>hR W ?_)
  . rw[Px (by rintro rfl;exact hr pl)]
    exact(hm r' (by simp[pl])).2
  . refine⟨((Ll B w).grown (grownBy_putObj' w r (.deferred Z)) (by have:=(Lu.1 hk).1;omega) (fun k e=>by cases e;exact hB)).trans hW.below,fun k o ho hc=>?_⟩
    refine hW.same k o ?_ hc
    by_cases e:k=r
    . subst e;rw[hk] at ho;cases ho;cases hc
    . exact(Px e).trans ho
theorem xK{fn:Func}{R:Ending->Ba->Prop}{a:Act}{w:Ba}{B:Nat}(hm:Marks B a.defers w)
  (hR:∀W,Shut B w W->∃v,(results fn a.tmps).run P W=.ok v W/\R (Am v) W):bodyPostM Fence.wide 9 P fn R .ret a w:=by
 obtain⟨rs,hd,hn,hk⟩:=hm;show LeavesInM Fence.wide 9 P fn a.tmps R a.defers .returning w;rw[hd];exact uz rs w hn hk hR
theorem jv{β:Type}{g:Operand}{ps:Array Tmp}{assign body:Code}{Q:Exit->Act->Ba->Prop}{a:Act}{w:Ba}
  {gf:Nat} {lb:Array Ax} (hg:a.eval g=.func (.func gf) #[] lb) (eg:Enters P gf)
  {nX:β->Array Ax} {K:Nat->Prop} {xs:List β} (Ic:Iter P gf lb nX K xs w) (hK:∀k,K k->k<w.heap.size) (i9:∀x,(nX x).size=ps.size)
  (Af:List { x:β // x∈xs }->Ba->Prop) (Ix:Code->List { x:β // x∈xs }->Ba->Prop) (hI:OwnFrom w.heap.size Af) (hIx:∀c,OwnFrom w.heap.size (Ix c)) (h0:Af [] w)
  (C:β->Array Ax) (T:TypeId) (a₁:{ x:β // x∈xs }->Nat->Act)
  (nW:∀(l:Nat) (pre:List { x:β // x∈xs }) (x:{ x:β // x∈xs }) (W:Ba) (K':Act->Ba->Prop),Af pre W->(∀g,g=W.heap.size->Af pre (W.alloc (Ai (C x.1) T))->K' (a₁ x g) (W.alloc (Ai (C x.1) T))) ->
   assign.wpIn (Fence.wide.inRound l) 7 P (Exit.then K' (fun _ _ _=>False)) { tmps:=(ps.zip (nX x.1)).foldl (fun t (p,v)=>t.setIfInBounds p v) a.tmps,defers:=[] } W)
  (AI:∀(l:Nat) (pre:List { x:β // x∈xs }) (x:{ x:β // x∈xs }) (g:Nat) (W:Ba),w.heap.size<=g->W.heap[g]?=J (Ai (C x.1) T (0,0))->Af pre W->pre.length<xs.length->body.wpIn (Fence.wide.inRound l) 7 P (ownPostG w.heap.size (KeepB K) Af Ix (pre++[x]) W) (a₁ x g) W)
  (z':∀(D:Nat) (ys:List { x:β // x∈xs }) (W:Ba),w.heap.size<=D->ys.map (·.1)=xs->Af ys W->W.heap[D]?=J (.deferred (J []))->Q .normal { a with defers:={ target:=.collected D,args:=#[] }::a.defers } W)
  (tM:∀(D:Nat) (c:Code) (pre:List { x:β // x∈xs }) (W:Ba),w.heap.size<=D->pre.map (·.1) <+: xs->Ix c pre W->W.heap[D]?=J (.deferred (J []))->c.wp P Q { a with defers:={ target:=.collected D,args:=#[] }::a.defers } W)
  (hbig:∀pre W,Af pre W->w.heap.size<=W.heap.size) :
  (Code.rangeFunc g ps assign body).wp P Q a w:=
 (Sq (n:=9)).1 (wpIn_rangeFunc_ownH (F:=Fence.wide) (n:=9) rfl (by omega) hg trivial eg (Ic 8 (by omega)) KeepB.trans
  (fun W l o o' hl _ _ _=>KeepB.putObj (fun hk=>by have:=hK l hk;omega) o') (Ll _ _) (fun x=>i9 x.1) Af Ix hI hIx h0
  (fun x a' W=>∃g,a'=a₁ x g/\w.heap.size<=g/\W.heap[g]?=J (Ai (C x.1) T (0,0)))
  (fun x a' _ W W' row ⟨g,e,DN,hc⟩ lP hr=>⟨g,e,DN,(Nj lP (fun r e=>(hr r e).2) hc rfl).trans hc⟩)
  (fun l pre x W K' hi ac=>nW l pre x W K' hi fun g RQ tl=>by
   refine ac _ _ ?_ ?_ tl ⟨g,rfl,by rw[RQ];exact hbig _ _ hi,by rw[RQ];exact zy _ _⟩
   . exact⟨by simp,fun k o _ hk ho=>(N9 W _ k (Lu.1 hk).1).trans hk⟩
   . exact KeepB.alloc _ _ _)
  (fun l pre x a' W _ _ hi ⟨g,e,DN,hc⟩ hl=>by subst e;exact AI l pre x g W DN hc hi hl) z'
  (fun D c pre W hD hS hc hk=>Sq.2 (tM D c pre W hD hS hc hk)))
end
structure RsIn(B:Nat)(C:Array Ax)(T:TypeId)(r:Int)(w W:Ba):Prop where
 below:Ar B w W
 b0:W.heap[B]?=J (Ai C T (0,0))
 b1:W.heap[B+1]?=J (Ai #[O U r] 47 (0,0))
theorem RsIn.turn{B:Nat}{C:Array Ax}{T:TypeId}{r:Int}{w W W':Ba}{row:Option Nat}(h:RsIn B C T r w W)(hg:W.grownBy W' row)(hr:∀r,row=J r->B<=r/\∃o:Obj,W.heap[r]?=J o/\o.isCells=AC):RsIn B C T r w W':=
 ⟨h.below.grown hg (by have:=(Lu.1 h.b0).1;omega) (fun k hk=>(hr k hk).1),(Nj hg (fun r e=>(hr r e).2) h.b0 rfl).trans h.b0,(Nj hg (fun r e=>(hr r e).2) h.b1 rfl).trans h.b1⟩
theorem RsIn.on{B D:Nat}{C:Array Ax}{T:TypeId}{r:Int}{w W W':Ba}(h:RsIn B C T r w W)(hb:Ar D W W')(hD:B+2<=D):RsIn B C T r w W':=
 ⟨h.below.trans (hb.mono (by omega)),Lb hb (by omega) h.b0,Lb hb (by omega) h.b1⟩
theorem RsIn.set{B:Nat}{C:Array Ax}{T:TypeId}{r:Int}{w W:Ba}(h:RsIn B C T r w W)(r':Int):RsIn B C T r' w (W.setCell ⟨B+1,0,Z⟩ (O U r')):=by
 obtain⟨x1,x2,x3⟩:=kI h.b1 (O U r');exact⟨h.below.setCell (by simp) _,(x3 B (by omega)).trans h.b0,x1⟩
theorem RsIn.keeps{B D:Nat}{C:Array Ax}{T:TypeId}{r:Int}{w W:Ba}(h:RsIn B C T r w W)(r':Int):KeepsFrom D W (W.setCell ⟨B+1,0,Z⟩ (O U r')):=by
 obtain⟨x1,x2,x3⟩:=kI h.b1 (O U r');refine⟨by omega,fun k o _ hk ho=>?_⟩;have k1:k≠B+1:=by rintro rfl;rw[h.b1] at hk;cases hk;cases ho
 exact(x3 k k1).trans hk
theorem qE{D:Nat}{W W':Ba}(h:Ar W.heap.size W W'):KeepsFrom D W W':=⟨h.size,fun k _ _ hk _=>(h.block k (Lu.1 hk).1).trans hk⟩
theorem RsIn.cell{B:Nat}{C:Array Ax}{T:TypeId}{r:Int}{w W X:Ba}(h:RsIn B C T r w W)(hS:Shut B W X):X.cell? ⟨B+1,0,Z⟩=J (O U r):=hS.cell (zh h.b1 0 rfl)
end
section
open Go.RowKit Go.Shelf
attribute [local go_sem] Oper.semAt_some
theorem Xy(a:Ad)(hf:FewA a)(SV:Bb)(ks:Nat)(w:Ba)(hS:SAt w w.heap.size SV a.sts) :
  As Aq 167 #[Ak #[O U a.n,I SV a.sts.length ks]] w fun e w'=>e=Am (O U (qQ a))/\Ar w.heap.size w w':=by
 have ly:=hf.1;have iD:=zH (fun (w':Ba) (h:SAt w' w'.heap.size SV a.sts)=>sized_any a hf SV ks w' h);have dq:=zH (fun (A:Bb) (k0:Nat) (l:List Mv) (hl:l.length<=40) (w':Ba) (h:MAt w' w'.heap.size A l)=>state_any a SV ks ly A k0 l hl w' h);have HI:=zH (fun (bx:Nat) (w':Ba) (hb:w'.heap[bx]?=J (Ai #[O U a.n,I SV a.sts.length ks] 27)) (h:SAt w' w.heap.size SV a.sts) (hB:w.heap.size<=w'.heap.size)=>vx a hf SV ks w.heap.size bx w' hb h hB);have rF:=zH (fun l hl=>hf.each (l:=l) hl);have az:=zH (@uZ a);have au:=zH (@Za a);have aN:=zH (fun h h2=>@uY a h h2 hf);have du:=zH (fun h h2=>@we a h h2 hf);obtain⟨E,hE⟩:=Ki (qQ a);rw[hE] at az au aN du ⊢;have HS:=zH hS;clear hS hE hf;refine xm func167 rfl ?_;simp only[ntmps167,List.size_toArray,List.length_cons,List.length_nil,Nat.reduceAdd,Nat.reduceSub,Array.replicate_succ,Array.replicate_zero,List.push_toArray,List.append_toArray,List.nil_append,List.cons_append]
 by_cases hr:a.n<1\/5<a.n
 . have hR:=zH (az.out hr)
   have HN:=zH hr;clear az au aN du hr iD dq HI rF;go_wp2_with fail
   all_goals first | (exfalso;have:=HN.out;omega) | skip
   all_goals
    refine xK (B:=w.heap.size) (Marks.nil _ _) ?_;intro W hX;have c1:=hX.cell (zh (zy (w.alloc (Ai #[O U a.n,I SV a.sts.length ks] 27)) (Ai #[O U 2] 47)) 0 rfl);rw[Nk] at c1;refine⟨O U 2,?_,zm hR.out.symm,(kJ _ _ _).trans hX.below⟩;clear hX hR HN;simp[results,results167,go_sem,c1]
 have r1:¬a.n<1:=by omega
 have r2:¬5<a.n:=by omega
 have au:=zH (au.out hr);have aN:=zH (aN.out hr);have du:=zH (du.out hr);clear hr az;go_wp2_with fail
 all_goals first | (exfalso;omega) | skip
 obtain⟨w2,bZ,b0,b1,aX,hB⟩:=yV w #[O U a.n,I SV a.sts.length ks] #[O U 0] 27 47;rw[bZ];have H0:Aw (RsIn w.heap.size #[O U a.n,I SV a.sts.length ks] 27 0 w w2):=⟨hB,b0,b1⟩;have HSw:=zH ((HS.out.keep hB).more hB.size);clear bZ b0 b1 hB;refine(iD.out w2 HSw.out).mono ?_;rintro e w3 ⟨rfl,hb⟩;have H1:=zH (H0.out.on hb aX);have eK:w.heap.size+2<=w3.heap.size:=by have:=hb.size;omega
 obtain⟨q0,q1,_⟩:=Ka H1.out.b0;have p0:=zh H1.out.b1 0 rfl;have f0:=zi H1.out.b1 0;clear hb HSw H0 iD
 by_cases hz:a.sts.length<1
 . have hR:=zH (au.out hz)
   rw[Li hz];clear au aN du dq HI rF;go_wp2_with fail;refine xK (B:=w.heap.size) (Marks.nil _ _) ?_;intro W hX;have hI:=H1.out.set 5;have c1:=hI.cell hX;refine⟨O U 5,?_,zm hR.out.symm,hI.below.trans hX.below⟩;clear hX hR hI;simp[results,results167,go_sem,c1]
 have cO:1<=a.sts.length:=by omega
 rw[Lg hz];have G3:=zH (aN.out cO);have G4:=zH (du.out cO);clear au hz aN du;obtain⟨F,hF⟩:=Ki (zQ a a.sts);have HF:Aw (F=zQ a (a.sts.drop 0)):=by rw[Nc];exact hF.symm
 have KT:=zH (fun h=>@qq a (hF.trans h));rw[hF] at G3 G4;clear hF;have g1:=zH (fun k h=>@uu a a.sts k h);have g2:=zH (fun k h=>@wj a a.sts k h);have g3:=zH (fun k h=>@ut a a.sts k h);go_wp2_with fail
 all_goals first | (exfalso;omega) | skip
 clear q0 q1 p0 f0
 go_loopw [27] (fun i wr=>∃k:Nat,k<=a.sts.length/\i=O U (k:Int)/\Aw (F=zQ a (a.sts.drop k))/\Aw (RsIn w.heap.size #[O U a.n,I SV a.sts.length ks] 27 0 w wr)/\w.heap.size+2<=wr.heap.size) (fun i _=>a.sts.length-(Au i).toNat)
 case atStart=>exact⟨0,by omega,rfl,HF,H1,eK⟩
 obtain⟨k,hk,rfl,aC,CT,Dx⟩:=hrel;clear HF;obtain⟨q0,q1,_⟩:=Ka CT.out.b0;have p0:=zh CT.out.b1 0 rfl;have f0:=zi CT.out.b1 0
 by_cases aa:k<a.sts.length
 . have aT:=zH (g1.out k aa)
   have bh:=zH (g2.out k aa);obtain⟨b,o,A',k',e',lz,c1,hM⟩:=(HS.out.keep CT.out.below).at_ k aa;have iy:=rF.out _ (Ld aa);have HC:=zH (dq.out A' k' (a.sts[k]'aa) iy);have HMr:=zH (hM.more CT.out.below.size);obtain⟨L,hL⟩:=Ki (a.sts[k]);rw[hL] at c1 iy HC HMr aT bh;obtain⟨ev,cW⟩:=Ki (qW a L);rw[cW] at HC aT bh;subst e';clear hM hL cW g1 g2 g3 dq HI rF KT;go_wp2_with fail;refine(HC.out _ HMr.out).mono ?_;rintro e w4 ⟨rfl,hb⟩;have H4:=zH (CT.out.on hb Dx);have oA:w.heap.size+2<=w4.heap.size:=by have:=hb.size;omega
   obtain⟨q0,q1,_⟩:=Ka H4.out.b0;have p0:=zh H4.out.b1 0 rfl;have f0:=zi H4.out.b1 0;clear hb HC
   by_cases he:ev=0
   . subst he
     have hR:=zH (aC.out.trans (bh.out (by simp)));clear aT bh aC;go_wp2_with fail
     go_roundw
     case rel=>exact⟨k+1,by omega,by go_num,hR,H4,oA⟩
     simp[Au];omega
   have CW:=aC.out.trans (aT.out he);have hR:=zH ((G3.out (by rw[CW];exact he)).trans CW);have e0:(ev != 0)=AA:=by simpa using he
   clear aT bh aC G3 G4 CW he;go_wp2_with fail;refine xK (B:=w.heap.size) (Marks.nil _ _) ?_;intro W hX;have hI:=H4.out.set ev;have c1:=hI.cell hX;refine⟨O U ev,?_,zm hR.out.symm,hI.below.trans hX.below⟩;clear hX hR hI;simp[results,results167,go_sem,c1]
 obtain rfl:k=a.sts.length:=by omega
 have I':F=0:=aC.out.trans (g3.out _ rfl);have hR:=zH (G4.out I');have HZ:=zH (KT.out I');clear G3 G4 aC g1 g2 g3 dq KT I';go_wp2_with fail;refine(gG a.n (I SV a.sts.length ks) wr).mono ?_;rintro e W ⟨rfl,hW⟩;have bb:=zy wr (Ai #[O U a.n,I SV a.sts.length ks] 27);have cH:Ar wr.heap.size wr W:=by rw[<-hW];exact ye _ _
 have aK:wr.heap.size<W.heap.size:=by rw[<-hW];simp
 rw[hW] at bb;have HW:=zH (CT.out.on cH Dx);have lh:=zH (HI.out wr.heap.size W bb (HS.out.keep HW.out.below) (by omega));clear hW bb cH HI q0 q1 p0 f0;go_wp2_with fail
 refine jv rfl (Pg Sj (by kernel_rfl) rfl) lh.out (by rintro k (h | rfl)<;>omega) (fun _=>rfl)
  (fun (pre:List { x:Int×Mv // x∈zU 0 a.sts }) X=>RsIn w.heap.size #[O U a.n,I SV a.sts.length ks] 27 0 w X/\(∀x∈pre,((a.at_ x.1.2.to).all fun k=>jb x.1.2 k)=AA)/\W.heap.size<=X.heap.size)
  (fun c _ W=>c=.ret/\RsIn w.heap.size #[O U a.n,I SV a.sts.length ks] 27 21 w W/\qk a=AC)
  (fun _ _ _ _ h hg hr=>⟨h.1.turn hg (fun r e=>⟨by have:=(hr r e).1;omega,(hr r e).2⟩),h.2.1,Lz h.2.2 hg.size⟩) (fun _ _ _ _ _ ⟨h1,h2,h3⟩ hg hr=>⟨h1,h2.turn hg (fun r e=>⟨by have:=(hr r e).1;omega,(hr r e).2⟩),h3⟩)
  ⟨HW.out,(fun x hx=>by cases hx),Le _⟩ (fun x=>x.2.cells) 94 ?a1 ?assign ?body ?done ?stop (fun _ _ h=>h.2.2)
 case assign=>
  intro l pre x X K hI hK;obtain⟨g,hg⟩:∃g,g=X.heap.size:=⟨_,rfl⟩;have HK:=zH (hK g hg ⟨hI.1.on (ye X _) (zj hI.1.b1),hI.2.1,by have:=hI.2.2;simp;omega⟩);have HG:=zH hg;unfold Mv.cells at HK ⊢;dsimp only at HK ⊢;clear hK hg hI;gi_wp2;rw[<-HG.out];exact HK.out
 case body=>
  intro l pre x g W1 hg lw hI aa;obtain⟨na,AU,lA⟩:=hI;obtain⟨z1,z2,z3,z4⟩:=HZ.out x.1.2 (Js x.2);obtain⟨m,hm⟩:=Ki x.1.2;have HM:=zH hm;rw[hm] at z1 z2 z3 z4 lw;obtain⟨f1,TD,lf1⟩:=kO z1;obtain⟨t,et⟩:=Lp z3;have pj:t<a.sts.length:=by omega
  have bL:a.at_ m.to=a.sts[t]:=by unfold Ad.at_;rw[et,Lo,Lk,Ln pj];rfl
  obtain⟨b,o,A',k',e',lz,c1,IZ⟩:=(HS.out.keep na.below).at_ t pj;have iy:=rF.out _ (Ld pj);have N7:Aw (∀y∈a.sts[t],yD y.r=0):=fun y hy=>(HZ.out y (NI.2 ⟨_,Ld pj,hy⟩)).1
  obtain⟨L,hL⟩:=Ki (a.sts[t]);rw[hL] at c1 IZ iy N7 bL;have fg:=zH bL;have Hj:=zH na;have UO:=zH AU;have HGB:=zH lw;have En:=zH (IZ.more na.below.size);obtain⟨q0,q1,_⟩:=Ka na.b0;have u7:=zh lw 7 (u:=O U m.to) rfl;have u6:=zh lw 6 (u:=O U m.r.f) rfl;rw[et] at u7;have ia:=zj lw;have bP:=zj na.b1;have az:=zH TD;subst e';clear hm z1 z2 z3 z4 et TD bL hL IZ na AU lw aa;gi_wp2_with fail
  gi_loopw [49] (fun i wr=>∃j:Nat,j<=L.length/\i=O U (j:Int)/\Aw (∀k (h:k<L.length),k<j->jb m L[k]=AA)/\Aw (Ar W1.heap.size W1 wr)) (fun i _=>L.length-(Au i).toNat)
  case atStart=>exact⟨0,by omega,rfl,(fun k h h0=>by omega),Ll _ _⟩
  obtain⟨j,hj,rfl,Ir,aL⟩:=hrel;clear q0 q1 u6 u7 c1
  by_cases cq:j<L.length
  . obtain⟨b2,o2,rfl,ag,m0,m1,m2,m3,m4,m5,m6,m7⟩:=(En.out.keep aL.out).row j cq
    obtain⟨f2,Ed,lf2⟩:=kO (N7.out _ (Ld cq));have cP:jb m L[j]=decide (f1 &&& f2=f1):=by unfold jb;rw[az.out,Ed,Lo,Lo];rw[NG];simp
    have dx:L[j]∈L:=Ld cq;obtain⟨y,hy⟩:=Ki (L[j]);have HYe:=zH hy;rw[hy] at m0 m1 m2 m3 m4 m5 m6 m7 cP Ed dx;have HEF:=zH Ed;have ie:=(aL.out.block g ia).trans HGB.out;have u6:=zh ie 6 (u:=O U m.r.f) rfl;have ii:=Hj.out.on aL.out (by omega);have p0:=zh ii.b1 0 rfl;have f0:=zi ii.b1 0;have MQ:=zj ie;have cA:=zj ii.b1;have Uv:=zH ii;have sU:=zH cP;rw[Ed] at m6;rw[az.out] at u6;have Wo:=zH (@andnot_zero f2 f1 lf2 lf1);clear hy Ed ie ii cP dx
    by_cases hk:f1 &&& f2=f1
    . have hz:=Wo.out.2 hk
      have Wa:Aw (jb m y=AA):=sU.out.trans (Lm hk);clear Wo sU hk;gi_wp2_with fail
      go_roundw
      case rel=>
       refine⟨j+1,by omega,by go_num,fun k h h1=>?_,?_⟩
       . by_cases e:k=j
         . subst e;rw[HYe.out];exact Wa.out
         exact Ir.out k h (by omega)
       exact aL.out.alloc aL.out.size _
      simp[Au];omega
    have hz:¬(bits BinOp.andNot U (f1:Int) (f2:Int)=0):=fun h=>hk (Wo.out.1 h)
    have e0:(bits BinOp.andNot U (f1:Int) (f2:Int) != 0)=AA:=by simpa using hz
    have hgf:Aw (qk a=AC):=by
     unfold qk Aw;rw[List.all_eq_false];refine⟨m,by rw[<-HM.out];exact Js x.2,?_⟩;rw[fg.out];intro aO;have h1:=LT.1 aO y (by rw[<-HYe.out];exact Ld cq);rw[sU.out,Lj hk] at h1
     cases h1
    clear Wo sU hk hz;gi_wp2_with fail;have ck:=Uv.out.set 21;refine⟨((qE aL.out).trans (Uv.out.keeps 21)).trans (qE (ye _ _)),rfl,ck.on (ye _ _) (zj ck.b1),hgf.out⟩
  obtain rfl:j=L.length:=by omega
  gi_wp2_with fail;refine⟨qE aL.out,KeepB.of_below aL.out (by rintro k (h | rfl)<;>omega),Hj.out.on aL.out (by omega),?_,Lz lA aL.out.size⟩;intro y hy;rcases Nh.1 hy with hy | hy
  . exact UO.out y hy
  simp only[List.mem_singleton] at hy;subst hy;rw[HM.out,fg.out,LT];intro z hz;obtain⟨k,hk,rfl⟩:=Pe.1 hz;exact Ir.out k hk hk
 case done=>
  intro D ys W1 hD nI hI mi
  have lP:qk a=AA:=by
   unfold qk;rw[LT];intro m hm;have fC:m∈(zU 0 a.sts).map Prod.snd:=by rw[jl];exact hm
   obtain⟨x,hx,rfl⟩:=LZ.1 fC;rw[<-nI] at hx;obtain⟨y,hy,rfl⟩:=LZ.1 hx;exact hI.2.1 y hy
  have hE:=zH (hR.out.trans (Li lP));have HI:=zH hI.1;have p0:=zh HI.out.b1 0 rfl;have f0:=zi HI.out.b1 0;have HD:=zH mi;clear hI nI lP mi hR lh HW;go_wp2_with fail;refine xK (B:=w.heap.size) (vy (by omega) ((HI.out.keeps (D:=D) 0).same D _ (Le _) HD.out rfl)) ?_;intro X hX;have hI:=HI.out.set 0;have c1:=hI.cell hX;refine⟨O U 0,?_,zm hE.out.symm,hI.below.trans hX.below⟩;simp[results,results167,go_sem,c1]
 intro D c pre W1 hD hpre hI mi;obtain⟨rfl,hI,lP⟩:=hI;have hE:=zH (hR.out.trans (Lg (by rw[lP];decide)));have HI:=zH hI;have HD:=zH mi;clear hI lP mi hR lh HW hpre;go_wp2_with fail;refine xK (B:=w.heap.size) (vy (by omega) HD.out) ?_;intro X hX;have c1:=HI.out.cell hX;refine⟨O U 21,?_,zm hE.out.symm,HI.out.below.trans hX.below⟩;clear hX hE;simp[results,results167,go_sem,c1]
end
section
open Go.RowKit
attribute [local go_sem] Oper.semAt_some
def Pb.vs(p:Pb)(A:Bb)(kc:Nat)(SV:Bb)(ks:Nat):Array Ax:=#[O U p.t.n,O U p.t.ins,O U p.t.outs,I A p.t.cases.length kc,O U p.a.n,I SV p.a.sts.length ks,O U p.k]
theorem uL{p:Pb}(h:xD p.t≠0):zY p=xD p.t:=Li h
theorem gA{p:Pb}(h:xD p.t=0)(h2:qQ p.a≠0):zY p=qQ p.a:=by unfold zY;rw[Lg (by simpa using h),Li h2]
theorem Jh{p:Pb}(h:xD p.t=0)(h2:qQ p.a=0)(h3:p.t.n≠p.a.n):zY p=22:=by unfold zY;rw[Lg (by simpa using h),Lg (by simpa using h2),Li h3]
theorem Ji{p:Pb}(h:xD p.t=0)(h2:qQ p.a=0)(h3:p.t.n=p.a.n)(h4:p.k<0\/6<p.k):zY p=2:=by unfold zY;rw[Lg (by simpa using h),Lg (by simpa using h2),Lg (by simpa using h3),Li h4]
theorem probE_ok{p:Pb}(h:xD p.t=0)(h2:qQ p.a=0)(h3:p.t.n=p.a.n)(h4:¬(p.k<0\/6<p.k)):zY p=0:=by unfold zY;rw[Lg (by simpa using h),Lg (by simpa using h2),Lg (by simpa using h3),Lg h4]
def JQ(p:Pb):Prop:=FewT p.t/\FewA p.a
theorem pcheck_any(p:Pb)(hf:JQ p)(A:Bb)(kc:Nat)(SV:Bb)(ks:Nat)(w:Ba)(hA:CAt w w.heap.size A p.t.cases)(hS:SAt w w.heap.size SV p.a.sts) :
  As Aq 135 #[.agg (p.vs A kc SV ks)] w fun e w'=>e=Am (O U (zY p))/\Ar w.heap.size w w':=by
 have HT:=zH (fun (w':Ba) (h:CAt w' w'.heap.size A p.t.cases)=>tcheck_any p.t A kc hf.1 w' h);have HD:=zH (fun (w':Ba) (h:SAt w' w'.heap.size SV p.a.sts)=>Xy p.a hf.2 SV ks w' h);have az:=zH (@uL p);have au:=zH (@gA p);have aN:=zH (@Jh p);have du:=zH (@Ji p);have fM:=zH (@probE_ok p);obtain⟨E,hE⟩:=Ki (zY p);rw[hE] at az au aN du fM ⊢;obtain⟨tE,htE⟩:=Ki (xD p.t);rw[htE] at az au aN du fM HT;obtain⟨aE,haE⟩:=Ki (qQ p.a);rw[haE] at au aN du fM HD;unfold Pb.vs;obtain⟨w1,ab⟩:=Ki (w.alloc (Ai (p.vs A kc SV ks) 29));have aY:=zy w (Ai (p.vs A kc SV ks) 29);have aM:Ar w.heap.size w w1:=by rw[<-ab];exact ye w _
 have eP:w1.heap.size=w.heap.size+1:=by rw[<-ab];simp
 rw[ab] at aY;unfold Pb.vs at ab aY;have cJ:=zH aY;have ch:=zH aM;have HA:=zH ((hA.keep aM).more (by omega:w.heap.size<=w1.heap.size));have HS:=zH ((hS.keep aM).more (by omega:w.heap.size<=w1.heap.size));have ai:=zH ab;have q0:=zh aY 0 rfl;clear hA hS ab aM aY;go_enter func135,ntmps135;go_wp2_with fail;rw[ai.out];go_wp2_with fail;refine(HT.out w1 HA.out).mono ?_;rintro e w2 ⟨rfl,ag⟩;have B2:=zH (ch.out.trans (ag.mono (by omega)));have dS:=zH ((HS.out.keep ag).more ag.size);have bC:=La ag cJ.out;have aw:=zH bC;have eQ:=ag.size;have q4:=zh bC 4 rfl;have q5:=zh bC 5 rfl
 by_cases h1:tE=0
 case neg=>
  have hR:=zH (az.out h1);go_wp2_with fail;go_ret;exact⟨zm hR.out.symm,B2.out⟩
 case pos=>
 subst h1;have F2:=zH (au.out (by simp));have F3:=zH (aN.out (by simp));have F4:=zH (du.out (by simp));have F5:=zH (fM.out (by simp));go_wp2_with fail;refine(HD.out w2 dS.out).mono ?_;rintro e w3 ⟨rfl,aj⟩;have B3:=zH (B2.out.trans (aj.mono (by omega)));have bC:=La aj aw.out;have q0:=zh bC 0 rfl;have q4:=zh bC 4 rfl;have q6:=zh bC 6 rfl;clear aj bC HD q5
 by_cases h2:aE=0
 case neg=>
  have hR:=zH (F2.out h2);have e0:(aE != 0)=AA:=by simpa using h2
  clear F2 F3 F4 F5 h2;go_wp2_with fail;go_ret;exact⟨zm hR.out.symm,B3.out⟩
 case pos=>
 subst h2;clear F2;have G3:=zH (F3.out (by simp));have G4:=zH (F4.out (by simp));have G5:=zH (F5.out (by simp));clear F3 F4 F5
 by_cases h3:p.t.n=p.a.n
 case neg=>
  have hR:=zH (G3.out h3);have e0:(p.t.n != p.a.n)=AA:=by simpa using h3
  clear G3 G4 G5;go_wp2_with fail
  all_goals
   go_ret;exact⟨zm hR.out.symm,B3.out⟩
 case pos=>
 have K4:=zH (G4.out h3);have K5:=zH (G5.out h3);rw[h3] at q0
 by_cases h4:p.k<0\/6<p.k
 . have hR:=zH (K4.out h4)
   by_cases h5:p.k<0
   . clear h4
     go_wp2_with fail
     all_goals first | (exfalso;omega) | skip
     go_ret;exact⟨zm hR.out.symm,B3.out⟩
   have h6:6<p.k:=by omega
   go_wp2_with fail
   all_goals first | (exfalso;omega) | skip
   go_ret;exact⟨zm hR.out.symm,B3.out⟩
 have hR:=zH (K5.out h4);have h5:¬p.k<0:=by omega
 have h6:¬6<p.k:=by omega
 go_wp2_with fail
 all_goals first | (exfalso;omega) | skip
 go_ret;exact⟨zm hR.out.symm,B3.out⟩
theorem vj(p:Pb)(hf:JQ p)(A:Bb)(kc:Nat)(SV:Bb)(ks:Nat)(w:Ba)(hA:CAt w w.heap.size A p.t.cases)(hS:SAt w w.heap.size SV p.a.sts) :
  As Aq 35 #[.agg (p.vs A kc SV ks)] w fun e w'=>e=Am (O U (zY p))/\Ar w.heap.size w w':=by
 have HT:=zH (fun (w':Ba) (h:CAt w' w'.heap.size A p.t.cases)=>rtcheck_any p.t A kc hf.1 w' h);have HD:=zH (fun (w':Ba) (h:SAt w' w'.heap.size SV p.a.sts)=>racheck_any p.a hf.2 SV ks w' h);have az:=zH (@uL p);have au:=zH (@gA p);have aN:=zH (@Jh p);have du:=zH (@Ji p);have fM:=zH (@probE_ok p);obtain⟨E,hE⟩:=Ki (zY p);rw[hE] at az au aN du fM ⊢;obtain⟨tE,htE⟩:=Ki (xD p.t);rw[htE] at az au aN du fM HT;obtain⟨aE,haE⟩:=Ki (qQ p.a);rw[haE] at au aN du fM HD;unfold Pb.vs;obtain⟨w1,ab⟩:=Ki (w.alloc (Ai (p.vs A kc SV ks) 29));have aY:=zy w (Ai (p.vs A kc SV ks) 29);have aM:Ar w.heap.size w w1:=by rw[<-ab];exact ye w _
 have eP:w1.heap.size=w.heap.size+1:=by rw[<-ab];simp
 rw[ab] at aY;unfold Pb.vs at ab aY;have cJ:=zH aY;have ch:=zH aM;have HA:=zH ((hA.keep aM).more (by omega:w.heap.size<=w1.heap.size));have HS:=zH ((hS.keep aM).more (by omega:w.heap.size<=w1.heap.size));have ai:=zH ab;have q0:=zh aY 0 rfl;clear hA hS ab aM aY;go_enter func35,ntmps35;go_wp2_with fail;rw[ai.out];go_wp2_with fail;refine(HT.out w1 HA.out).mono ?_;rintro e w2 ⟨rfl,ag⟩;have B2:=zH (ch.out.trans (ag.mono (by omega)));have dS:=zH ((HS.out.keep ag).more ag.size);have bC:=La ag cJ.out;have aw:=zH bC;have eQ:=ag.size;have q4:=zh bC 4 rfl;have q5:=zh bC 5 rfl
 by_cases h1:tE=0
 case neg=>
  have hR:=zH (az.out h1);go_wp2_with fail;go_ret;exact⟨zm hR.out.symm,B2.out⟩
 case pos=>
 subst h1;have F2:=zH (au.out (by simp));have F3:=zH (aN.out (by simp));have F4:=zH (du.out (by simp));have F5:=zH (fM.out (by simp));go_wp2_with fail;refine(HD.out w2 dS.out).mono ?_;rintro e w3 ⟨rfl,aj⟩;have B3:=zH (B2.out.trans (aj.mono (by omega)));have bC:=La aj aw.out;have q0:=zh bC 0 rfl;have q4:=zh bC 4 rfl;have q6:=zh bC 6 rfl;clear aj bC HD q5
 by_cases h2:aE=0
 case neg=>
  have hR:=zH (F2.out h2);have e0:(aE != 0)=AA:=by simpa using h2
  clear F2 F3 F4 F5 h2;go_wp2_with fail;go_ret;exact⟨zm hR.out.symm,B3.out⟩
 case pos=>
 subst h2;clear F2;have G3:=zH (F3.out (by simp));have G4:=zH (F4.out (by simp));have G5:=zH (F5.out (by simp));clear F3 F4 F5
 by_cases h3:p.t.n=p.a.n
 case neg=>
  have hR:=zH (G3.out h3);have e0:(p.t.n != p.a.n)=AA:=by simpa using h3
  clear G3 G4 G5;go_wp2_with fail
  all_goals
   go_ret;exact⟨zm hR.out.symm,B3.out⟩
 case pos=>
 have K4:=zH (G4.out h3);have K5:=zH (G5.out h3);rw[h3] at q0
 by_cases h4:p.k<0\/6<p.k
 . have hR:=zH (K4.out h4)
   by_cases h5:p.k<0
   . clear h4
     go_wp2_with fail
     all_goals first | (exfalso;omega) | skip
     go_ret;exact⟨zm hR.out.symm,B3.out⟩
   have h6:6<p.k:=by omega
   go_wp2_with fail
   all_goals first | (exfalso;omega) | skip
   go_ret;exact⟨zm hR.out.symm,B3.out⟩
 have hR:=zH (K5.out h4);have h5:¬p.k<0:=by omega
 have h6:¬6<p.k:=by omega
 go_wp2_with fail
 all_goals first | (exfalso;omega) | skip
 go_ret;exact⟨zm hR.out.symm,B3.out⟩
def LowP(p:Pb):Prop:=LowT p.t/\LowA p.a
theorem pb_eq{a b:Pb}(h1:a.t=b.t)(h2:a.a=b.a)(h3:a.k=b.k):a=b:=by cases a;cases b;simp_all
theorem rsameP_any(a b:Pb)(ha:LowP a)(hb:LowP b)(A B SA SB:Bb)(ca cb sa sb:Nat)(w:Ba)(hA:CAt w w.heap.size A a.t.cases)(hB:CAt w w.heap.size B b.t.cases)(MZ:SAt w w.heap.size SA a.a.sts)(hSB:SAt w w.heap.size SB b.a.sts) :
  As Aq 149 #[.agg (a.vs A ca SA sa),.agg (b.vs B cb SB sb)] w fun e w'=>e=Am (Aj (decide (a=b)))/\Ar w.heap.size w w':=by
 obtain⟨w1,ab,d0,d1,aK,dj⟩:=yV w (a.vs A ca SA sa) (b.vs B cb SB sb) 29 29;have ry:=zH (rsameT_any a.t b.t ha.1 hb.1 A B ca cb w1 ((hA.keep dj).more dj.size) ((hB.keep dj).more dj.size));have HAA:=zH (fun (W:Ba) (hW:Ar w1.heap.size w1 W)=>rsameA_any a.a b.a ha.2 hb.2 SA SB sa sb W ((((MZ.keep dj).more dj.size).keep hW).more hW.size) ((((hSB.keep dj).more dj.size).keep hW).more hW.size));unfold Pb.vs at ab d0 d1 ⊢;have cu:=zH dj;have bK:=zH d0;have cN:=zH d1;have ai:=zH ab;have q2:=zh d1 2 rfl;have q3:=zh d1 3 rfl;have q6:=zh d1 6 rfl;clear ab d0 d1 dj hA hB MZ hSB ha hb;have HT:Aw (a≠b->decide (a=b)=AC):=fun h=>Lj h
 have HU:Aw (a=b->decide (a=b)=AA):=fun h=>Lm h
 obtain⟨r,hr⟩:∃r,decide (a=b)=r:=⟨_,rfl⟩;rw[hr] at HT HU ⊢;clear hr;have HE:=zH (@pb_eq a b);go_enter func149,ntmps149
 by_cases h1:a.k=b.k
 case neg=>
  have hR:=zH (HT.out (fun h=>h1 (congrArg Pb.k h)));have e0:(a.k==b.k)=AC:=by simpa using h1
  clear HT HU HE h1 ry HAA;go_wp2_with fail;rw[ai.out];go_wp2_with fail
  all_goals
   go_ret;exact⟨zn hR.out.symm,cu.out⟩
 case pos=>
 have e0:(a.k==b.k)=AA:=by simpa using h1
 have au:Aw (a.t=b.t->a.a=b.a->a=b):=fun x y=>HE.out x y h1
 clear HE h1;have h1:=ry
 by_cases h2:a.t=b.t
 case neg=>
  have hR:=zH (HT.out (fun h=>h2 (congrArg Pb.t h)));rw[Lj h2] at h1;clear HT HU au h2 ry HAA;go_wp2_with fail;rw[ai.out];go_wp2_with fail;refine h1.out.mono ?_;rintro e w2 ⟨rfl,ag⟩;go_wp2_with fail;go_ret;exact⟨zn hR.out.symm,Lc cu.out ag⟩
 case pos=>
 rw[Lm h2] at h1;have aN:Aw (a.a=b.a->a=b):=fun y=>au.out h2 y
 clear au ry h2;go_wp2_with fail;rw[ai.out];go_wp2_with fail;refine h1.out.mono ?_;rintro e w2 ⟨rfl,ag⟩;have d0:=La ag bK.out;have d1:=La ag cN.out;have p4:=zh d0 4 rfl;have p5:=zh d0 5 rfl;have q4:=zh d1 4 rfl;have q5:=zh d1 5 rfl;have HC:=zH (HAA.out w2 ag);have aw:=zH (Lc cu.out ag);go_wp2_with fail;refine HC.out.mono ?_;rintro e w3 ⟨rfl,aj⟩;have aJ:=zH (Lc aw.out aj)
 have hR:Aw (decide (a.a=b.a)=r):=by
  by_cases h3:a.a=b.a
  . show _=_;rw[Lm h3,HU.out (aN.out h3)]
  show _=_;rw[Lj h3,HT.out (fun h=>h3 (congrArg Pb.a h))]
 go_wp2_with fail;go_ret;exact⟨zn hR.out,aJ.out⟩
def XA(x:Exn):Prop:=x.word.length<=17592186044416/\x.views.length<=17592186044416/\∀v∈x.views,v.length<=17592186044416
theorem exn_eq{x y:Exn}(h1:x.c=y.c)(h2:x.word=y.word)(h3:x.views=y.views):x=y:=by cases x;cases y;simp_all
theorem rsamex_any(x y:Exn)(hx:XA x)(hy:XA y)(A1 A2 B1 B2:Bb)(a1 a2 b1 b2:Nat)(w:Ba)(rU:RAt w w.heap.size A1 x.word)(TC:LAt w w.heap.size A2 x.views)(bP:RAt w w.heap.size B1 y.word)(cH:LAt w w.heap.size B2 y.views) :
  As Aq 151 #[Ak #[O U x.c,I A1 x.word.length a1,I A2 x.views.length a2],Ak #[O U y.c,I B1 y.word.length b1,I B2 y.views.length b2]] w fun e w'=>e=Am (Aj (decide (x=y)))/\Ar w.heap.size w w':=by
 obtain⟨my,Ox,hx3⟩:=hx;obtain⟨hy1,Ou,hy3⟩:=hy;have G9:=zH hx3;have Ef:=zH hy3;obtain⟨w1,ab,d0,d1,aK,hB⟩:=yV w #[O U x.c,I A1 x.word.length a1,I A2 x.views.length a2] #[O U y.c,I B1 y.word.length b1,I B2 y.views.length b2] 58 58;have HS:=zH (ZP A1 B1 a1 b1 x.word y.word my hy1 w1 ((rU.keep hB).more hB.size) ((bP.keep hB).more hB.size));have mI:=zH ((TC.keep hB).more hB.size);have HM2:=zH ((cH.keep hB).more hB.size);have cu:=zH hB;have bK:=zH d0;have cN:=zH d1;have ai:=zH ab;have p0:=zh d0 0 rfl;have p2:=zh d0 2 rfl;have q1:=zh d1 1 rfl;have q2:=zh d1 2 rfl;clear ab d0 d1 hB rU TC bP cH hx3 hy3;have HT:Aw (x≠y->decide (x=y)=AC):=fun h=>Lj h
 have HU:Aw (x=y->decide (x=y)=AA):=fun h=>Lm h
 obtain⟨r,hr⟩:∃r,decide (x=y)=r:=⟨_,rfl⟩;rw[hr] at HT HU ⊢;clear hr;go_enter func151,ntmps151
 by_cases h1:x.c=y.c
 case neg=>
  have hR:=zH (HT.out (fun h=>h1 (congrArg Exn.c h)));have e0:(x.c != y.c)=AA:=by simpa using h1
  clear HT HU HS;go_wp2_with fail;rw[ai.out];go_wp2_with fail
  all_goals
   go_ret;exact⟨zn hR.out.symm,cu.out⟩
 case pos=>
 have H1:=zH h1;rw[h1] at p0 ai bK;clear h1;go_wp2_with fail;rw[ai.out];go_wp2_with fail;refine HS.out.mono ?_;rintro e w2 ⟨rfl,m,bZ⟩;have ag:Ar w1.heap.size w1 w2:=by rw[bZ];exact zP (Ll _ _) m
 have aw:=zH ag;have p2:=zh (La ag bK.out) 2 rfl;have q2:=zh (La ag cN.out) 2 rfl;clear ag bZ HS ai q1 p0
 by_cases h2:x.word=y.word
 case neg=>
  have hR:=zH (HT.out (fun h=>h2 (congrArg Exn.word h)));rw[Lj h2];clear HT HU;go_wp2_with fail;go_ret;exact⟨zn hR.out.symm,Lc cu.out aw.out⟩
 case pos=>
 have H2:=zH h2;rw[Lm h2];clear h2
 by_cases h3:x.views.length=y.views.length
 case neg=>
  have hR:=zH (HT.out (fun h=>h3 (by rw[h])));have e0:((x.views.length:Int) != (y.views.length:Int))=AA:=by simp;omega
  have e1:¬((x.views.length:Int)=(y.views.length:Int)):=by omega
  clear HT HU h3;go_wp2_with fail;go_ret;exact⟨zn hR.out.symm,Lc cu.out aw.out⟩
 case pos=>
 have HL:=zH h3;have H3:Aw (x.views=y.views->r=AA):=fun h=>HU.out (exn_eq H1.out H2.out h)
 have H4:Aw (x.views≠y.views->r=AC):=fun h=>HT.out (fun e=>h (congrArg Exn.views e))
 rw[<-h3] at q2 Ou;clear HT HU h3;go_wp2_with fail;clear p2 q2
 go_loopw [5] (fun i wr=>∃k:Nat,k<=x.views.length/\i=O U (k:Int)/\Aw (x.views.take k=y.views.take k)/\Aw (Ar w1.heap.size w1 wr)) (fun i _=>x.views.length-(Au i).toNat)
 case atStart=>exact⟨0,by omega,rfl,by rw[Aw,L1,L1],aw⟩
 obtain⟨k,hk,rfl,hp,hb⟩:=hrel;have p2:=zh (La hb.out bK.out) 2 rfl;have q2:=zh (La hb.out cN.out) 2 rfl;have HLy:=HL.out;rw[<-HL.out] at q2
 by_cases aa:k<x.views.length
 case neg=>
  obtain rfl:k=x.views.length:=by omega
  have hR:=zH (H3.out (ku HL.out hp.out));go_wp2_with fail;go_ret;exact⟨zn hR.out.symm,Lc cu.out hb.out⟩
 case pos=>
 have lp:k<y.views.length:=by omega
 obtain⟨ba,oa,A',k1,ea,_,a0,IA⟩:=(mI.out.keep hb.out).at_ k aa;obtain⟨bb,ob,B',k2,eb,_,b0,IB⟩:=(HM2.out.keep hb.out).at_ k lp;subst ea;subst eb;have lK:=G9.out _ (Ld aa);have mu:=Ef.out _ (Ld lp);have hc:=fun (p:Nat)=>XG A' B' k1 k2 x.views[k] y.views[k] lK mu (wr.drewN p) (IA.more hb.out.size) (IB.more hb.out.size)
 have h0:Aw (x.views[k]=y.views[k]->x.views.take (k+1)=y.views.take (k+1)):=fun he=>xO hp.out aa lp he
 have hN:Aw (x.views[k]≠y.views[k]->r=AC):=fun he=>H4.out (fun h=>he (by simp only[h]))
 by_cases he:x.views[k]=y.views[k]
 . have hR:=zH (h0.out he)
   rw[Lm he] at hc;obtain⟨la,sA⟩:=Ki (x.views[k].length);obtain⟨lb,oE⟩:=Ki (y.views[k].length);rw[sA] at a0 hc lK;rw[oE] at b0 hc mu;have HC:=zH hc;go_wp2_with fail;go_quiet ((go_at_call 173;first | exact yy (HC.out _) | exact NA (HC.out _)));go_wp2_with fail
   go_roundw
   case rel=>exact⟨k+1,by omega,by go_num,hR,zP hb.out _⟩
   simp[Au];omega
 have hR:=zH (hN.out he);rw[Lj he] at hc;obtain⟨la,sA⟩:=Ki (x.views[k].length);obtain⟨lb,oE⟩:=Ki (y.views[k].length);rw[sA] at a0 hc lK;rw[oE] at b0 hc mu;have HC:=zH hc;go_wp2_with fail;go_quiet ((go_at_call 173;first | exact yy (HC.out _) | exact NA (HC.out _)));go_wp2_with fail;go_ret;exact⟨zn hR.out.symm,zP (Lc cu.out hb.out) _⟩
end
section
def JB(f:Nat->Int):Nat->Int
 | 0=>0
 | k+1=>if JB f k=0 then f k else JB f k
theorem gR{f:Nat->Int}:∀ {m:Nat},JB f m=0↔∀k,k<m->f k=0
 | 0=>by simp[JB]
 | m+1=>by
  have ih:=gR (f:=f) (m:=m);simp only[JB];constructor
  . intro h k hk
    by_cases e:JB f m=0
    . rw[Li e] at h
      by_cases ek:k=m
      . subst ek;exact h
      . exact ih.1 e k (by omega)
    . rw[Lg e] at h;exact absurd h e
  . intro h
    have e:JB f m=0:=ih.2 fun k hk=>h k (by omega)
    rw[Li e];exact h m (by omega)
def zZ(vs:List Vw)(i:Nat):Vw:=vs.getD i default
theorem j5{vs:List Vw}{i:Nat}(h:i<vs.length):zZ vs i=vs[i]:=by simp[zZ,h]
theorem jI{vs:List Vw}{i k:Nat}(h:i<k):zZ (vs.take k) i=zZ vs i:=by
 unfold zZ;rw[Lk,Lk,NU,Li h]
def begBad(n:Int)(v:Vw)(q:Nat):Bool:=decide (v.h q≠-1/\(v.r=0\/n<=(q:Int)))
def begOut(n:Int)(v:Vw):Bool:=decide (v.p<0\/n<=v.p\/v.r<0\/6<v.r\/(v.r=0/\(v.i<0\/8<=v.i)))
def begE(n:Int)(v:Vw):Int:=
 if begOut n v=AA then 2 else if 0<v.r/\v.i≠0 then 3 else if (List.range 5).any (begBad n v)=AA then 3 else 0
def YW(vs:List Vw)(v:Vw)(q:Nat):Int:=
 if v.h q=-1 then 0 else if v.h q<0\/(vs.length:Int)<=v.h q then 6
 else if (zZ vs (v.h q).toNat).p≠(q:Int)\/(zZ vs (v.h q).toNat).r≠v.r-1 then 22 else 0
def xE(v:Vw):List Nat:=(uQ v).map fun x=>x.2.toNat
theorem jG{v:Vw}{c:Nat}:c∈xE v↔0<v.r/\∃q:Nat,q<5/\0<=v.h q/\c=(v.h q).toNat:=by
 unfold xE;rw[LZ];constructor
 . rintro⟨x,hx,rfl⟩
   obtain⟨hr,q,hq,rfl,h0⟩:=uO.1 hx;exact⟨hr,q,hq,h0,rfl⟩
 rintro⟨hr,q,hq,h0,rfl⟩;exact⟨_,uO.2 ⟨hr,q,hq,rfl,h0⟩,rfl⟩
def qJ(vs:List Vw):Nat->Nat->Nat->Bool
 | 0,i,x=>x==i
 | f+1,i,x=>x==i||(xE (zZ vs i)).any fun c=>qJ vs f c x
def kA(vs:List Vw)(i x:Nat):Bool:=qJ vs vs.length i x
def yz(vs:List Vw)(l:List Nat):List Nat:=(List.range vs.length).filter fun x=>l.any fun c=>kA vs c x
def uB(vs:List Vw)(a b:Nat):Bool:=decide ((zZ vs a).p=(zZ vs b).p/\(zZ vs a).r=(zZ vs b).r)
def Xn(vs:List Vw):List Nat->Bool
 | []=>AA
 | a::l=>(l.all fun b=>!uB vs a b)&&Xn vs l
def jf(n:Int)(vs:List Vw)(v:Vw):Int:=
 if begE n v≠0\/v.r=0 then begE n v
 else if JB (YW vs v) 5≠0 then JB (YW vs v) 5
 else if v.h v.p.toNat=-1 then 20
 else if Xn vs (yz vs (xE v))=AA then 0 else 22
def rowE(n:Int)(vs:List Vw)(k:Nat):Int:=
 if jf n (vs.take k) (zZ vs k)≠0 then jf n (vs.take k) (zZ vs k) else if zZ vs k∈vs.take k then 7 else 0
def XV(vs:List Vw):Prop:=∀i,i<vs.length->∀c,c∈xE (zZ vs i)->c<i
def Wf(n:Int)(vs:List Vw):Prop:=1<=n/\n<=5/\∀k,k<vs.length->rowE n vs k=0
theorem vb{n:Int}{v:Vw}(h:begE n v=0):0<=v.p/\v.p<n/\0<=v.r/\v.r<=6/\(v.r=0->0<=v.i/\v.i<8)/\(0<v.r->v.i=0)/\∀q,q<5->v.h q≠-1->v.r≠0/\(q:Int)<n:=by
 unfold begE at h
 split at h
 . cases h
 rename_i h1
 split at h
 . cases h
 rename_i h2
 split at h
 . cases h
 rename_i h3;simp only[begOut,decide_eq_true_eq] at h1;simp only[List.any_eq_true,List.mem_range,begBad,decide_eq_true_eq,not_exists] at h3;refine⟨by omega,by omega,by omega,by omega,fun e=>by omega,fun e=>by omega,fun q hq hh=>?_⟩;have:=h3 q;constructor
 . intro e;exact this ⟨hq,hh,.inl e⟩
 have h4:¬n<=(q:Int):=fun e=>this ⟨hq,hh,.inr e⟩
 omega
theorem ue{n:Int}{vs:List Vw}{v:Vw}(h:jf n vs v=0):begE n v=0/\(v.r≠0->(∀q,q<5->YW vs v q=0)/\v.h v.p.toNat≠-1/\Xn vs (yz vs (xE v))=AA):=by
 unfold jf at h
 split at h
 . rename_i h1
   refine⟨h,fun hr=>?_⟩;rcases h1 with h1 | h1
   . exact absurd h h1
   exact absurd h1 hr
 rename_i h1
 split at h
 . rename_i h2;exact absurd h h2
 rename_i h2
 split at h
 . cases h
 rename_i h3
 split at h
 . rename_i h4
   exact⟨by omega,fun _=>⟨gR.1 (by omega),h3,h4⟩⟩
 cases h
theorem linkE_ok{vs:List Vw}{v:Vw}{q:Nat}(h:YW vs v q=0)(h1:v.h q≠-1):0<=v.h q/\(v.h q).toNat<vs.length/\(zZ vs (v.h q).toNat).p=(q:Int)/\(zZ vs (v.h q).toNat).r=v.r-1:=by
 unfold YW at h;rw[Lg h1] at h
 split at h
 . cases h
 split at h
 . cases h
 omega
theorem Ja{n:Int}{vs:List Vw}{k:Nat}(h:rowE n vs k=0):jf n (vs.take k) (zZ vs k)=0/\zZ vs k∉vs.take k:=by
 unfold rowE at h
 split at h
 . rename_i h1;exact absurd h h1
 rename_i h1
 split at h
 . cases h
 rename_i h2;exact⟨by omega,h2⟩
theorem kid_ok{n:Int}{vs:List Vw}{v:Vw}{c:Nat}(h:jf n vs v=0)(hc:c∈xE v):c<vs.length/\(zZ vs c).r=v.r-1:=by
 obtain⟨hr,q,hq,h0,rfl⟩:=jG.1 hc;obtain⟨_,h2⟩:=ue h;have:=linkE_ok ((h2 (by omega)).1 q hq) (by omega);exact⟨this.2.1,this.2.2.2⟩
theorem Wf.acyc{n:Int}{vs:List Vw}(h:Wf n vs):XV vs:=fun i hi c hc=>by
 have:=(kid_ok (Ja (h.2.2 i hi)).1 hc).1;simp at this;omega
theorem Zq{vs:List Vw}(ha:XV vs):∀(i f g x:Nat),i<vs.length->i<=f->i<=g->qJ vs f i x=qJ vs g i x:=by
 intro i
 induction i using Nat.strongRecOn with
 | _ i ih=>
  intro f g x hi hf hg
  have key:∀f,i<=f->qJ vs f i x=(x==i||(xE (zZ vs i)).any fun c=>qJ vs c c x):=by
   intro f hf
   cases f with
   | zero=>
    have hk:xE (zZ vs i)=[]:=by
     rw[Su];intro c hc;have:=ha i hi c hc;omega
    simp[qJ,hk]
   | succ f=>
    simp only[qJ]
    congr 1
    rw[NG,NK,NK];constructor
    . rintro⟨c,hc,h⟩
      have:=ha i hi c hc;exact⟨c,hc,by rw[ih c this c f x (by omega) (by omega) (by omega)];exact h⟩
    . rintro⟨c,hc,h⟩
      have:=ha i hi c hc;exact⟨c,hc,by rw[ih c this f c x (by omega) (by omega) (by omega)];exact h⟩
  rw[key f hf,key g hg]
theorem qh{vs:List Vw}(ha:XV vs){i x:Nat}(hi:i<vs.length):kA vs i x=AA↔x=i\/∃c,c∈xE (zZ vs i)/\kA vs c x=AA:=by
 have h1:kA vs i x=qJ vs (vs.length+1) i x:=Zq ha i _ _ x hi (by omega) (by omega);rw[h1];simp only[qJ,Bool.or_eq_true,beq_iff_eq,List.any_eq_true]
 rfl
theorem reach_self(vs:List Vw)(i:Nat):kA vs i i=AA:=by
 unfold kA
 cases vs.length<;>simp[qJ]
theorem reach_lt{vs:List Vw}(ha:XV vs):∀ {i x:Nat},i<vs.length->kA vs i x=AA->x<=i:=by
 intro i
 induction i using Nat.strongRecOn with
 | _ i ih=>
  intro x hi h;rcases(qh ha hi).1 h with rfl | ⟨c,hc,h'⟩
  . exact Le _
  . have:=ha i hi c hc
    have:=ih c this (by omega) h';omega
theorem Jd{vs:List Vw}(ha:XV vs){S:Nat->Prop}(hS:∀i,i<vs.length->S i->∀c,c∈xE (zZ vs i)->S c):∀ {i x:Nat},i<vs.length->S i->kA vs i x=AA->S x:=by
 intro i
 induction i using Nat.strongRecOn with
 | _ i ih=>
  intro x hi hs h;rcases(qh ha hi).1 h with rfl | ⟨d,hd,h'⟩
  . exact hs
  . have:=ha i hi d hd
    exact ih d this (by omega) (hS i hi hs d hd) h'
theorem kT{vs:List Vw}{l:List Nat}{x:Nat}:x∈yz vs l↔x<vs.length/\∃c,c∈l/\kA vs c x=AA:=by
 simp[yz]
end
section
open Go.RowKit
def jj(vs:List Vw)(v:Vw):Int:=if v∈vs then (vs.idxOf v:Int) else -1
theorem idxE_hit{vs:List Vw}{v:Vw}{k:Nat}(hk:k<vs.length)(hv:vs[k]=v)(hn:v∉vs.take k):jj vs v=k:=by
 have hm:v∈vs:=hv▸Ld hk;unfold jj;rw[Li hm];have h1:vs=vs.take k++vs.drop k:=(P8 k vs).symm;rw[h1,NO,Lg hn];have h2:vs.drop k=v::vs.drop (k+1):=by rw[<-hv];exact LB hk
 rw[h2,List.idxOf_cons_self];simp;omega
theorem idxE_none{vs:List Vw}{v:Vw}(hn:v∉vs):jj vs v=-1:=by unfold jj;rw[Lg hn]
theorem idxE_yes{vs:List Vw}{v:Vw}(hv:v∈vs):0<=jj vs v:=by unfold jj;rw[Li hv];omega
theorem Jq{vs:List Vw}{v:Vw}{k:Nat}(hk:k<vs.length)(hv:vs[k]≠v)(hn:v∉vs.take k):v∉vs.take (k+1):=by
 rw[Lr hk,Nh,not_or];exact⟨hn,by simpa using fun e=>hv e.symm⟩
theorem index_any(n:Int)(A:Bb)(cap:Nat)(vs:List Vw)(v:Vw)(w:Ba)(B:Nat)(hB:B<=w.heap.size)(hA:VAt w B A vs)(hl:vs.length<=2199023255552) :
  As Aq 164 #[Ak #[O U n,I A vs.length cap],.agg v.cells] w fun e w'=>e=Am (O U (jj vs v))/\Ar w.heap.size w w':=by
 have HB:=kJ w;have HE:Aw (∀k (hk:k<vs.length) (X:Ba),(binOp .eql 111 (.agg vs[k].cells) (.agg v.cells)).run Aq X=.ok (Aj (decide (vs[k]=v))) X):=fun k hk X=>eql_view vs[k] v X
 unfold Vw.cells at HE ⊢;go_enter func164,ntmps164;go_wp2
 go_loopw [5] (fun i wr=>∃k m:Nat,k<=vs.length/\i=O U k/\wr=((w.alloc (Ai #[O U n,I A vs.length cap] 32)).alloc (Ai #[O U v.p,O U v.r,O U v.i,O U v.h0,O U v.h1,O U v.h2,O U v.h3,O U v.h4] 111)).drewN m/\Aw (v∉vs.take k)) (fun i _=>vs.length-(Au i).toNat)
 case atStart=>exact⟨0,0,by omega,rfl,rfl,by show v∉vs.take 0;simp⟩
 obtain⟨k,m,hk,rfl,rfl,aO⟩:=hrel
 by_cases aa:k<vs.length
 . obtain⟨b,off,rfl,aq,c0,c1,c2,c3,c4,c5,c6,c7⟩:=hA.row k aa
   have ag:b<w.heap.size:=by omega
   have iJ:=HE.out k aa
   by_cases hv:vs[k]=v
   . have rc:∀X:Ba,_:=fun X=>(iJ X).trans (by rw[Lm hv])
     have hz:Aw (jj vs v=k):=idxE_hit aa hv aO.out;clear iJ hv;go_wp2;go_quiet (fail);go_wp2;go_ret;exact⟨zm hz.out.symm,by repeat (first | exact HB _ _ | refine zP ?_ _)⟩
   have rc:∀X:Ba,_:=fun X=>(iJ X).trans (by rw[Lj hv])
   have hz:Aw (v∉vs.take (k+1)):=Jq aa hv aO.out;go_wp2;go_quiet (fail);go_wp2
   go_roundw
   case rel=>exact⟨k+1,_,by omega,by go_num,rfl,hz⟩
   simp[Au];omega
 have hz:Aw (jj vs v=-1):=idxE_none (by have:=aO.out;rwa[Nd (by omega)] at this);go_wp2;go_ret;exact⟨zm hz.out.symm,by repeat (first | exact HB _ _ | refine zP ?_ _)⟩
theorem qY{α:Type}{vs us:List α}{k:Nat}(hk:k<vs.length)(fm:k<us.length)(h:vs[k]≠us[k]):vs≠us:=by
 rintro rfl;exact h rfl
theorem ka{α:Type}{vs us:List α}(hl:vs.length=us.length)(h:vs.take vs.length=us.take vs.length):vs=us:=by
 rw[LC] at h;rw[h,hl,LC]
theorem vT{α:Type}{vs us:List α}{k:Nat}(hk:k<vs.length)(fm:k<us.length)(h:vs.take k=us.take k)(he:vs[k]=us[k]):vs.take (k+1)=us.take (k+1):=by
 rw[Lr hk,Lr fm,h,he]
theorem same_any(n n':Int)(A A':Bb)(cap aD:Nat)(vs us:List Vw)(w:Ba)(B:Nat)(hB:B<=w.heap.size)(hA:VAt w B A vs)(nd:VAt w B A' us)(hl:vs.length<=2199023255552)(MM:us.length<=2199023255552) :
  As Aq 150 #[Ak #[O U n,I A vs.length cap],Ak #[O U n',I A' us.length aD]] w fun e w'=>e=Am (Aj (decide (n=n'/\vs=us)))/\Ar w.heap.size w w':=by
 have HB:=kJ w;have HE:Aw (∀k (hk:k<vs.length) (fm:k<us.length) (X:Ba),(binOp .neq 111 (.agg vs[k].cells) (.agg us[k].cells)).run Aq X=.ok (Aj (decide (vs[k]≠us[k]))) X):=fun k hk fm X=>neq_view vs[k] us[k] X
 unfold Vw.cells at HE
 by_cases hn:n=n'
 . by_cases aU:vs.length=us.length
   . have H:Aw (decide (n=n'/\vs=us)=decide (vs=us)):=by show decide (n=n'/\vs=us)=_;simp[hn]
     have HL:=zH aU;rw[H.out];have cU:(n != n')=AC:=by simp[hn]
     have iR:((vs.length:Int) != (us.length:Int))=AC:=by simp[aU]
     clear hn aU H;go_enter func150,ntmps150;go_wp2
     go_loopw [5] (fun i wr=>∃k m:Nat,k<=vs.length/\i=O U k/\wr=((w.alloc (Ai #[O U n,I A vs.length cap] 32)).alloc (Ai #[O U n',I A' us.length aD] 32)).drewN m/\Aw (vs.take k=us.take k)) (fun i _=>vs.length-(Au i).toNat)
     case atStart=>exact⟨0,0,by omega,rfl,rfl,by show vs.take 0=us.take 0;simp⟩
     obtain⟨k,m,hk,rfl,rfl,aO⟩:=hrel;have eU:k<=us.length:=by have:=HL.out;omega
     by_cases aa:k<vs.length
     . have cB:k<us.length:=by have:=HL.out;omega
       obtain⟨b,off,rfl,aq,c0,c1,c2,c3,c4,c5,c6,c7⟩:=hA.row k aa;have ag:b<w.heap.size:=by omega
       obtain⟨b',eh,rfl,dp,d0,d1,d2,d3,d4,d5,d6,d7⟩:=nd.row k cB;have hb2':b'<w.heap.size:=by omega
       have iJ:=HE.out k aa cB
       by_cases hv:vs[k]=us[k]
       . have rc:∀X:Ba,_:=fun X=>(iJ X).trans (by rw[Lj (by simpa using hv)])
         have hz:Aw (vs.take (k+1)=us.take (k+1)):=vT aa cB aO.out hv;clear iJ hv;go_wp2;go_quiet (fail);go_wp2
         go_roundw
         case rel=>exact⟨k+1,_,by omega,by go_num,rfl,hz⟩
         simp[Au];omega
       have rc:∀X:Ba,_:=fun X=>(iJ X).trans (by rw[Lm hv])
       have hz:Aw (decide (vs=us)=AC):=Lj (qY aa cB hv);go_wp2;go_quiet (fail);go_wp2;go_ret;exact⟨zn hz.out.symm,by repeat (first | exact HB _ _ | refine zP ?_ _)⟩
     obtain rfl:k=vs.length:=by omega
     have hz:Aw (decide (vs=us)=AA):=Lm (ka HL.out aO.out);go_wp2;go_ret;exact⟨zn hz.out.symm,by repeat (first | exact HB _ _ | refine zP ?_ _)⟩
   have hz:Aw (decide (n=n'/\vs=us)=AC):=Lj (by rintro⟨_,rfl⟩;exact aU rfl);have cU:(n != n')=AC:=by simp[hn]
   have iR:((vs.length:Int) != (us.length:Int))=AA:=by simp;omega
   go_enter func150,ntmps150;go_wp2;go_ret;exact⟨zn hz.out.symm,by repeat (first | exact HB _ _ | refine zP ?_ _)⟩
 have hz:Aw (decide (n=n'/\vs=us)=AC):=Lj (by rintro⟨h,_⟩;exact hn h);have cU:(n != n')=AA:=by simpa using hn
 go_enter func150,ntmps150;go_wp2;go_ret;exact⟨zn hz.out.symm,by repeat (first | exact HB _ _ | refine zP ?_ _)⟩
end
end Go.Proofs.YtjedjoeidcbffaaGreatDoor
