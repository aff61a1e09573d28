/- Merged. -/
import Derived.Test.YtkledihebeidlaaGreatDoorXa
import Derived.Deep.RegionHeld3
import Derived.Deep.DeepCutAuto
import Derived.StillTailTactics
import Derived.RangeFuncNested
import Derived.RangeFuncBound
import Derived.RangeFuncCalls
import Derived.RangeFuncLeaves
import Derived.Shelf.Abstract
import Derived.Shelf.RegionOpen
import Derived.OwnWalkIn
import Derived.TacticsInMore
import Derived.LoopNIn
import Derived.LoopIn
open Go.Proofs.Tryz
open Go.Value renaming int->O,slice->I,bool->Ah,agg->Ai,pointer->Aj
open Go.IntKind renaming i64->U
open Option renaming none->Z,some->J
open Go.Obj renaming cells->Ag
open Go.Ending renaming returned->Ak
open Go.Proofs.Tryz renaming prog->Al,func142->RG
open Go.RowKit renaming Below->Am,intOf->Ao,Hid->Ap
open Go renaming Calls->An,Value->Aq
open Bool renaming true->Ar,false->As,false_and->NG
open Go.Calls renaming quiet_of->Nl
open Nat renaming zero_mul->RJ
namespace Go.Proofs.YtkledihebeidlaaGreatDoor
abbrev LE:=@Nat.le_trans
abbrev NB:=@List.mem_iff_getElem
abbrev Ld:=@Go.RowKit.Below.heap_setCell
abbrev NN:=@Go.World.putObj_heap_other
abbrev P6:=@Go.wpIn_wide
abbrev Rv:=@Go.cells_of_cell
abbrev LU:=@Go.World.cell?_of_block
abbrev Pd:=@List.nodup_cons
abbrev Re:=@Go.callsIn_wide
abbrev LF:=@List.mem_cons
abbrev LN:=@List.map_append
abbrev Rf:=@List.map_map
abbrev P1:=@List.flatten_cons
abbrev LT:=@List.length_map
abbrev P4:=@Go.callsIn_of_wp
abbrev Ly:=@List.length_cons
abbrev L6:=@List.nil_append
abbrev L5:=@List.cons_append
abbrev Lp:=@List.length_append
abbrev L1:=@List.append_assoc
abbrev Pj:=@Array.getElem?_eq_getElem
abbrev LP:=@Go.bodyPost_ret
abbrev PE:=@Go.results_none
abbrev Pe:=@Array.getElem?_modify
abbrev Nq:=@List.mem_singleton
abbrev LI:=@Go.grownBy_keeps_cells
abbrev Pg:=@Go.Proofs.enters_of
abbrev Nu:=@List.mem_flatten
abbrev LZ:=@List.mem_map
abbrev Rk:=@List.take_append_drop
abbrev Pt:=@Nat.add_zero
abbrev Lu:=@Int.toNat_natCast
abbrev Lg:=@List.getD_eq_getElem?_getD
abbrev Lj:=@List.getElem?_eq_getElem
abbrev Pc:=@List.getElem?_take
abbrev Sa:=@List.take_take
abbrev RU:=@List.eq_nil_iff_forall_not_mem
set_option maxRecDepth 100000
set_option maxHeartbeats 16000000
section
open Go.RowKit
theorem kM{P:Program}{f:FuncId}{args:Array Aq}{W:Ba}{q a:Nat}{v:Aq}(h:An P f args (W.drewN (q+a)) fun e w'=>e=Ak v/\w'=W.drewN (q+a)):An P f args (W.drewN (q+a)) fun e w'=>e=Ak v/\∃n,w'=W.drewN (q+n):=
 h.mono fun _ _ ⟨h1,h2⟩=>⟨h1,a,h2⟩
theorem zO{P:Program}{f:FuncId}{args:Array Aq}{W:Ba}{q a:Nat}{v:Aq}(h:An P f args (W.drewN (q+a)) fun e w'=>e=Ak v/\∃n,w'=(W.drewN (q+a)).drewN n):An P f args (W.drewN (q+a)) fun e w'=>e=Ak v/\∃n,w'=W.drewN (q+n):=
 h.mono fun _ _ ⟨h1,n,h2⟩=>⟨h1,a+n,by rw[h2,PR,Pw]⟩
theorem rone_any(t:Tk)(A:Bb)(kc:Nat)(hf:FewT t)(i:Nat)(hi:i<t.cases.length)(w:Ba)(hA:CAt w w.heap.size A t.cases) :
  An Al 143 #[Ai #[O U t.n,O U t.ins,O U t.outs,I A t.cases.length kc],O U i] w fun e w'=>e=Ak (O U (xB t (zm t.cases i) t.cases[i]))/\Am w.heap.size w w':=by
 obtain⟨dA,eG⟩:=hf;have OF:=zH eG;have ld:=zH (@Zl t (zm t.cases i) t.cases[i]);have aU:=zH (@uq t (zm t.cases i) t.cases[i]);have cH:=zH (@Zm t (zm t.cases i) t.cases[i]);obtain⟨E,hE⟩:=Kh (xB t (zm t.cases i) t.cases[i]);rw[hE] at ld aU cH ⊢;obtain⟨n,ins,m,cs⟩:=t;dsimp only at dA OF ld aU cH hA hi ⊢;obtain⟨b,o,A0,k0,A1,k1,A2,k2,e,dC,c0,c1,c2,I0,I1,I2⟩:=hA.row i hi;obtain⟨f0,⟨f1,f2⟩,f3,f4⟩:=eG _ (Le hi);obtain⟨bo,bU⟩:=Kh (xA ((zm cs i).map Cs.inp) cs[i].inp);have bI:=zH bU;rw[bU] at aU cH;have aA:=zH (@ul n m cs[i]);have al:=zH (@wT n m cs[i]);have az:=zH (@um n m cs[i]);obtain⟨x,hx⟩:=Kh (cs[i]);have HX:=zH hx;rw[hx] at c0 c1 c2 I0 I1 I2 f0 f1 f2 f3 f4 ld aU cH aA al az;obtain⟨xi,xo,xc⟩:=x;dsimp only at c0 c1 c2 I0 I1 I2 f0 f1 f2 f3 f4 ld aU cH aA al az;obtain⟨ev,cm⟩:=Kh (zo xi n ins);rw[cm] at ld aU cH;have dP:=zH f2;have nF:=zH f4;obtain⟨W1,cA,b0,b1,bk,ay⟩:=tboxes w #[O U n,O U ins,O U m,I A cs.length kc] #[I A0 xi.length k0,I A1 xo.length k1,I A2 xc.length k2] 24 118;have aT:=zH ay;have H0:=zH ((I0.keep ay).more (show w.heap.size<=W1.heap.size by omega));have H1:=zH ((I1.keep ay).more (show w.heap.size<=W1.heap.size by omega));have H2:=zH ((I2.keep ay).more (show w.heap.size<=W1.heap.size by omega));have Iv:=zH ((hA.keep ay).more (show w.heap.size<=W1.heap.size by omega));have CN:=zH (ki A0 k0 xi n ins (by omega) W1 H0.out);rw[cm] at CN;subst e
 have lD:=zH b0;have nz:=zH b1;have fN:=zH cA;clear hE bU hx cm f2 f4 hA eG I0 I1 I2 cA ay b0 b1 bk;go_enter func143,ntmps143;go_wp2_with fail;rw[fN.out];obtain⟨q0,q1,q2,q3,_⟩:=Kb lD.out;obtain⟨p0,p1,p2,_⟩:=Kc nz.out;have DB:=aT.out.size;clear fN c0 c1 c2;refine CN.out.mono ?_;rintro e w' ⟨rfl,dw⟩;obtain rfl:W1=w':=dw.symm;clear CN
 by_cases cm:ev=0
 case neg=>
  have hd:=zH (ld.out cm);have e0:(ev != 0)=Ar:=by simpa using cm
  clear ld aU cH aA al az cm bI HX;go_wp2_with fail;go_ret;exact⟨zc hd.out.symm,aT.out⟩
 case pos=>
 subst cm;clear ld
 cases i with
 | zero=>
  obtain rfl:bo=As:=by rw[<-bI.out];rfl
  have g0:decide ((0:Int)<0)=As:=by decide
  clear bI HX;go_wp2_with fail;go_quiet (fail);have ie:=zH (cH.out (by simp) (by simp));clear aU cH
  by_cases hz:xo.length<1
  . have hR:=zH (ie.out.trans (aA.out hz))
    clear ie aA al az;go_wp2_with fail
    all_goals first | (exfalso;omega) | skip
    go_ret;exact⟨zc hR.out.symm,by repeat (first | exact aT.out | refine zF ?_ _)⟩
  have bQ:¬((xo.length:Int)<1):=by omega
  have al:=zH (fun h=>ie.out.trans (al.out (by omega) (by omega) h));have az:=zH (fun h=>ie.out.trans (az.out (by omega) (by omega) h));clear aA ie;obtain⟨F,hF⟩:∃F,qi (fun v=>zo v n m) xo=F:=⟨_,rfl⟩;have HF:Ap (F=yi (fun v=>zo v n m) xo 0):=by rw[xn];exact hF.symm
  rw[hF] at al az;clear hF;go_wp2_with fail
  all_goals first | (exfalso;omega) | skip
  go_loopw [7] (fun i wr=>∃k q:Nat,k<=xo.length/\i=O U (k:Int)/\Ap (F=yi (fun v=>zo v n m) xo k)/\wr=W1.drewN q) (fun i _=>xo.length-(Ao i).toNat)
  case atStart=>exact⟨0,_,by omega,rfl,HF,rfl⟩
  case round=>
   obtain⟨k,q,hk,rfl,ag,rfl⟩:=hrel;clear HF
   by_cases aa:k<xo.length
   . obtain⟨b,o,A3,k3,rfl,hb,c3,I3⟩:=H1.out.at_ k aa
     have l3:=dP.out _ (Le aa);have mF:=zH I3;have aF:=zH (@xE (fun v=>zo v n m) xo k aa);have aU:=zH (@yV (fun v=>zo v n m) xo k aa);have aB:=zH (@qf (fun v=>zo v n m) xo k aa);have HV:=zH (fun (p:Nat)=>ki A3 k3 xo[k] n m (by omega) (W1.drewN p) I3);obtain⟨bo,bU⟩:=Kh (xA (zm xo k) xo[k]);have bI:=zH bU;rw[bU] at aU aB;obtain⟨v,hv⟩:=Kh (xo[k]);have HX:=zH hv;rw[hv] at c3 mF l3 aF aU aB HV;obtain⟨ev,cm⟩:=Kh (zo v n m);rw[cm] at aF aU aB HV;obtain⟨vl,cS⟩:=Kh v.length;have dG:=zH cS;rw[cS] at c3 l3 HV;clear hv bU cm cS I3
     by_cases he:ev=0
     case neg=>
      have hR:=zH (ag.out.trans (aF.out he));have HR:=zH ((al.out (by rw[hR.out];exact he)).trans hR.out);clear ag aU aB aF al az bI HX dG;have e0:(ev != 0)=Ar:=by simpa using he
      clear he;go_wp2_with fail;go_quiet ((go_at_call 159;exact kM (HV.out _)));go_wp2_with fail;go_ret;exact⟨zc HR.out.symm,by repeat (first | exact aT.out | refine zF ?_ _)⟩
     case pos=>
     subst he;clear aF;go_wp2_with fail;go_quiet ((go_at_call 159;exact kM (HV.out _)));clear HV;have dz:k<=30:=by omega
     cases k with
     | zero=>
      obtain rfl:bo=As:=by rw[<-bI.out];rfl
      have g0:decide ((0:Int)<0)=As:=by decide
      clear bI HX dG;go_wp2_with fail;go_quiet (fail);have hR:=zH (ag.out.trans (aB.out (by simp) (by simp)));clear ag aU aB;go_wp2_with fail
      go_roundw
      case rel=>exact⟨0+1,_,by omega,by go_num,hR,rfl⟩
      case measure=>simp[Ao];omega
     | succ j=>
      have hj:j<xo.length:=by omega
      have bz:xA (zm xo (j+1)) xo[j+1]=decide (0<=zh xo[j] xo[j+1]):=by rw[zV xo j hj];rfl
      obtain⟨b',o',mU,lV,e',_,u0,U0⟩:=H1.out.at_ j hj
      cases e'
      have mD:=dP.out _ (Le hj);rw[HX.out] at bz;have hc:=fun (p:Nat)=>yR mU A3 lV k3 xo[j] v (by omega) (by rw[<-HX.out];have:=dP.out _ (Le aa);omega) (W1.drewN p) U0 mF.out
      rw[show xA (zm xo (j+1)) v=bo by have:=bI.out;rwa[HX.out] at this] at bz;obtain⟨r,hr⟩:=Kh (zh xo[j] v);rw[hr] at bz hc;have cu:=zH bz;obtain⟨nl,dS⟩:=Kh (xo[j].length);rw[dS] at u0 hc mD;rw[dG.out] at hc;have HC:=zH hc;clear bz hc hr dS U0 bI HX dG;have g1:((j:Int)+1).toNat=j+1:=by omega
      have g3:IntKind.i64.wrap ((j:Int)+1-1)=(j:Int):=by rw[Lw];omega
      have g5:IntKind.i64.wrap ((j:Int)+1)=(j:Int)+1:=by rw[Lw];omega
      have g6:decide ((0:Int)<(j:Int)+1)=Ar:=Lo (by omega)
      cases bo with
      | true=>
       have g7:decide (0<=r)=Ar:=cu.out.symm;have g8:0<=r:=LA g7;clear cu;go_wp2_with fail;go_quiet ((go_at_call 148;first | exact zO (HC.out _) | exact Nl (HC.out _)));clear HC g1 g3 g5 g6 u0;have hR:=zH (ag.out.trans (aU.out (by simp) (by simp)));have co:=zH ((al.out (by rw[hR.out];decide)).trans hR.out);clear ag aU aB al az;go_wp2_with fail;go_ret;exact⟨zc co.out.symm,by repeat (first | exact aT.out | refine zF ?_ _)⟩
      | false=>
       have g7:decide (0<=r)=As:=cu.out.symm;have g8:¬0<=r:=NI g7;clear cu;go_wp2_with fail;go_quiet ((go_at_call 148;first | exact zO (HC.out _) | exact Nl (HC.out _)));clear HC g1 g3 g5 g6 u0;have hR:=zH (ag.out.trans (aB.out (by simp) (by simp)));clear ag aU aB;go_wp2_with fail
       go_roundw
       case rel=>exact⟨j+1+1,_,by omega,by go_num,hR,rfl⟩
       case measure=>simp[Ao];omega
   . obtain rfl:k=xo.length:=by omega
     have hR:=zH (ag.out.trans xD);have HR:=zH (az.out hR.out);clear ag al az hR;go_wp2_with fail;obtain⟨G,hG⟩:=Kh (qi (xZ xo) xc);have HG:Ap (G=yi (xZ xo) xc 0):=by rw[xn];exact hG.symm
     rw[hG] at HR;clear hG
     go_loopw [9] (fun i wr=>∃k q:Nat,k<=xc.length/\i=O U (k:Int)/\Ap (G=yi (xZ xo) xc k)/\wr=W1.drewN q) (fun i _=>xc.length-(Ao i).toNat)
     case atStart=>exact⟨0,_,by omega,rfl,HG,rfl⟩
     case round=>
      obtain⟨k,q,hk,rfl,ag,rfl⟩:=hrel;clear HG
      by_cases aa:k<xc.length
      . obtain⟨b,o,A3,k3,rfl,hb,c3,I3⟩:=H2.out.at_ k aa
        have l3:=nF.out _ (Le aa);have mF:=zH I3;have aF:=zH (@xE (xZ xo) xc k aa);have aU:=zH (@yV (xZ xo) xc k aa);have aB:=zH (@qf (xZ xo) xc k aa);have HV:=zH (fun (p:Nat)=>Yj A1 k1 xo A3 k3 xc[k] (by omega) (fun v hv=>by have:=dP.out v hv;omega) (by omega) (W1.drewN p) H1.out I3);have dK:Ap (∀v,xZ xo v=if v∈xo then 0 else 6):=fun _=>rfl
        obtain⟨bo,bU⟩:=Kh (xA (zm xc k) xc[k]);have bI:=zH bU;rw[bU] at aU aB;obtain⟨v,hv⟩:=Kh (xc[k]);have HX:=zH hv;rw[hv] at c3 mF l3 aF aU aB HV;have dK:=zH (dK.out v);obtain⟨ev,cm⟩:=Kh (xZ xo v);rw[cm] at aF aU aB dK;obtain⟨vl,cS⟩:=Kh v.length;have dG:=zH cS;rw[cS] at c3 l3 HV;clear hv bU cm cS I3
        by_cases hm:v∈xo
        case neg=>
         have he:ev=6:=dK.out.trans (Lk hm);subst he;rw[Lr hm] at HV;have hR:=zH (ag.out.trans (aF.out (by decide)));have co:=zH (HR.out.trans hR.out);clear ag aU aB aF hm dK HR bI HX dG;go_wp2_with fail;go_quiet ((go_at_call 160;exact zO (HV.out _)));go_wp2_with fail;go_ret;exact⟨zc co.out.symm,by repeat (first | exact aT.out | refine zF ?_ _)⟩
        case pos=>
        have he:ev=0:=dK.out.trans (Lm hm);subst he;rw[Lo hm] at HV;clear aF hm dK;go_wp2_with fail;go_quiet ((go_at_call 160;exact zO (HV.out _)));clear HV;have dz:k<=30:=by omega
        cases k with
        | zero=>
         obtain rfl:bo=As:=by rw[<-bI.out];rfl
         have g0:decide ((0:Int)<0)=As:=by decide
         clear bI HX dG;go_wp2_with fail;go_quiet (fail);have hR:=zH (ag.out.trans (aB.out (by simp) (by simp)));clear ag aU aB;go_wp2_with fail
         go_roundw
         case rel=>exact⟨0+1,_,by omega,by go_num,hR,rfl⟩
         case measure=>simp[Ao];omega
        | succ j=>
         have hj:j<xc.length:=by omega
         have bz:xA (zm xc (j+1)) xc[j+1]=decide (0<=zh xc[j] xc[j+1]):=by rw[zV xc j hj];rfl
         obtain⟨b',o',mU,lV,e',_,u0,U0⟩:=H2.out.at_ j hj
         cases e'
         have mD:=nF.out _ (Le hj);rw[HX.out] at bz;have hc:=fun (p:Nat)=>yR mU A3 lV k3 xc[j] v (by omega) (by rw[<-HX.out];have:=nF.out _ (Le aa);omega) (W1.drewN p) U0 mF.out
         rw[show xA (zm xc (j+1)) v=bo by have:=bI.out;rwa[HX.out] at this] at bz;obtain⟨r,hr⟩:=Kh (zh xc[j] v);rw[hr] at bz hc;have cu:=zH bz;obtain⟨nl,dS⟩:=Kh (xc[j].length);rw[dS] at u0 hc mD;rw[dG.out] at hc;have HC:=zH hc;clear bz hc hr dS U0 bI HX dG;have g1:((j:Int)+1).toNat=j+1:=by omega
         have g3:IntKind.i64.wrap ((j:Int)+1-1)=(j:Int):=by rw[Lw];omega
         have g5:IntKind.i64.wrap ((j:Int)+1)=(j:Int)+1:=by rw[Lw];omega
         have g6:decide ((0:Int)<(j:Int)+1)=Ar:=Lo (by omega)
         cases bo with
         | true=>
          have g7:decide (0<=r)=Ar:=cu.out.symm;have g8:0<=r:=LA g7;clear cu;go_wp2_with fail;go_quiet ((go_at_call 148;first | exact zO (HC.out _) | exact Nl (HC.out _)));clear HC g1 g3 g5 g6 u0;have hR:=zH (ag.out.trans (aU.out (by simp) (by simp)));have co:=zH (HR.out.trans hR.out);clear ag aU aB HR;go_wp2_with fail;go_ret;exact⟨zc co.out.symm,by repeat (first | exact aT.out | refine zF ?_ _)⟩
         | false=>
          have g7:decide (0<=r)=As:=cu.out.symm;have g8:¬0<=r:=NI g7;clear cu;go_wp2_with fail;go_quiet ((go_at_call 148;first | exact zO (HC.out _) | exact Nl (HC.out _)));clear HC g1 g3 g5 g6 u0;have hR:=zH (ag.out.trans (aB.out (by simp) (by simp)));clear ag aU aB;go_wp2_with fail
          go_roundw
          case rel=>exact⟨j+1+1,_,by omega,by go_num,hR,rfl⟩
          case measure=>simp[Ao];omega
      . obtain rfl:k=xc.length:=by omega
        have hR:=zH (ag.out.trans xD);have co:=zH (HR.out.trans hR.out);clear ag HR hR;go_wp2_with fail;go_ret;exact⟨zc co.out.symm,by repeat (first | exact aT.out | refine zF ?_ _)⟩
 | succ j=>
  have hj:j<cs.length:=by omega
  have bz:xA ((zm cs (j+1)).map Cs.inp) cs[j+1].inp=decide (0<=zh cs[j].inp cs[j+1].inp):=by rw[zV cs j hj];rfl
  obtain⟨b',o',mU,lV,_,_,_,_,e',_,u0,_,_,U0,_,_⟩:=Iv.out.row j hj
  cases e'
  obtain⟨mD,_,_⟩:=OF.out _ (Le hj);rw[HX.out] at bz;have hc:=fun (p:Nat)=>yR mU A0 lV k0 cs[j].inp xi (by omega) (by omega) (W1.drewN p) U0 H0.out
  rw[show xA ((zm cs (j+1)).map Cs.inp) xi=bo by have:=bI.out;rwa[HX.out] at this] at bz;obtain⟨r,hr⟩:=Kh (zh cs[j].inp xi);rw[hr] at bz hc;have cu:=zH bz;obtain⟨nl,dS⟩:=Kh (cs[j].inp.length);rw[dS] at u0 hc mD;have HC:=zH hc;clear bz hc hr dS U0 bI HX;have g1:((j:Int)+1).toNat=j+1:=by omega
  have g3:IntKind.i64.wrap ((j:Int)+1-1)=(j:Int):=by rw[Lw];omega
  have g5:IntKind.i64.wrap ((j:Int)+1)=(j:Int)+1:=by rw[Lw];omega
  have g6:decide ((0:Int)<(j:Int)+1)=Ar:=Lo (by omega)
  cases bo with
  | true=>
   have g7:decide (0<=r)=Ar:=cu.out.symm;have g8:0<=r:=LA g7;clear cu;go_wp2_with fail;go_quiet ((go_at_call 148;first | exact zO (HC.out _) | exact Nl (HC.out _)));clear HC g1 g3 g5 g6 u0;have hd:=zH (aU.out (by simp) (by simp));clear aU cH aA al az;go_wp2_with fail;go_ret;exact⟨zc hd.out.symm,by repeat (first | exact aT.out | refine zF ?_ _)⟩
  | false=>
   have g7:decide (0<=r)=As:=cu.out.symm;have g8:¬0<=r:=NI g7;clear cu;go_wp2_with fail;go_quiet ((go_at_call 148;first | exact zO (HC.out _) | exact Nl (HC.out _)));clear HC g1 g3 g5 g6 u0;have ie:=zH (cH.out (by simp) (by simp));clear aU cH
   by_cases hz:xo.length<1
   . have hR:=zH (ie.out.trans (aA.out hz))
     clear ie aA al az;go_wp2_with fail
     all_goals first | (exfalso;omega) | skip
     go_ret;exact⟨zc hR.out.symm,by repeat (first | exact aT.out | refine zF ?_ _)⟩
   have bQ:¬((xo.length:Int)<1):=by omega
   have al:=zH (fun h=>ie.out.trans (al.out (by omega) (by omega) h));have az:=zH (fun h=>ie.out.trans (az.out (by omega) (by omega) h));clear aA ie;obtain⟨F,hF⟩:∃F,qi (fun v=>zo v n m) xo=F:=⟨_,rfl⟩;have HF:Ap (F=yi (fun v=>zo v n m) xo 0):=by rw[xn];exact hF.symm
   rw[hF] at al az;clear hF;go_wp2_with fail
   all_goals first | (exfalso;omega) | skip
   go_loopw [7] (fun i wr=>∃k q:Nat,k<=xo.length/\i=O U (k:Int)/\Ap (F=yi (fun v=>zo v n m) xo k)/\wr=W1.drewN q) (fun i _=>xo.length-(Ao i).toNat)
   case atStart=>exact⟨0,_,by omega,rfl,HF,rfl⟩
   case round=>
    obtain⟨k,q,hk,rfl,ag,rfl⟩:=hrel;clear HF
    by_cases aa:k<xo.length
    . obtain⟨b,o,A3,k3,rfl,hb,c3,I3⟩:=H1.out.at_ k aa
      have l3:=dP.out _ (Le aa);have mF:=zH I3;have aF:=zH (@xE (fun v=>zo v n m) xo k aa);have aU:=zH (@yV (fun v=>zo v n m) xo k aa);have aB:=zH (@qf (fun v=>zo v n m) xo k aa);have HV:=zH (fun (p:Nat)=>ki A3 k3 xo[k] n m (by omega) (W1.drewN p) I3);obtain⟨bo,bU⟩:=Kh (xA (zm xo k) xo[k]);have bI:=zH bU;rw[bU] at aU aB;obtain⟨v,hv⟩:=Kh (xo[k]);have HX:=zH hv;rw[hv] at c3 mF l3 aF aU aB HV;obtain⟨ev,cm⟩:=Kh (zo v n m);rw[cm] at aF aU aB HV;obtain⟨vl,cS⟩:=Kh v.length;have dG:=zH cS;rw[cS] at c3 l3 HV;clear hv bU cm cS I3
      by_cases he:ev=0
      case neg=>
       have hR:=zH (ag.out.trans (aF.out he));have HR:=zH ((al.out (by rw[hR.out];exact he)).trans hR.out);clear ag aU aB aF al az bI HX dG;have e0:(ev != 0)=Ar:=by simpa using he
       clear he;go_wp2_with fail;go_quiet ((go_at_call 159;exact kM (HV.out _)));go_wp2_with fail;go_ret;exact⟨zc HR.out.symm,by repeat (first | exact aT.out | refine zF ?_ _)⟩
      case pos=>
      subst he;clear aF;go_wp2_with fail;go_quiet ((go_at_call 159;exact kM (HV.out _)));clear HV;have dz:k<=30:=by omega
      cases k with
      | zero=>
       obtain rfl:bo=As:=by rw[<-bI.out];rfl
       have g0:decide ((0:Int)<0)=As:=by decide
       clear bI HX dG;go_wp2_with fail;go_quiet (fail);have hR:=zH (ag.out.trans (aB.out (by simp) (by simp)));clear ag aU aB;go_wp2_with fail
       go_roundw
       case rel=>exact⟨0+1,_,by omega,by go_num,hR,rfl⟩
       case measure=>simp[Ao];omega
      | succ j=>
       have hj:j<xo.length:=by omega
       have bz:xA (zm xo (j+1)) xo[j+1]=decide (0<=zh xo[j] xo[j+1]):=by rw[zV xo j hj];rfl
       obtain⟨b',o',mU,lV,e',_,u0,U0⟩:=H1.out.at_ j hj
       cases e'
       have mD:=dP.out _ (Le hj);rw[HX.out] at bz;have hc:=fun (p:Nat)=>yR mU A3 lV k3 xo[j] v (by omega) (by rw[<-HX.out];have:=dP.out _ (Le aa);omega) (W1.drewN p) U0 mF.out
       rw[show xA (zm xo (j+1)) v=bo by have:=bI.out;rwa[HX.out] at this] at bz;obtain⟨r,hr⟩:=Kh (zh xo[j] v);rw[hr] at bz hc;have cu:=zH bz;obtain⟨nl,dS⟩:=Kh (xo[j].length);rw[dS] at u0 hc mD;rw[dG.out] at hc;have HC:=zH hc;clear bz hc hr dS U0 bI HX dG;have g1:((j:Int)+1).toNat=j+1:=by omega
       have g3:IntKind.i64.wrap ((j:Int)+1-1)=(j:Int):=by rw[Lw];omega
       have g5:IntKind.i64.wrap ((j:Int)+1)=(j:Int)+1:=by rw[Lw];omega
       have g6:decide ((0:Int)<(j:Int)+1)=Ar:=Lo (by omega)
       cases bo with
       | true=>
        have g7:decide (0<=r)=Ar:=cu.out.symm;have g8:0<=r:=LA g7;clear cu;go_wp2_with fail;go_quiet ((go_at_call 148;first | exact zO (HC.out _) | exact Nl (HC.out _)));clear HC g1 g3 g5 g6 u0;have hR:=zH (ag.out.trans (aU.out (by simp) (by simp)));have co:=zH ((al.out (by rw[hR.out];decide)).trans hR.out);clear ag aU aB al az;go_wp2_with fail;go_ret;exact⟨zc co.out.symm,by repeat (first | exact aT.out | refine zF ?_ _)⟩
       | false=>
        have g7:decide (0<=r)=As:=cu.out.symm;have g8:¬0<=r:=NI g7;clear cu;go_wp2_with fail;go_quiet ((go_at_call 148;first | exact zO (HC.out _) | exact Nl (HC.out _)));clear HC g1 g3 g5 g6 u0;have hR:=zH (ag.out.trans (aB.out (by simp) (by simp)));clear ag aU aB;go_wp2_with fail
        go_roundw
        case rel=>exact⟨j+1+1,_,by omega,by go_num,hR,rfl⟩
        case measure=>simp[Ao];omega
    . obtain rfl:k=xo.length:=by omega
      have hR:=zH (ag.out.trans xD);have HR:=zH (az.out hR.out);clear ag al az hR;go_wp2_with fail;obtain⟨G,hG⟩:=Kh (qi (xZ xo) xc);have HG:Ap (G=yi (xZ xo) xc 0):=by rw[xn];exact hG.symm
      rw[hG] at HR;clear hG
      go_loopw [9] (fun i wr=>∃k q:Nat,k<=xc.length/\i=O U (k:Int)/\Ap (G=yi (xZ xo) xc k)/\wr=W1.drewN q) (fun i _=>xc.length-(Ao i).toNat)
      case atStart=>exact⟨0,_,by omega,rfl,HG,rfl⟩
      case round=>
       obtain⟨k,q,hk,rfl,ag,rfl⟩:=hrel;clear HG
       by_cases aa:k<xc.length
       . obtain⟨b,o,A3,k3,rfl,hb,c3,I3⟩:=H2.out.at_ k aa
         have l3:=nF.out _ (Le aa);have mF:=zH I3;have aF:=zH (@xE (xZ xo) xc k aa);have aU:=zH (@yV (xZ xo) xc k aa);have aB:=zH (@qf (xZ xo) xc k aa);have HV:=zH (fun (p:Nat)=>Yj A1 k1 xo A3 k3 xc[k] (by omega) (fun v hv=>by have:=dP.out v hv;omega) (by omega) (W1.drewN p) H1.out I3);have dK:Ap (∀v,xZ xo v=if v∈xo then 0 else 6):=fun _=>rfl
         obtain⟨bo,bU⟩:=Kh (xA (zm xc k) xc[k]);have bI:=zH bU;rw[bU] at aU aB;obtain⟨v,hv⟩:=Kh (xc[k]);have HX:=zH hv;rw[hv] at c3 mF l3 aF aU aB HV;have dK:=zH (dK.out v);obtain⟨ev,cm⟩:=Kh (xZ xo v);rw[cm] at aF aU aB dK;obtain⟨vl,cS⟩:=Kh v.length;have dG:=zH cS;rw[cS] at c3 l3 HV;clear hv bU cm cS I3
         by_cases hm:v∈xo
         case neg=>
          have he:ev=6:=dK.out.trans (Lk hm);subst he;rw[Lr hm] at HV;have hR:=zH (ag.out.trans (aF.out (by decide)));have co:=zH (HR.out.trans hR.out);clear ag aU aB aF hm dK HR bI HX dG;go_wp2_with fail;go_quiet ((go_at_call 160;exact zO (HV.out _)));go_wp2_with fail;go_ret;exact⟨zc co.out.symm,by repeat (first | exact aT.out | refine zF ?_ _)⟩
         case pos=>
         have he:ev=0:=dK.out.trans (Lm hm);subst he;rw[Lo hm] at HV;clear aF hm dK;go_wp2_with fail;go_quiet ((go_at_call 160;exact zO (HV.out _)));clear HV;have dz:k<=30:=by omega
         cases k with
         | zero=>
          obtain rfl:bo=As:=by rw[<-bI.out];rfl
          have g0:decide ((0:Int)<0)=As:=by decide
          clear bI HX dG;go_wp2_with fail;go_quiet (fail);have hR:=zH (ag.out.trans (aB.out (by simp) (by simp)));clear ag aU aB;go_wp2_with fail
          go_roundw
          case rel=>exact⟨0+1,_,by omega,by go_num,hR,rfl⟩
          case measure=>simp[Ao];omega
         | succ j=>
          have hj:j<xc.length:=by omega
          have bz:xA (zm xc (j+1)) xc[j+1]=decide (0<=zh xc[j] xc[j+1]):=by rw[zV xc j hj];rfl
          obtain⟨b',o',mU,lV,e',_,u0,U0⟩:=H2.out.at_ j hj
          cases e'
          have mD:=nF.out _ (Le hj);rw[HX.out] at bz;have hc:=fun (p:Nat)=>yR mU A3 lV k3 xc[j] v (by omega) (by rw[<-HX.out];have:=nF.out _ (Le aa);omega) (W1.drewN p) U0 mF.out
          rw[show xA (zm xc (j+1)) v=bo by have:=bI.out;rwa[HX.out] at this] at bz;obtain⟨r,hr⟩:=Kh (zh xc[j] v);rw[hr] at bz hc;have cu:=zH bz;obtain⟨nl,dS⟩:=Kh (xc[j].length);rw[dS] at u0 hc mD;rw[dG.out] at hc;have HC:=zH hc;clear bz hc hr dS U0 bI HX dG;have g1:((j:Int)+1).toNat=j+1:=by omega
          have g3:IntKind.i64.wrap ((j:Int)+1-1)=(j:Int):=by rw[Lw];omega
          have g5:IntKind.i64.wrap ((j:Int)+1)=(j:Int)+1:=by rw[Lw];omega
          have g6:decide ((0:Int)<(j:Int)+1)=Ar:=Lo (by omega)
          cases bo with
          | true=>
           have g7:decide (0<=r)=Ar:=cu.out.symm;have g8:0<=r:=LA g7;clear cu;go_wp2_with fail;go_quiet ((go_at_call 148;first | exact zO (HC.out _) | exact Nl (HC.out _)));clear HC g1 g3 g5 g6 u0;have hR:=zH (ag.out.trans (aU.out (by simp) (by simp)));have co:=zH (HR.out.trans hR.out);clear ag aU aB HR;go_wp2_with fail;go_ret;exact⟨zc co.out.symm,by repeat (first | exact aT.out | refine zF ?_ _)⟩
          | false=>
           have g7:decide (0<=r)=As:=cu.out.symm;have g8:¬0<=r:=NI g7;clear cu;go_wp2_with fail;go_quiet ((go_at_call 148;first | exact zO (HC.out _) | exact Nl (HC.out _)));clear HC g1 g3 g5 g6 u0;have hR:=zH (ag.out.trans (aB.out (by simp) (by simp)));clear ag aU aB;go_wp2_with fail
           go_roundw
           case rel=>exact⟨j+1+1,_,by omega,by go_num,hR,rfl⟩
           case measure=>simp[Ao];omega
       . obtain rfl:k=xc.length:=by omega
         have hR:=zH (ag.out.trans xD);have co:=zH (HR.out.trans hR.out);clear ag HR hR;go_wp2_with fail;go_ret;exact⟨zc co.out.symm,by repeat (first | exact aT.out | refine zF ?_ _)⟩
end
section
open Go.RowKit
attribute [local go_sem] Oper.semAt_some
theorem jb(A B:Bb)(ca cb:Nat)(xs ys:List (List Int))(hx:xs.length<=17592186044416)(_hy:ys.length<=17592186044416)(eN:∀v∈xs,v.length<=17592186044416)(fT:∀v∈ys,v.length<=17592186044416)(w:Ba)(hA:LAt w w.heap.size A xs)(hB:LAt w w.heap.size B ys) :
  An Al 149 #[I A xs.length ca,I B ys.length cb] w fun e w'=>e=Ak (Ah (decide (xs=ys)))/\∃n,w'=w.drewN n:=by
 have Vm:=zH eN;have sI:=zH fT;have HA:=zH hA;have HB:=zH hB;have HT:Ap (∀b,(xs=ys↔b=Ar)->decide (xs=ys)=b):=fun b h=>by cases b<;>simp_all
 obtain⟨r,hr⟩:∃r,decide (xs=ys)=r:=⟨_,rfl⟩;rw[hr] at HT ⊢;go_enter func149,ntmps149
 by_cases hl:xs.length=ys.length
 case neg=>
  have hR:Ap (r=As):=HT.out As ⟨fun h=>absurd (congrArg List.length h) hl,fun h=>by cases h⟩;have e0:((xs.length:Int) != (ys.length:Int))=Ar:=by simp;omega
  go_wp2_with fail;go_ret;exact⟨zg hR.out.symm,0,rfl⟩
 case pos=>
 have HL:=zH hl;rw[<-hl] at _hy ⊢;go_wp2_with fail
 go_loopw [5] (fun i wr=>∃k n:Nat,k<=xs.length/\i=O U (k:Int)/\Ap (xs.take k=ys.take k)/\Ap (wr=w.drewN n)) (fun i _=>xs.length-(Ao i).toNat)
 case atStart=>exact⟨0,0,by omega,rfl,by rw[Ap,LQ,LQ],rfl⟩
 obtain⟨k,n,hk,rfl,hp,hw⟩:=hrel
 by_cases aa:k<xs.length
 case neg=>
  obtain rfl:k=xs.length:=by omega
  have hR:Ap (r=Ar):=HT.out Ar ⟨fun _=>rfl,fun _=>xQ HL.out hp.out⟩;go_wp2_with fail;go_ret;exact⟨zg hR.out.symm,n,hw.out⟩
 case pos=>
 have dm:k<ys.length:=by have:=HL.out;omega
 obtain⟨ba,oa,A1,k1,ea,_,a0,IA⟩:=(HA.out).at_ k aa;obtain⟨bb,ob,A2,k2,eb,_,b0,IB⟩:=(HB.out).at_ k dm;subst ea;subst eb;have np:Ap (∀p,wr.cell? p=w.cell? p):=fun p=>by rw[hw.out];rfl
 rw[<-np.out] at a0 b0;have dd:=Vm.out _ (Le aa);have dR:=sI.out _ (Le dm);have hc:=fun (p:Nat)=>yR A1 A2 k1 k2 xs[k] ys[k] dd dR (wr.drewN p) (by rw[hw.out];exact IA) (by rw[hw.out];exact IB)
 by_cases he:xs[k]=ys[k]
 . have hR:=zH (xp hp.out aa dm he)
   have hz:zh xs[k] ys[k]=0:=by rw[he];exact yF _
   rw[hz] at hc;obtain⟨la,rJ⟩:=Kh (xs[k].length);obtain⟨lb,ni⟩:=Kh (ys[k].length);rw[rJ] at a0 hc dd;rw[ni] at b0 hc dR;have HC:=zH hc;go_wp2_with fail;go_quiet ((go_at_call 148;first | exact zO (HC.out _) | exact Nl (HC.out _)));go_wp2_with fail
   go_roundw
   case rel=>exact⟨k+1,n+nq,by omega,by go_num,hR,by rw[Ap,hw.out,vC]⟩
   simp[Ao];omega
 have hR:Ap (r=As):=HT.out As ⟨fun h=>absurd (by subst h;rfl) he,fun h=>by cases h⟩;have hz:zh xs[k] ys[k]≠0:=fun h=>he (xS h)
 obtain⟨z,Rh⟩:=Kh (zh xs[k] ys[k]);rw[Rh] at hz hc;obtain⟨la,rJ⟩:=Kh (xs[k].length);obtain⟨lb,ni⟩:=Kh (ys[k].length);rw[rJ] at a0 hc dd;rw[ni] at b0 hc dR;have HC:=zH hc;have e0:(z != 0)=Ar:=by simpa using hz
 go_wp2_with fail;go_quiet ((go_at_call 148;first | exact zO (HC.out _) | exact Nl (HC.out _)));go_wp2_with fail;go_ret;exact⟨zg hR.out.symm,n+nq,by rw[hw.out,vC]⟩
end
section
open Go.RowKit
theorem Yd(t:Tk)(A:Bb)(kc:Nat)(hf:FewT t)(w:Ba)(hA:CAt w w.heap.size A t.cases) :
  An Al 120 #[Ai #[O U t.n,O U t.ins,O U t.outs,I A t.cases.length kc]] w fun e w'=>e=Ak (O U (yz t))/\Am w.heap.size w w':=by
 have mG:=zH (fun (i:Nat) (hi:i<t.cases.length) (w':Ba) (h:CAt w' w'.heap.size A t.cases)=>rone_any t A kc hf i hi w' h);obtain⟨dA,eG⟩:=hf;have HA:=zH hA;have aA:=zH (@vQ t);have al:=zH (@uK t);have az:=zH (@vR t);obtain⟨E,hE⟩:=Kh (yz t);rw[hE] at aA al az ⊢
 by_cases hr:t.n<1\/5<t.n\/t.ins<1\/8<t.ins\/t.outs<1\/8<t.outs
 . have HR:=zH (aA.out hr)
   obtain⟨cv,lL⟩:=Kh (I A t.cases.length kc);rw[lL];have HN:=zH hr;obtain⟨n,ins,outs,cases⟩:=t;dsimp only at HN ⊢;clear aA al az lL hA eG HA hE hr mG dA;go_enter func120,ntmps120;go_wp2_with fail
   all_goals first | (exfalso;have:=HN.out;omega) | (go_ret;exact⟨zc HR.out.symm,zw w _⟩)
 have r1:¬t.n<1:=by omega
 have r2:¬5<t.n:=by omega
 have r3:¬t.ins<1:=by omega
 have r4:¬8<t.ins:=by omega
 have r5:¬t.outs<1:=by omega
 have r6:¬8<t.outs:=by omega
 have al:=zH (al.out hr);have cq:=zH (az.out hr);clear hr aA hE hA eG az
 by_cases hz:t.cases.length<1
 . have HR:=zH (al.out hz)
   obtain⟨n,ins,outs,cases⟩:=t;dsimp only at dA r1 r2 r3 r4 r5 r6 hz ⊢;clear al cq HA mG;go_enter func120,ntmps120;go_wp2_with fail
   all_goals first | (exfalso;omega) | skip
   go_ret;exact⟨zc HR.out.symm,zw w _⟩
 have bQ:¬((t.cases.length:Int)<1):=by omega
 have az:=zH (cq.out (by omega) (by omega));clear al hz cq;have aF:=zH (fun k h=>@uo t t.cases k h);have aB:=zH (fun k h=>@wU t t.cases k h);have FY:=zH (@un t t.cases);obtain⟨cg,L'⟩:∃cg:Nat->Int,(fun k=>yN t t.cases k)=cg:=⟨_,rfl⟩;have BT:∀k,yN t t.cases k=cg k:=fun k=>congrFun L' k
 obtain⟨cE,Mc⟩:∃cE:(k:Nat)->k<t.cases.length->Int,(fun k h=>xB t (zm t.cases k) t.cases[k])=cE:=⟨_,rfl⟩;have BY:∀k h,xB t (zm t.cases k) t.cases[k]=cE k h:=fun k h=>congrFun (congrFun Mc k) h
 simp only[BT,BY] at aF aB FY az mG;clear L' BT Mc BY;obtain⟨n,ins,outs,cs⟩:=t;dsimp only at dA r1 r2 r3 r4 r5 r6 bQ HA az mG cE aF aB FY ⊢;go_enter func120,ntmps120;go_wp2_with fail
 all_goals first | (exfalso;omega) | skip
 obtain⟨W0,bg,b0,bk,bh⟩:∃W0,w.alloc (Ag #[O U n,O U ins,O U outs,I A cs.length kc] 24)=W0/\W0.heap[w.heap.size]?=J (Ag #[O U n,O U ins,O U outs,I A cs.length kc] 24 (0,0))/\w.heap.size+1<=W0.heap.size/\Am w.heap.size w W0:=
  ⟨_,rfl,ze _ _,by simp,zw w _⟩
 rw[bg];have dQ:=zH bh;have lD:=zH b0;clear bg bh b0
 go_loopw [3] (fun i wr=>∃k:Nat,k<=cs.length/\i=O U (k:Int)/\Ap (E=cg k)/\Am W0.heap.size W0 wr) (fun i _=>cs.length-(Ao i).toNat)
 case atStart=>exact⟨0,by omega,rfl,az,Ln _ _⟩
 obtain⟨k,hk,rfl,ag,aD⟩:=hrel;have dc:=zH (Lc dQ.out aD);have HW:=zH aD;have d0:=Lb aD (by omega) lD.out;obtain⟨q0,q1,q2,q3,_⟩:=Kb d0
 by_cases aa:k<cs.length
 . have HC:=zH (fun (w':Ba) (h:CAt w' w'.heap.size A cs)=>mG.out k aa w' h)
   have aF:=zH (aF.out k aa);have aB:=zH (aB.out k aa);obtain⟨ev,cm⟩:=Kh (cE k aa);rw[cm] at HC aF aB;have WD:=zH ((HA.out.keep dc.out).more dc.out.size);go_wp2_with fail;refine(HC.out _ WD.out).mono ?_;rintro e w1 ⟨rfl,aH⟩;have dt:=zH (Lc dc.out aH);have mS:=zH (Lc HW.out aH);clear aH HC
   by_cases he:ev=0
   . subst he
     have hR:=zH (ag.out.trans (aB.out (by simp)));clear ag aF aB;go_wp2_with fail
     go_roundw
     case rel=>exact⟨k+1,by omega,by go_num,hR,mS.out⟩
     simp[Ao];omega
   have hR:=zH (ag.out.trans (aF.out he));have e0:(ev != 0)=Ar:=by simpa using he
   clear ag aF aB he;go_wp2_with fail;go_ret;exact⟨zc hR.out.symm,dt.out⟩
 obtain rfl:k=cs.length:=by omega
 have HR:=zH (ag.out.trans FY.out);clear ag;go_wp2_with fail;go_ret;exact⟨zc HR.out.symm,dc.out⟩
def kC(t:Tk):Bool:=decide (t.cases.length<=30)&&t.cases.all fun c=>decide (c.inp.length<=10)&&kB c.out 30&&kB c.calm 30
theorem fewl_iff{l:List (List Int)}:kB l 30=Ar↔FewL l:=by
 unfold kB FewL;simp
theorem YU{t:Tk}:kC t=Ar↔FewT t:=by
 unfold kC FewT FewC;simp only[Bool.and_eq_true,decide_eq_true_eq,List.all_eq_true,fewl_iff,and_assoc]
end
section
open Go.RowKit
attribute [local go_sem] Oper.semAt_some
def okC(c:Cs):Bool:=decide (c.inp.length<=10)&&kB c.out 30&&kB c.calm 30
theorem fewTB_eq(t:Tk):kC t=(decide (t.cases.length<=30)&&t.cases.all okC):=rfl
def LowC(c:Cs):Prop:=c.inp.length<=17592186044416/\c.out.length<=17592186044416/\c.calm.length<=17592186044416/\(∀v∈c.out,v.length<=17592186044416)/\∀v∈c.calm,v.length<=17592186044416
theorem JE(t:Tk)(A:Bb)(kc:Nat)(hl:t.cases.length<=17592186044416)(bq:∀c∈t.cases,LowC c)(w:Ba)(hA:CAt w w.heap.size A t.cases) :
  An Al 91 #[Ai #[O U t.n,O U t.ins,O U t.outs,I A t.cases.length kc]] w fun e w'=>e=Ak (Ah (kC t))/\Am w.heap.size w w':=by
 have iF:=zH bq;have H:Ap (kC t=(decide (t.cases.length<=30)&&t.cases.all okC)):=fewTB_eq t;obtain⟨r,hr⟩:=Kh (kC t);rw[hr] at H ⊢;obtain⟨w1,af⟩:=Kh (w.alloc (Ag #[O U t.n,O U t.ins,O U t.outs,I A t.cases.length kc] 24));have aL:=ze w (Ag #[O U t.n,O U t.ins,O U t.outs,I A t.cases.length kc] 24);have an:Am w.heap.size w w1:=by rw[<-af];exact zw w _
 have cj:w1.heap.size=w.heap.size+1:=by rw[<-af];simp
 rw[af] at aL;have bL:=zH aL;have aV:=zH an;have HA:=zH ((hA.keep an).more (by omega:w.heap.size<=w1.heap.size));have au:=zH af;have q3:=za aL 3 rfl;clear hA af an aL bq hr;go_enter func91,ntmps91
 by_cases hc:t.cases.length<=30
 case neg=>
  have hR:Ap (r=As):=H.out.trans (by rw[Lr hc,NG]);clear H;go_wp2_with fail;rw[au.out];go_wp2_with fail
  all_goals first | (exfalso;omega) | skip
  go_ret;exact⟨zg hR.out.symm,aV.out⟩
 case pos=>
 have HR:Ap (r=(t.cases.drop 0).all okC):=H.out.trans (by rw[Lo hc,Nt,L8]);clear H;go_wp2_with fail;rw[au.out];go_wp2_with fail
 all_goals first | (exfalso;omega) | skip
 clear q3 au
 go_loopw [3] (fun i wr=>∃k:Nat,k<=t.cases.length/\i=O U (k:Int)/\Ap (r=(t.cases.drop k).all okC)/\Ap (Am w1.heap.size w1 wr)) (fun i _=>t.cases.length-(Ao i).toNat)
 case atStart=>exact⟨0,by omega,rfl,HR,Ln _ _⟩
 clear HR;obtain⟨k,hk,rfl,hp,hb⟩:=hrel;have aQ:=La hb.out bL.out;have q3:=za aQ 3 rfl;clear aQ
 by_cases aa:k<t.cases.length
 case neg=>
  have hR:Ap (r=Ar):=hp.out.trans (Jh (by omega));obtain rfl:k=t.cases.length:=by omega
  clear hp;go_wp2_with fail;go_ret;exact⟨zg hR.out.symm,aV.out.trans (hb.out.mono (by omega))⟩
 case pos=>
 obtain⟨b,o,A0,c0,A1,c1,A2,c2,e',dC,d0,d1,d2,I0,I1,I2⟩:=(HA.out.keep hb.out).row k aa;subst e';have dx:=Xd (p:=okC) aa;obtain⟨l0,l1,l2,l3,l4⟩:=iF.out _ (Le aa);have aI:=hb.out.size;have dA:=fun (W:Ba) (hW:Am wr.heap.size wr W)=>YT A1 c1 t.cases[k].out l1 l3 W (((I1.more aI).keep hW).more hW.size)
 have eG:=fun (W:Ba) (hW:Am wr.heap.size wr W)=>YT A2 c2 t.cases[k].calm l2 l4 W (((I2.more aI).keep hW).more hW.size)
 unfold okC at dx;obtain⟨c,tF⟩:=Kh (t.cases[k]);rw[tF] at d0 d1 d2 l0 l1 l2 dx dA eG;obtain⟨b1,aH⟩:=Kh (kB c.out 30);obtain⟨b2,ae⟩:=Kh (kB c.calm 30);rw[aH] at dx dA;rw[ae] at dx eG;obtain⟨wc,lG⟩:=Kh (wr.alloc (Ag #[I A0 c.inp.length c0,I A1 c.out.length c1,I A2 c.calm.length c2] 118));have tG:=ze wr (Ag #[I A0 c.inp.length c0,I A1 c.out.length c1,I A2 c.calm.length c2] 118);have iL:Am wr.heap.size wr wc:=by rw[<-lG];exact zw wr _
 rw[lG] at tG;obtain⟨p0,p1,p2,_⟩:=Kc tG;have nG:=zH (dA wc iL);have dP:=zH (eG wc iL);have aT:=zH (hb.out.trans (iL.mono aI));have CK:=zH lG;have dr:=zH (hp.out.trans dx);obtain⟨il,BI⟩:=Kh c.inp.length;rw[BI] at d0 l0 dr CK p0;clear hp dx dA eG lG iL tG aH ae tF BI I0 I1 I2
 by_cases hi:il<=10
 case neg=>
  have hR:Ap (r=As):=dr.out.trans (by rw[Lr hi];rfl);clear dr nG dP;go_wp2_with fail;rw[CK.out];go_wp2_with fail
  all_goals first | (exfalso;omega) | skip
  go_ret;exact⟨zg hR.out.symm,aV.out.trans (aT.out.mono (by omega))⟩
 case pos=>
 have d':Ap (r=((b1&&b2)&&(t.cases.drop (k+1)).all okC)):=dr.out.trans (by rw[Lo hi,Nt];rfl);clear dr;go_wp2_with fail;rw[CK.out];go_wp2_with fail
 all_goals first | (exfalso;omega) | skip
 refine nG.out.mono ?_;rintro e w2 ⟨rfl,rfl⟩
 cases b1 with
 | false=>
  have hR:Ap (r=As):=d'.out;go_wp2_with fail;go_ret;exact⟨zg hR.out.symm,aV.out.trans (aT.out.mono (by omega))⟩
 | true=>
 go_wp2_with fail;refine dP.out.mono ?_;rintro e w2 ⟨rfl,ch⟩;obtain rfl:=ch.symm
 cases b2 with
 | false=>
  have hR:Ap (r=As):=d'.out;go_wp2_with fail;go_ret;exact⟨zg hR.out.symm,aV.out.trans (aT.out.mono (by omega))⟩
 | true=>
  have hR:Ap (r=(t.cases.drop (k+1)).all okC):=d'.out;go_wp2_with fail
  go_roundw
  case rel=>exact⟨k+1,by omega,by go_num,hR,aT⟩
  case measure=>simp[Ao];omega
def LowT(t:Tk):Prop:=t.cases.length<=17592186044416/\∀c∈t.cases,LowC c
theorem tk_eq{a b:Tk}(h1:a.n=b.n)(h2:a.ins=b.ins)(h3:a.outs=b.outs)(h4:a.cases=b.cases):a=b:=by cases a;cases b;simp_all
theorem cs_eq{a b:Cs}(h1:a.inp=b.inp)(h2:a.out=b.out)(h3:a.calm=b.calm):a=b:=by cases a;cases b;simp_all
def TwoCs(w0:Ba)(c1 c2:Array Aq)(s t:Aq)(wx:Ba):Prop:=
 ∃g h:Nat,s=Aj (J ⟨g,0,Z⟩)/\t=Aj (J ⟨h,0,Z⟩)/\wx.heap[g]?=J (Ag c1 118 (0,0))/\wx.heap[h]?=J (Ag c2 118 (0,0))/\Am w0.heap.size w0 wx
theorem Xw(a b:Tk)(ha:LowT a)(hb:LowT b)(A B:Bb)(ca cb:Nat)(w:Ba)(hA:CAt w w.heap.size A a.cases)(hB:CAt w w.heap.size B b.cases) :
  An Al 127 #[Ai #[O U a.n,O U a.ins,O U a.outs,I A a.cases.length ca],Ai #[O U b.n,O U b.ins,O U b.outs,I B b.cases.length cb]] w fun e w'=>e=Ak (Ah (decide (a=b)))/\Am w.heap.size w w':=by
 obtain⟨dp,eJ⟩:=ha;obtain⟨aH,ae⟩:=hb;have sK:=zH eJ;have oR:=zH ae;obtain⟨w1,af,d0,d1,aW,bE⟩:=yx w #[O U a.n,O U a.ins,O U a.outs,I A a.cases.length ca] #[O U b.n,O U b.ins,O U b.outs,I B b.cases.length cb] 24 24;have HA:=zH ((hA.keep bE).more bE.size);have HB:=zH ((hB.keep bE).more bE.size);have aT:=zH bE;have aX:=zH d0;have bH:=zH d1;have au:=zH af;obtain⟨p0,p1,p2,p3,_⟩:=Kb d0;obtain⟨q0,q1,q2,q3,_⟩:=Kb d1;clear af d0 d1 bE hA hB eJ ae;have HT:Ap (a≠b->decide (a=b)=As):=fun h=>Lr h
 have HU:Ap (a=b->decide (a=b)=Ar):=fun h=>Lo h
 obtain⟨r,hr⟩:∃r,decide (a=b)=r:=⟨_,rfl⟩;rw[hr] at HT HU ⊢;clear hr;go_enter func127,ntmps127
 by_cases h1:a.n=b.n/\a.ins=b.ins/\a.outs=b.outs/\a.cases.length=b.cases.length
 case neg=>
  have hR:=zH (HT.out (fun h=>h1 (by rw[h];exact⟨rfl,rfl,rfl,rfl⟩)));clear HT HU
  by_cases k1:a.n=b.n
  case neg=>
   have e0:(a.n != b.n)=Ar:=by simpa using k1
   clear h1;go_wp2_with fail;rw[au.out];go_wp2_with fail
   all_goals
    go_ret;exact⟨zg hR.out.symm,aT.out⟩
  case pos=>
  have e0:(a.n != b.n)=As:=by simpa using k1
  by_cases k2:a.ins=b.ins
  case neg=>
   have e1:(a.ins != b.ins)=Ar:=by simpa using k2
   clear h1 k1;go_wp2_with fail;rw[au.out];go_wp2_with fail
   all_goals
    go_ret;exact⟨zg hR.out.symm,aT.out⟩
  case pos=>
  have e1:(a.ins != b.ins)=As:=by simpa using k2
  by_cases k3:a.outs=b.outs
  case neg=>
   have e2:(a.outs != b.outs)=Ar:=by simpa using k3
   clear h1 k1 k2;go_wp2_with fail;rw[au.out];go_wp2_with fail
   all_goals
    go_ret;exact⟨zg hR.out.symm,aT.out⟩
  case pos=>
  have e2:(a.outs != b.outs)=As:=by simpa using k3
  have k4:a.cases.length≠b.cases.length:=fun h=>h1 ⟨k1,k2,k3,h⟩
  have e3:((a.cases.length:Int) != (b.cases.length:Int))=Ar:=by simp;omega
  clear h1 k1 k2 k3;go_wp2_with fail;rw[au.out];go_wp2_with fail
  all_goals
   go_ret;exact⟨zg hR.out.symm,aT.out⟩
 case pos=>
 obtain⟨k1,k2,k3,k4⟩:=h1;have H3:Ap (a.cases=b.cases->r=Ar):=fun h=>HU.out (tk_eq k1 k2 k3 h)
 have H4:Ap (a.cases≠b.cases->r=As):=fun h=>HT.out (fun e=>h (congrArg Tk.cases e))
 have HL:=zH k4;rw[k1] at p0 au aX ⊢;rw[k2] at p1 au aX ⊢;rw[k3] at p2 au aX ⊢;rw[<-k4] at q3 aH au bH ⊢;clear k1 k2 k3 k4 HT HU;go_wp2_with fail;rw[au.out];go_wp2_with fail;clear p0 p1 p2 p3 q0 q1 q2 q3 au
 go_loopw [5] (fun i wr=>∃k:Nat,k<=a.cases.length/\i=O U (k:Int)/\Ap (a.cases.take k=b.cases.take k)/\Ap (Am w1.heap.size w1 wr)) (fun i _=>a.cases.length-(Ao i).toNat)
 case atStart=>exact⟨0,by omega,rfl,by rw[Ap,LQ,LQ],Ln _ _⟩
 obtain⟨k,hk,rfl,hp,aD⟩:=hrel;have p3:=za (La aD.out aX.out) 3 rfl;have q3:=za (La aD.out bH.out) 3 rfl;have Ic:=HL.out
 by_cases aa:k<a.cases.length
 case neg=>
  obtain rfl:k=a.cases.length:=by omega
  have hR:=zH (H3.out (xQ HL.out hp.out));clear H3 H4 hp;go_wp2_with fail;go_ret;exact⟨zg hR.out.symm,Lc aT.out aD.out⟩
 case pos=>
 have dm:k<b.cases.length:=by omega
 clear Ic;obtain⟨ba,oa,A0,m0,A1,m1,A2,m2,ea,Gf,a0,a1,a2,G',CI,CH⟩:=(HA.out.keep aD.out).row k aa;obtain⟨bb,ob,B0,n0,B1,n1,B2,n2,eb,aL,b0,b1,b2,G6,CG,CF⟩:=(HB.out.keep aD.out).row k dm;subst ea;subst eb;have dd:=zH (sK.out _ (Le aa));have dR:=zH (oR.out _ (Le dm));have h0:Ap (a.cases[k]=b.cases[k]->a.cases.take (k+1)=b.cases.take (k+1)):=fun he=>xp hp.out aa dm he
 have hN:Ap (a.cases[k]≠b.cases[k]->r=As):=fun he=>H4.out (fun h=>he (by simp only[h]))
 obtain⟨X,hX⟩:=Kh (a.cases[k]);obtain⟨Y,hY⟩:=Kh (b.cases[k]);rw[hX] at a0 a1 a2 G' CI CH dd h0 hN;rw[hY] at b0 b1 b2 G6 CG CF dR h0 hN;clear hX hY hp;have ii:=aD.out.size;have HI:=zH (fun (W:Ba) (hW:Am wr.heap.size wr W)=>(⟨((G'.more ii).keep hW).more hW.size,((CI.more ii).keep hW).more hW.size,((CH.more ii).keep hW).more hW.size⟩:IAt W W.heap.size A0 X.inp/\LAt W W.heap.size A1 X.out/\LAt W W.heap.size A2 X.calm));have HJ:=zH (fun (W:Ba) (hW:Am wr.heap.size wr W)=>(⟨((G6.more ii).keep hW).more hW.size,((CG.more ii).keep hW).more hW.size,((CF.more ii).keep hW).more hW.size⟩:IAt W W.heap.size B0 Y.inp/\LAt W W.heap.size B1 Y.out/\LAt W W.heap.size B2 Y.calm));clear G' CI CH G6 CG CF;have nj:w.heap.size<wr.heap.size:=by have:=zd aX.out;omega
 have oq:w.heap.size+1<wr.heap.size:=by have:=zd bH.out;omega
 have si:ba<wr.heap.size:=by omega
 have sh:bb<wr.heap.size:=by omega
 have ia:Ap (∀W,Am wr.heap.size wr W->W.cell? ⟨w.heap.size,3,Z⟩=J (I (J ⟨ba,oa,Z⟩) a.cases.length ca)/\W.cell? ⟨w.heap.size+1,3,Z⟩=J (I (J ⟨bb,ob,Z⟩) a.cases.length cb) /\
   W.cell? ⟨ba,oa+k*3,Z⟩=J (I A0 X.inp.length m0)/\W.cell? ⟨ba,oa+k*3+1,Z⟩=J (I A1 X.out.length m1)/\W.cell? ⟨ba,oa+k*3+2,Z⟩=J (I A2 X.calm.length m2) /\
   W.cell? ⟨bb,ob+k*3,Z⟩=J (I B0 Y.inp.length n0)/\W.cell? ⟨bb,ob+k*3+1,Z⟩=J (I B1 Y.out.length n1)/\W.cell? ⟨bb,ob+k*3+2,Z⟩=J (I B2 Y.calm.length n2)):=fun W hW=>
  ⟨(hW.cell (p:=⟨_,_,Z⟩) nj).trans p3,(hW.cell (p:=⟨_,_,Z⟩) oq).trans q3,(hW.cell (p:=⟨_,_,Z⟩) si).trans a0,(hW.cell (p:=⟨_,_,Z⟩) si).trans a1,(hW.cell (p:=⟨_,_,Z⟩) si).trans a2,
   (hW.cell (p:=⟨_,_,Z⟩) sh).trans b0,(hW.cell (p:=⟨_,_,Z⟩) sh).trans b1,(hW.cell (p:=⟨_,_,Z⟩) sh).trans b2⟩
 have cW:(0:Int)<=(k:Int):=by omega
 have cp:(k:Int)<(a.cases.length:Int):=by omega
 go_wp2_with fail
 go_cut [6,7] (fun s6 s7 wx=>TwoCs wr #[I A0 X.inp.length m0,I A1 X.out.length m1,I A2 X.calm.length m2] #[I B0 Y.inp.length n0,I B1 Y.out.length n1,I B2 Y.calm.length n2] s6 s7 wx)
 case first=>
  go_region_held3 (fun W=>W.cell? ⟨w.heap.size,3,Z⟩=J (I (J ⟨ba,oa,Z⟩) a.cases.length ca)/\W.cell? ⟨w.heap.size+1,3,Z⟩=J (I (J ⟨bb,ob,Z⟩) a.cases.length cb) /\
   W.cell? ⟨ba,oa+k*3,Z⟩=J (I A0 X.inp.length m0)/\W.cell? ⟨ba,oa+k*3+1,Z⟩=J (I A1 X.out.length m1)/\W.cell? ⟨ba,oa+k*3+2,Z⟩=J (I A2 X.calm.length m2) /\
   W.cell? ⟨bb,ob+k*3,Z⟩=J (I B0 Y.inp.length n0)/\W.cell? ⟨bb,ob+k*3+1,Z⟩=J (I B1 Y.out.length n1)/\W.cell? ⟨bb,ob+k*3+2,Z⟩=J (I B2 Y.calm.length n2))
   (first | exact⟨p3,q3,a0,a1,a2,b0,b1,b2⟩ | exact ia.out _ (by first | exact(zw wr _).drew | exact zw wr _ | exact(xk wr _ _).drew | exact xk wr _ _))
   (fail)
  all_goals
   go_wp2_with fail
   go_meet
  . exact⟨_,_,rfl,rfl,zC (ze wr _) _,(by have:=ze (wr.alloc (Ag #[I A0 X.inp.length m0,I A1 X.out.length m1,I A2 X.calm.length m2] 118)) (Ag #[I B0 Y.inp.length n0,I B1 Y.out.length n1,I B2 Y.calm.length n2] 118);rwa[LS] at this),by first | exact xk wr _ _ | exact(xk wr _ _).drew⟩
  exact⟨_,_,rfl,rfl,(by have:=ze (wr.alloc (Ag #[I B0 Y.inp.length n0,I B1 Y.out.length n1,I B2 Y.calm.length n2] 118)) (Ag #[I A0 X.inp.length m0,I A1 X.out.length m1,I A2 X.calm.length m2] 118);rwa[LS] at this),zC (ze wr _) _,by first | exact xk wr _ _ | exact(xk wr _ _).drew⟩
 obtain⟨g,h,rfl,rfl,G,H,aI⟩:=hcut;obtain⟨g0,g1,g2,_⟩:=Kc G;obtain⟨j0,j1,j2,_⟩:=Kc H;have ez:=zH (aD.out.trans (aI.mono ii));have HO:=zH (yR A0 B0 m0 n0 X.inp Y.inp dd.out.1 dR.out.1 wc (HI.out wc aI).1 (HJ.out wc aI).1);have Vv:=zH (fun m=>jb A1 B1 m1 n1 X.out Y.out dd.out.2.1 dR.out.2.1 dd.out.2.2.2.1 dR.out.2.2.2.1 (wc.drewN m) (HI.out wc aI).2.1 (HJ.out wc aI).2.1);have Hh:=zH (fun m=>jb A2 B2 m2 n2 X.calm Y.calm dd.out.2.2.1 dR.out.2.2.1 dd.out.2.2.2.2 dR.out.2.2.2.2 (wc.drewN m) (HI.out wc aI).2.2 (HJ.out wc aI).2.2);have Uh:X.inp≠Y.inp->Ap (r=As):=fun h=>hN.out (fun e=>h (by rw[e]))
 have Ug:X.out≠Y.out->Ap (r=As):=fun h=>hN.out (fun e=>h (by rw[e]))
 have Uf:X.calm≠Y.calm->Ap (r=As):=fun h=>hN.out (fun e=>h (by rw[e]))
 have Ue:X.inp=Y.inp->X.out=Y.out->X.calm=Y.calm->Ap (a.cases.take (k+1)=b.cases.take (k+1)):=fun p q s=>h0.out (cs_eq p q s)
 have aA:=zH Uh;have al:=zH Ug;have az:=zH Uf;have cq:=zH Ue;have HZ:=zH (@xS X.inp Y.inp);have HS:=zH (fun e:X.inp=Y.inp=>show zh X.inp Y.inp=0 by rw[e];exact yF _);obtain⟨o,ho⟩:=Kh (zh X.inp Y.inp);rw[ho] at HO HZ HS;go_wp2_with fail;refine HO.out.mono ?_;rintro e w2 ⟨rfl,z,rfl⟩
 by_cases t1:X.inp=Y.inp
 case neg=>
  have hR:=zH (aA.out t1).out;have e0:(o != 0)=Ar:=by simpa using fun h=>t1 (HZ.out h)
  go_wp2_with fail
  all_goals
   go_ret;exact⟨zg hR.out.symm,zF (Lc aT.out ez.out) _⟩
 case pos=>
 have e0:(o != 0)=As:=by simpa using HS.out t1
 have ey:=zH (cq.out t1);go_wp2_with fail;refine(Vv.out z).mono ?_;rintro e w2 ⟨rfl,z2,rfl⟩
 by_cases t2:X.out=Y.out
 case neg=>
  have hR:=zH (al.out t2).out;rw[Lr t2];clear al az ey Hh t2;go_wp2_with fail
  all_goals
   go_ret;exact⟨zg hR.out.symm,by repeat (first | exact Lc aT.out ez.out | refine zF ?_ _)⟩
 case pos=>
 have Iq:=zH (ey.out t2);rw[Lo t2];clear al ey t2;go_wp2_with fail;refine(Hh.out (z+z2)).mono ?_;rintro e w2 ⟨rfl,z3,rfl⟩;clear Hh
 by_cases t3:X.calm=Y.calm
 case neg=>
  have hR:=zH (az.out t3).out;rw[Lr t3];clear az Iq t3;go_wp2_with fail
  all_goals
   go_ret;exact⟨zg hR.out.symm,by repeat (first | exact Lc aT.out ez.out | refine zF ?_ _)⟩
 have hR:=zH (Iq.out t3).out;rw[Lo t3];clear az Iq t3;go_wp2_with fail
 go_roundw
 case rel=>exact⟨k+1,by omega,by go_num,hR,by repeat (first | exact ez.out | refine zF ?_ _)⟩
 simp[Ao];omega
end
section
open Go.RowKit
def FewA(a:Ad):Prop:=a.sts.length<=8/\a.mvs.length<=40
theorem FewA.each{a:Ad}(h:FewA a){l:List Mv}(hl:l∈a.sts):l.length<=40:=by
 refine LE ?_ h.2;unfold Ad.mvs;obtain⟨i,hi,rfl⟩:=NB.1 hl;exact(List.sublist_flatten_of_mem (Le hi)).length_le
theorem uc{a:Ad}{p:Option Mv}{m:Mv}(h:zJ m.r≠0):yZ a p m=zJ m.r:=Lm h
theorem QX{a:Ad}{p:Option Mv}{m:Mv}(h:zJ m.r=0)(h2:m.r.n≠a.n):yZ a p m=22:=by unfold yZ;rw[Lk (by simpa using h),Lm h2]
theorem ud{a:Ad}{p:Option Mv}{m:Mv}(h:zJ m.r=0)(h2:m.r.n=a.n)(h3:uz p m=Ar):yZ a p m=14:=by unfold yZ;rw[Lk (by simpa using h),Lk (by simpa using h2),Lm h3]
theorem YE{a:Ad}{p:Option Mv}{m:Mv}(h:zJ m.r=0)(h2:m.r.n=a.n)(h3:uz p m=As)(h4:m.to<0\/(a.sts.length:Int)<=m.to):yZ a p m=2:=by unfold yZ;rw[Lk (by simpa using h),Lk (by simpa using h2),Lk (by rw[h3];decide),Lm h4]
theorem YF{a:Ad}{p:Option Mv}{m:Mv}(h:zJ m.r=0)(h2:m.r.n=a.n)(h3:uz p m=As)(h4:¬(m.to<0\/(a.sts.length:Int)<=m.to)):yZ a p m=0:=by unfold yZ;rw[Lk (by simpa using h),Lk (by simpa using h2),Lk (by rw[h3];decide),Lk h4]
theorem vU{a:Ad}{l:List Mv}(h:l.length=0):xg a l=19:=Lm h
theorem uP{a:Ad}{l:List Mv}(h:l.length≠0):xg a l=yW a l 0:=Lk h
theorem Jv(a:Ad)(SV:Bb)(ks:Nat)(_hsl:a.sts.length<=8)(A:Bb)(k0:Nat)(l:List Mv)(hl:l.length<=40)(w:Ba)(hA:MAt w w.heap.size A l) :
  An Al 114 #[Ai #[O U a.n,I SV a.sts.length ks],I A l.length k0] w fun e w'=>e=Ak (O U (xg a l))/\Am w.heap.size w w':=by
 have HA:=zH hA;have aA:=zH (@vU a l);have al:=zH (@uP a l);obtain⟨E,hE⟩:=Kh (xg a l);rw[hE] at aA al ⊢
 by_cases hz:l.length=0
 . have hR:=zH (aA.out hz)
   have e0:((l.length:Int)==0)=Ar:=by simp[hz]
   clear aA al hz;go_enter func114,ntmps114;go_wp2_with fail;go_ret;exact⟨zc hR.out.symm,zw w _⟩
 have HE:=zH (al.out hz);have e0:((l.length:Int)==0)=As:=beq_eq_false_iff_ne.2 (by omega);clear aA al hz;go_enter func114,ntmps114;go_wp2_with fail
 obtain⟨W0,bg,b0,bk,bh⟩:∃W0,w.alloc (Ag #[O U a.n,I SV a.sts.length ks] 27)=W0/\W0.heap[w.heap.size]?=J (Ag #[O U a.n,I SV a.sts.length ks] 27 (0,0))/\w.heap.size+1<=W0.heap.size/\Am w.heap.size w W0:=
  ⟨_,rfl,ze _ _,by simp,zw w _⟩
 rw[bg];have dQ:=zH bh;have lD:=zH b0;clear bg bh b0 e0
 go_loopw [13] (fun i wr=>∃k:Nat,k<=l.length/\i=O U (k:Int)/\Ap (E=yW a l k)/\Am W0.heap.size W0 wr) (fun i _=>l.length-(Ao i).toNat)
 case atStart=>exact⟨0,by omega,rfl,HE,Ln _ _⟩
 obtain⟨k,hk,rfl,ag,aD⟩:=hrel;clear HE;have dc:=zH (Lc dQ.out aD);have HW:=zH aD;clear aD
 by_cases aa:k<l.length
 . obtain⟨b,o,rfl,dC,c0,c1,c2,c3,c4,c5,c6,c7⟩:=(HA.out.keep dc.out).row k aa
   have aF:=zH (@ub a l k aa);have aB:=zH (@wq a l k aa);have hb:=dc.out.size;have Fa:w.heap.size<wr.heap.size:=by have:=HW.out.size;omega
   obtain⟨bo,bU⟩:=Kh (uz (zm l k) l[k]);have bI:=zH bU;have m1:=zH (@uc a (zm l k) l[k]);have m2:=zH (@QX a (zm l k) l[k]);have m3:=zH (@ud a (zm l k) l[k]);have m4:=zH (@YE a (zm l k) l[k]);have m5:=zH (@YF a (zm l k) l[k]);rw[bU] at m3 m4 m5;obtain⟨m,hm⟩:=Kh (l[k]);have HX:=zH hm;obtain⟨mE,Bw⟩:=Kh (yZ a (zm l k) l[k]);rw[Bw] at aF aB m1 m2 m3 m4 m5;rw[hm] at c0 c1 c2 c3 c4 c5 c6 c7 m1 m2 m3 m4 m5;have HR:=zH (fun w'=>km m.r w');obtain⟨rE,Bf⟩:=Kh (zJ m.r);rw[Bf] at m1 m2 m3 m4 m5 HR;unfold Rd.cells at HR;clear bU hm Bw Bf;go_wp2_with fail
   obtain⟨W1,cA,b1,aW,ay⟩:∃W1,wr.alloc (Ag #[O U m.r.n,O U m.r.h0,O U m.r.h1,O U m.r.h2,O U m.r.h3,O U m.r.h4,O U m.r.f,O U m.to] 121)=W1/\W1.heap[wr.heap.size]?=J (Ag #[O U m.r.n,O U m.r.h0,O U m.r.h1,O U m.r.h2,O U m.r.h3,O U m.r.h4,O U m.r.f,O U m.to] 121 (0,0))/\wr.heap.size+1<=W1.heap.size/\Am wr.heap.size wr W1:=
    ⟨_,rfl,ze _ _,by simp,zw wr _⟩
   rw[cA];refine(HR.out W1).mono ?_;rintro e w1 ⟨rfl,aH⟩;have dt:=zH ((dc.out.trans (ay.mono hb)).trans (aH.mono (by have:=ay.size;omega)));have mS:=zH ((Lc HW.out ay).trans (aH.mono (by have:=ay.size;have:=HW.out.size;omega)));have d0:=Lb mS.out (by omega) lD.out;have d1:=Lb aH (by omega) b1;have bH:=zH d1;have aX:=zH d0;obtain⟨q0,q1,_⟩:=Ka d0;obtain⟨p0,p1,p2,p3,p4,p5,p6,p7,_⟩:=Ke d1;have Dz:=zd d1;clear cA b1 ay aH d0 d1 c0 c1 c2 c3 c4 c5 c6 c7 HR
   by_cases hr:rE=0
   case neg=>
    have he:=m1.out hr;have hR:=zH (ag.out.trans ((aF.out (by rw[he];exact hr)).trans he));have e0:(rE != 0)=Ar:=by simpa using hr
    clear aF aB m1 m2 m3 m4 m5 he hr ag bI HX;go_wp2_with fail;go_ret;exact⟨zc hR.out.symm,dt.out⟩
   case pos=>
   subst hr;clear m1
   by_cases hn:m.r.n=a.n
   case neg=>
    have he:=m2.out (by simp) hn;have hR:=zH (ag.out.trans ((aF.out (by rw[he];decide)).trans he));have e0:(m.r.n != a.n)=Ar:=by simpa using hn
    clear aF aB m2 m3 m4 m5 he hn ag bI HX;go_wp2_with fail;go_ret;exact⟨zc hR.out.symm,dt.out⟩
   case pos=>
   have e0:(m.r.n != a.n)=As:=by simpa using hn
   have n3:=zH (m3.out (by simp) hn);have n4:=zH (m4.out (by simp) hn);have n5:=zH (m5.out (by simp) hn);clear m2 hn m3 m4 m5
   cases k with
   | zero=>
    obtain rfl:bo=As:=by rw[<-bI.out];rfl
    have g0:decide ((0:Int)<0)=As:=by decide
    clear bI HX n3;go_wp2_with fail;go_quiet (fail)
    by_cases ht:m.to<0\/(a.sts.length:Int)<=m.to
    . have he:=n4.out (by simp) ht
      have hR:=zH (ag.out.trans ((aF.out (by rw[he];decide)).trans he));clear aF aB n4 n5 he ag
      by_cases nR:m.to<0
      . clear ht
        go_wp2_with fail;go_ret;exact⟨zc hR.out.symm,zF dt.out _⟩
      . have nQ:(a.sts.length:Int)<=m.to:=by omega
        clear ht;go_wp2_with fail
        all_goals first | (exfalso;omega) | skip
        go_ret;exact⟨zc hR.out.symm,zF dt.out _⟩
    . have hR:=zH (ag.out.trans (aB.out (n5.out (by simp) ht)))
      have nR:¬m.to<0:=by omega
      have nQ:¬(a.sts.length:Int)<=m.to:=by omega
      clear aF aB n4 n5 ag ht;go_wp2_with fail
      all_goals first | (exfalso;omega) | skip
      go_roundw
      case rel=>exact⟨0+1,by omega,by go_num,hR,zF mS.out _⟩
      case measure=>simp[Ao];omega
   | succ j=>
    have hj:j<l.length:=by omega
    have bz:uz (zm l (j+1)) l[j+1]=decide (0<=zh l[j].r.l l[j+1].r.l):=by rw[zV l j hj];rfl
    rw[HX.out] at bz;rw[show uz (zm l (j+1)) m=bo by have:=bI.out;rwa[HX.out] at this] at bz;obtain⟨b',o',e',_,u0,u1,u2,u3,u4,u5,u6,u7⟩:=(HA.out.keep dt.out).row j hj
    cases e'
    have hc:=fun w'=>gh l[j].r m.r w'
    obtain⟨mj,Bv⟩:=Kh (l[j]);rw[Bv] at bz hc u0 u1 u2 u3 u4 u5 u6 u7;obtain⟨r,hr⟩:=Kh (zh mj.r.l m.r.l);rw[hr] at bz hc;unfold Rd.cells at hc;have cu:=zH bz;have HC:=zH hc;have g1:((j:Int)+1).toNat=j+1:=by omega
    have g3:IntKind.i64.wrap ((j:Int)+1-1)=(j:Int):=by rw[Lw];omega
    have g5:IntKind.i64.wrap ((j:Int)+1)=(j:Int)+1:=by rw[Lw];omega
    have g6:decide ((0:Int)<(j:Int)+1)=Ar:=Lo (by omega);have g7:IntKind.i64.wrap (j:Int)=(j:Int):=by rw[Lw];omega
    have g8:(0:Int)<=(j:Int):=by omega
    have g9:(j:Int)<(l.length:Int):=by omega
    clear bz hc hr Bv bI HX;go_wp2_with fail
    go_still_tail 11,(by kernel_rfl)
    change wpList _ _ _ _ _ w1.drew;obtain⟨w2,ch⟩:∃w2,w2=w1.drew:=⟨_,rfl⟩;have te:Ap (Am w.heap.size w w2):=by rw[ch];exact dt.out.drew
    have Dm:Ap (Am W0.heap.size W0 w2):=by rw[ch];exact mS.out.drew
    have aA:Ap (w2.heap[wr.heap.size]?=J (Ag #[O U m.r.n,O U m.r.h0,O U m.r.h1,O U m.r.h2,O U m.r.h3,O U m.r.h4,O U m.r.f,O U m.to] 121 (0,0))):=by rw[ch];exact bH.out
    have ie:Ap (w2.heap[w.heap.size]?=J (Ag #[O U a.n,I SV a.sts.length ks] 27 (0,0))):=by rw[ch];exact aX.out
    rw[<-ch];clear aX bH ch q1 p1 p2 p3 p4 p5 p6 p7 u0 u1 u2 u3 u4 u5 u6 u7 g1 g3 g5 g7 g8 g9;go_wp2_with fail;refine(HC.out w2).mono ?_;rintro e w3 ⟨rfl,ak⟩;have i9:=zH (Lc te.out ak);have WL:=zH (Lc Dm.out ak);have d0:=La ak ie.out;have d1:=La ak aA.out;have q1:=za d0 1 rfl;have p7:=za d1 7 rfl
    cases bo with
    | true=>
     have GK:0<=r:=LA cu.out.symm;have he:=n3.out (by simp);have hR:=zH (ag.out.trans ((aF.out (by rw[he];decide)).trans he));go_wp2_with fail
     all_goals first | (exfalso;omega) | skip
     go_ret;exact⟨zc hR.out.symm,i9.out⟩
    | false=>
     have GK:¬0<=r:=NI cu.out.symm
     by_cases ht:m.to<0\/(a.sts.length:Int)<=m.to
     . have he:=n4.out (by simp) ht
       have hR:=zH (ag.out.trans ((aF.out (by rw[he];decide)).trans he))
       by_cases nR:m.to<0
       . clear ht
         go_wp2_with fail
         all_goals first | (exfalso;omega) | skip
         go_ret;exact⟨zc hR.out.symm,i9.out⟩
       . have nQ:(a.sts.length:Int)<=m.to:=by omega
         go_wp2_with fail
         all_goals first | (exfalso;omega) | skip
         go_ret;exact⟨zc hR.out.symm,i9.out⟩
     . have hR:=zH (ag.out.trans (aB.out (n5.out (by simp) ht)))
       have nR:¬m.to<0:=by omega
       have nQ:¬(a.sts.length:Int)<=m.to:=by omega
       go_wp2_with fail
       all_goals first | (exfalso;omega) | skip
       go_roundw
       case rel=>exact⟨j+1+1,by omega,by go_num,hR,WL.out⟩
       case measure=>simp[Ao];omega
 obtain rfl:k=l.length:=by omega
 have hR:=zH (ag.out.trans ua);go_wp2_with fail;go_ret;exact⟨zc hR.out.symm,dc.out⟩
end
section
open Go.RowKit Go.Shelf
structure KeepB(K:Nat->Prop)(W W':Ba):Prop where
 size:W.heap.size<=W'.heap.size
 same:∀k,K k->k<W.heap.size->W'.heap[k]?=W.heap[k]?
theorem KeepB.trans{K:Nat->Prop}{A B C:Ba}(h:KeepB K A B)(k:KeepB K B C):KeepB K A C:=
 ⟨LE h.size k.size,fun i hi hl=>(k.same i hi (LD hl h.size)).trans (h.same i hi hl)⟩
theorem KeepB.drew(K:Nat->Prop)(W:Ba):KeepB K W W.drew:=⟨Lh _,fun _ _ _=>rfl⟩
theorem KeepB.drewN(K:Nat->Prop)(W:Ba)(n:Nat):KeepB K W (W.drewN n):=⟨Lh _,fun _ _ _=>rfl⟩
theorem KeepB.alloc(K:Nat->Prop)(W:Ba)(o:Obj):KeepB K W (W.alloc o):=⟨by simp,fun k _ hk=>NJ W o k hk⟩
theorem KeepB.setCell{K:Nat->Prop}{W:Ba}{a:Addr}(h:¬K a.block)(v:Aq):KeepB K W (W.setCell a v):=
 ⟨by simp[World.setCell],fun k hk _=>Ld W a v k (fun e=>h (e▸hk))⟩
theorem KeepB.of_below{K:Nat->Prop}{W W':Ba}{B:Nat}(h:Am B W W')(hK:∀k,K k->k<B):KeepB K W W':=
 ⟨h.size,fun k hk _=>h.block k (hK k hk)⟩
theorem KeepB.of_grown{K:Nat->Prop}{W W':Ba}{row:Option Nat}(h:W.grownBy W' row)(hK:∀k,row=J k->¬K k):KeepB K W W':=
 ⟨h.size,fun k hk hl=>h.block k hl (fun e=>hK k e.symm hk)⟩
theorem KeepB.mono{K K':Nat->Prop}{W W':Ba}(h:KeepB K W W')(hK:∀k,K' k->K k):KeepB K' W W':=⟨h.size,fun k hk=>h.same k (hK k hk)⟩
theorem KeepB.putObj{K:Nat->Prop}{W:Ba}{l:Nat}(h:¬K l)(o:Obj):KeepB K W (W.putObj l o):=
 ⟨by simp,fun k hk _=>NN (fun e=>h (e▸hk))⟩
def Xf{β:Type}(P:Program)(g:Nat)(lb:Array Aq)(cO:β->Array Aq)(K:Nat->Prop)(xs:List β)(w:Ba):Prop:=
 ∀n,1<=n->SeqStopsK Fence.wide n P g lb (fun x:{ x:β // x∈xs }=>cO x.1) (KeepB K) (fun ys=>ys.map (·.1)=xs) (fun pre=>pre.map (·.1) <+: xs) xs.length w
section
variable {P:Program}
theorem kg{β:Type}{g:Operand}{ps:Array Tmp}{assign body:Code}{Q:Exit->Act->Ba->Prop}{a:Act}{w:Ba}
  {gf:Nat} {lb:Array Aq} (hg:a.eval g=.func (.func gf) #[] lb) (eg:Enters P gf)
  {cO:β->Array Aq} {K:Nat->Prop} {xs:List β} (dy:Xf P gf lb cO K xs w) (hK:∀k,K k->k<w.heap.size) (lh:∀x,(cO x).size=ps.size)
  (Ac:List { x:β // x∈xs }->Ba->Prop) (Ix:Code->List { x:β // x∈xs }->Ba->Prop) (hI:OwnFrom w.heap.size Ac) (Cu:∀c,OwnFrom w.heap.size (Ix c)) (h0:Ac [] w) (a₁:{ x:β // x∈xs }->Act)
  (cY:∀(l:Nat) (x:{ x:β // x∈xs }) (W:Ba) (K:Act->Ba->Prop),K (a₁ x) W ->
   assign.wpIn (Fence.wide.inRound l) 7 P (Exit.then K (fun _ _ _=>False)) { tmps:=(ps.zip (cO x.1)).foldl (fun t (p,v)=>t.setIfInBounds p v) a.tmps,defers:=[] } W)
  (fL:∀(l:Nat) (pre:List { x:β // x∈xs }) (x:{ x:β // x∈xs }) (W:Ba),Ac pre W->pre.length<xs.length->body.wpIn (Fence.wide.inRound l) 7 P (ownPostG w.heap.size (KeepB K) Ac Ix (pre++[x]) W) (a₁ x) W)
  (fK:∀(D:Nat) (ys:List { x:β // x∈xs }) (W:Ba),w.heap.size<=D->ys.map (·.1)=xs->Ac ys W->W.heap[D]?=J (.deferred (J []))->Q .normal { a with defers:={ target:=.collected D,args:=#[] }::a.defers } W)
  (fE:∀(D:Nat) (c:Code) (pre:List { x:β // x∈xs }) (W:Ba),w.heap.size<=D->pre.map (·.1) <+: xs->Ix c pre W->W.heap[D]?=J (.deferred (J []))->c.wp P Q { a with defers:={ target:=.collected D,args:=#[] }::a.defers } W) :
  (Code.rangeFunc g ps assign body).wp P Q a w:=
 (P6 (n:=9)).1 (wpIn_rangeFunc_ownG (F:=Fence.wide) (n:=9) rfl (by omega) hg trivial eg (dy 8 (by omega)) KeepB.trans
  (fun W l o o' hl _ _ _=>KeepB.putObj (fun hk=>by have:=hK l hk;omega) o') (Ln _ _) (fun x=>lh x.1) Ac Ix hI Cu h0 a₁ cY fL fK
  (fun D c pre W hD hS hc hk=>P6.2 (fE D c pre W hD hS hc hk)))
def Marks(B:Nat)(ds:List Deferred)(w:Ba):Prop:=
 ∃rs:List Nat,ds=rs.map (fun r=>{ target:=.collected r,args:=#[] })/\rs.Nodup/\∀r∈rs,B<=r/\w.heap[r]?=J (.deferred (J []))
theorem Marks.nil(B:Nat)(w:Ba):Marks B [] w:=⟨[],rfl,List.nodup_nil,fun _ h=>by cases h⟩
structure Shut(B:Nat)(w w':Ba):Prop where
 below:Am B w w'
 same:∀(k:Nat) (o:Obj),w.heap[k]?=J o->o.isCells=Ar->w'.heap[k]?=J o
theorem Shut.refl(B:Nat)(w:Ba):Shut B w w:=⟨Ln _ _,fun _ _ h _=>h⟩
theorem Shut.own{B:Nat}{w w':Ba}(h:Shut B w w'){base:Nat}{e:TypeId}{size:Nat}{v:Aq}{k:Nat}{xs:List Aq}(hr:w.ownsRow base e size v k xs):w'.ownsRow base e size v k xs:=by
 refine⟨hr.1,?_⟩;rcases hr.2 with hn | ⟨g,cap,cur,hv,hb,hg,rest⟩
 . exact .inl hn
 exact .inr ⟨g,cap,cur,hv,hb,h.same g _ hg rfl,rest⟩
theorem Shut.cell{B:Nat}{w w':Ba}(h:Shut B w w'){a:Addr}{v:Aq}(hc:w.cell? a=J v):w'.cell? a=J v:=by
 obtain⟨o,ho,dM⟩:=Rv hc;rw[LU ((h.same _ _ ho dM).trans ho.symm)];exact hc
theorem jS{fn:Func}{tmps:Array Aq}{R:Ending->Ba->Prop}{B n:Nat}{v:Aq}(aR:∀W,(results fn tmps).run P W=.ok v W) :
  ∀(rs:List Nat) (w:Ba),rs.Nodup->(∀r∈rs,B<=r/\w.heap[r]?=J (.deferred (J [])))->(∀W,Shut B w W->R (Ak v) W) ->
   LeavesInM Fence.wide n P fn tmps R (rs.map (fun r=>{ target:=.collected r,args:=#[] })) .returning w
 | [],w,_,_,hR=>⟨v,aR w,hR w (Shut.refl _ _)⟩
 | r::rs,w,hn,hm,hR=>by
  obtain⟨hr,pz⟩:=Pd.1 hn;obtain⟨hB,hk⟩:=hm r (by simp);refine⟨by simp,.inl ⟨r,_,rfl,run_takeDeferred hk,?_⟩⟩;refine jS aR rs _ pz (fun r' ir=>⟨(hm r' (by simp[ir])).1,?_⟩) (fun W hW=>hR W ?_)
  . rw[NN (by rintro rfl;exact hr ir)]
    exact(hm r' (by simp[ir])).2
  . refine⟨((Ln B w).grown (grownBy_putObj' w r (.deferred Z)) (by have:=(Lf.1 hk).1;omega) (fun k e=>by cases e;exact hB)).trans hW.below,fun k o ho hc=>?_⟩
    refine hW.same k o ?_ hc
    by_cases e:k=r
    . subst e;rw[hk] at ho;cases ho;cases hc
    . exact(NN e).trans ho
theorem yb{f:FuncId}{fn:Func}{c:Code}{args:Array Aq}{w:Ba}{R:Ending->Ba->Prop}
  (hf:P.funcs[f]?=J fn) (hb:fn.body=J c)
  (h:c.wp P (bodyPostM Fence.wide 9 P fn R) { tmps:=args++Array.replicate (fn.ntmps-args.size) undef,defers:=[] } w):An P f args w R:=
 (Re (n:=9)).1 (callsIn_of_wp_marks hf hb trivial (P6.2 h))
theorem yd{fn:Func}{R:Ending->Ba->Prop}{a:Act}{w:Ba}{B:Nat}{v:Aq}(hm:Marks B a.defers w)(aR:∀W,(results fn a.tmps).run P W=.ok v W)
  (hR:∀W,Shut B w W->R (Ak v) W):bodyPostM Fence.wide 9 P fn R .ret a w:=by
 obtain⟨rs,hd,hn,hk⟩:=hm;show LeavesInM Fence.wide 9 P fn a.tmps R a.defers .returning w;rw[hd];exact jS aR rs w hn hk hR
theorem Marks.cons{B D:Nat}{ds:List Deferred}{w w':Ba}(h:Marks B ds w)(hs:∀(k:Nat),w.heap[k]?=J (Obj.deferred (J []))->w'.heap[k]?=J (Obj.deferred (J [])))
  (hB:B<=w.heap.size) (hD:w.heap.size<=D) (hk:w'.heap[D]?=J (.deferred (J []))):Marks B ({ target:=.collected D,args:=#[] }::ds) w':=by
 obtain⟨rs,rfl,hn,hr⟩:=h;refine⟨D::rs,rfl,Pd.2 ⟨fun Uk=>?_,hn⟩,fun r ir=>?_⟩
 . have:=(Lf.1 (hr D Uk).2).1;omega
 rcases LF.1 ir with rfl | ir
 . exact⟨by omega,hk⟩
 exact⟨(hr r ir).1,hs r (hr r ir).2⟩
end
end
section
open Go.RowKit Go.Shelf
attribute [local go_sem] Oper.semAt_some
def zp:Nat->List (List Mv)->List (Int×Mv)
 | _,[]=>[]
 | s,l::r=>l.map (fun m=>((s:Int),m))++zp (s+1) r
theorem ZJ{xss:List (List Mv)}{s:Nat}(h:s<xss.length):zp s (xss.drop s)=(xss[s]).map (fun m=>((s:Int),m))++zp (s+1) (xss.drop (s+1)):=by
 rw[Lx h];rfl
theorem qr:∀(s:Nat) (xss:List (List Mv)),(zp s xss).map Prod.snd=xss.flatten
 | _,[]=>rfl
 | s,l::r=>by
  rw[zp,LN,qr (s+1) r,Rf,P1]
  congr 1
  exact List.map_id' l
theorem YC(a:Ad):(zp 0 a.sts).length=a.mvs.length:=by
 rw[<-LT (f:=Prod.snd),qr];rfl
theorem jz{B:Nat}{w w':Ba}(hs:w.heap.size<=w'.heap.size)(h:∀k,k<B->w'.heap[k]?=w.heap[k]?):Am B w { w' with os:=w.os,tape:=w.tape,output:=w.output }:=⟨rfl,rfl,rfl,hs,h⟩
theorem SAt.same{w w':Ba}{B:Nat}{A:Bb}{xss:List (List Mv)}(h:SAt w B A xss)(hs:w.heap.size<=w'.heap.size)(hk:∀k,k<B->w'.heap[k]?=w.heap[k]?):SAt w' B A xss:=by
 have h2:=h.keep (jz hs hk);exact h2
theorem MAt.same{w w':Ba}{B:Nat}{A:Bb}{xs:List Mv}(h:MAt w B A xs)(hs:w.heap.size<=w'.heap.size)(hk:∀k,k<B->w'.heap[k]?=w.heap[k]?):MAt w' B A xs:=by
 have h2:=h.keep (jz hs hk);exact h2
theorem vp(n:Int)(SV:Aq)(w:Ba):An Al 115 #[Ai #[O U n,SV]] w fun e w'=>
  e=Ak (.func (.func 142) #[] #[Aj (J ⟨w.heap.size,0,Z⟩)])/\w.alloc (Ag #[O U n,SV] 27)=w':=by
 go_enter func115,ntmps115;go_wp2;go_ret;exact⟨rfl,rfl⟩
theorem kp(a:Ad)(hf:FewA a)(SV:Bb)(ks B bx:Nat)(w:Ba)(hb:w.heap[bx]?=J (Ag #[O U a.n,I SV a.sts.length ks] 27))(hS:SAt w B SV a.sts)(hB:B<=w.heap.size) :
  Xf Al 142 #[Aj (J ⟨bx,0,Z⟩)] (fun x:Int×Mv=>#[O U x.1,.agg x.2.cells]) (fun k=>k<B\/k=bx) (zp 0 a.sts) w:=fun n hn l Af Jx W hW hJ Ee hY h0=>by
 have aI:bx<w.heap.size:=(Lf.1 hb).1;have ce:W.heap[bx]?=J (Ag #[O U a.n,I SV a.sts.length ks] 27):=(hW.block bx aI).trans hb;have nt:SAt W B SV a.sts:=hS.keep (hW.mono hB);have HF:=zH (fun l hl=>hf.each (l:=l) hl);have LK:=hf.1;have HY:=zH hY;have If:Ap (∀s X o,Af s X->Af s (X.alloc o)):=fun s X o hs=>hJ s X (X.alloc o) Z hs (World.grownBy_alloc X o Z) (fun r e=>by cases e)
 have c1:=za ce 1 rfl;have i5:=zH nt;have H0:=zH h0;have dQ:=zH ce;have GH:B<=W.heap.size:=LE hB hW.size;have TL:bx<W.heap.size:=LD aI hW.size;obtain⟨n0,sts⟩:=a;dsimp only at dQ c1 i5 HF LK HY ⊢;refine P4 RG rfl trivial ?_ rfl;simp only[ntmps142,List.size_toArray,List.length_cons,List.length_nil,Nat.reduceAdd,Nat.reduceSub,Array.replicate_succ,Array.replicate_zero,List.push_toArray,List.append_toArray,List.nil_append,List.cons_append];gi_wp2
 gi_loopw [10] (fun p wr=>∃s:Nat,s<=sts.length/\p=O U (s:Int)/\∃pre:List { x:Int×Mv // x∈zp 0 sts },Ap (pre.map (·.1)++zp s (sts.drop s)=zp 0 sts)/\Ap (Af pre wr)/\Ap (SAt wr B SV sts)/\Ap (wr.heap[bx]?=J (Ag #[O U n0,I SV sts.length ks] 27))/\W.heap.size<=wr.heap.size) (fun p _=>sts.length-(Ao p).toNat)
 case atStart=>exact⟨0,by omega,rfl,[],by simp[Ap],H0,i5,dQ,Lh _⟩
 case round=>
  obtain⟨s,hs,rfl,pre,hp,dW,iW,dB,bk⟩:=hrel
  by_cases aa:s<sts.length
  . obtain⟨b,o,A',k',rfl,dC,q1,hM⟩:=iW.out.at_ s aa
    have cV:=HF.out _ (Le aa);have DP:=ZJ aa;obtain⟨L,hL⟩:=Kh (sts[s]);rw[hL] at q1 hM cV DP;have HP:Ap (pre.map (·.1)++((L.drop 0).map (fun m=>((s:Int),m))++zp (s+1) (sts.drop (s+1)))=zp 0 sts):=by rw[L8,<-DP];exact hp.out
    have V8:=zH hM;gi_wp2_with fail
    gi_loopw [17] (fun p wr=>∃j:Nat,j<=L.length/\p=O U (j:Int)/\∃pre:List { x:Int×Mv // x∈zp 0 sts },Ap (pre.map (·.1)++((L.drop j).map (fun m=>((s:Int),m))++zp (s+1) (sts.drop (s+1)))=zp 0 sts)/\Ap (Af pre wr)/\Ap (SAt wr B (J ⟨b,o,Z⟩) sts)/\Ap (wr.heap[bx]?=J (Ag #[O U n0,I (J ⟨b,o,Z⟩) sts.length ks] 27))/\Ap (MAt wr B A' L)/\W.heap.size<=wr.heap.size) (fun p _=>L.length-(Ao p).toNat)
    case atStart=>exact⟨0,by omega,rfl,pre,HP,dW,iW,dB,V8,bk⟩
    case round=>
     obtain⟨j,hj,rfl,pre,hp,dW,iW,dB,MC,bk⟩:=hrel
     by_cases bf:j<L.length
     . obtain⟨b2,o2,rfl,ae,m0,m1,m2,m3,m4,m5,m6,m7⟩:=MC.out.row j bf
       have BR:L.drop j=L[j]::L.drop (j+1):=Lx bf;obtain⟨m,hm⟩:=Kh (L[j]);rw[hm] at m0 m1 m2 m3 m4 m5 m6 m7 BR
       have iN:pre.map (·.1)++(((s:Int),m)::((L.drop (j+1)).map (fun m=>((s:Int),m))++zp (s+1) (sts.drop (s+1))))=zp 0 sts:=by
        have:=hp.out;rw[BR,L9,L5] at this;exact this
       have bS:((s:Int),m)∈zp 0 sts:=by rw[<-iN];simp
       have aM:pre.length<(zp 0 sts).length:=by
        have:=congrArg List.length iN;simp only[List.length_append,List.length_map,List.length_cons] at this;omega
       obtain⟨fn,tmps,assign,body,hy,hR⟩:=HY.out pre ⟨((s:Int),m),bS⟩ _ (If.out _ _ (Ag #[O U m.r.n,O U m.r.h0,O U m.r.h1,O U m.r.h2,O U m.r.h3,O U m.r.h4,O U m.r.f,O U m.to] 121) dW.out) aM;unfold Mv.cells at hy;dsimp only at hy
       have re:Ap ((pre++[(⟨((s:Int),m),bS⟩:{ x:Int×Mv // x∈zp 0 sts })]).map (·.1)++((L.drop (j+1)).map (fun m=>((s:Int),m))++zp (s+1) (sts.drop (s+1)))=zp 0 sts):=by
        rw[LN,L1];exact iN
       have HR:=zH hR;gi_wp2_with fail;refine HR.out.mono ?_;rintro e W3 (⟨rfl,oK,eo⟩ | ⟨rfl,fa⟩)
       . have aW:wr.heap.size<=W3.heap.size:=by have:=eo.size;simp at this;omega
         have cp:∀k,(k<B\/k=bx)->k<wr.heap.size->W3.heap[k]?=wr.heap[k]?:=fun k hk aa=>(eo.same k hk (by simp;omega)).trans (zC (Pj aa) _ |>.trans (Pj aa).symm)
         have S3:=zH (iW.out.same aW (fun k hk=>cp k (.inl hk) (by omega)));have M3:=zH (MC.out.same aW (fun k hk=>cp k (.inl hk) (by omega)));have B3:=zH ((cp bx (.inr rfl) (by omega)).trans dB.out);have J3:=zH oK;have io:W.heap.size<=W3.heap.size:=by omega
         gi_wp2_with fail
         go_roundw
         case rel=>exact⟨j+1,by omega,by go_num,_,re,J3,S3,B3,M3,io⟩
         case measure=>simp[Ao];omega
       . gi_wp2_with fail
         refine LP (PE rfl _ _ _) rfl ?_;refine⟨⟨_,rfl⟩,.inr ⟨_,?_,fa⟩⟩;exact⟨_,re.out⟩
     . obtain rfl:j=L.length:=by omega
       have HP:Ap (pre.map (·.1)++zp (s+1) (sts.drop (s+1))=zp 0 sts):=by have:=hp.out;rwa[Nv,NF,L6] at this
       gi_wp2_with fail
       go_roundw
       case rel=>exact⟨s+1,by omega,by go_num,pre,HP,dW,iW,dB,bk⟩
       case measure=>simp[Ao];omega
  . obtain rfl:s=sts.length:=by omega
    have HP:Ap (pre.map (·.1)=zp 0 sts):=by have:=hp.out;rwa[Nv,zp,L7] at this
    gi_wp2_with fail
    go_end0
    exact⟨⟨_,rfl⟩,.inl ⟨pre,HP.out,dW.out⟩⟩
theorem va{w:Ba}{g:Nat}{v:Aq}{t:TypeId}(h:w.heap[g]?=J (Ag #[v] t (0,0)))(v':Aq) :
  (w.setCell ⟨g,0,Z⟩ v').heap[g]?=J (Ag #[v'] t (0,0))/\(w.setCell ⟨g,0,Z⟩ v').heap.size=w.heap.size/\∀k,k≠g->(w.setCell ⟨g,0,Z⟩ v').heap[k]?=w.heap[k]?:=by
 refine⟨?_,by simp[World.setCell],fun k hk=>Ld w ⟨g,0,Z⟩ v' k hk⟩;rw[World.setCell,Pe,Lm rfl,h]
 rfl
theorem qK{B D:Nat}{w:Ba}(hB:B<=D)(hk:w.heap[D]?=J (.deferred (J []))):Marks B [{ target:=.collected D,args:=#[] }] w:=
 ⟨[D],rfl,by simp,fun r hr=>by simp only[List.mem_singleton] at hr;subst hr;exact⟨hB,hk⟩⟩
structure SzIn(B:Nat)(C:Array Aq)(T:TypeId)(pT:Int)(w W:Ba):Prop where
 below:Am B w W
 b0:W.heap[B]?=J (Ag C T (0,0))
 b1:W.heap[B+1]?=J (Ag #[O U pT] 3 (0,0))
theorem SzIn.turn{B:Nat}{C:Array Aq}{T:TypeId}{pT:Int}{w W W':Ba}{row:Option Nat}(h:SzIn B C T pT w W)(hg:W.grownBy W' row)(hr:∀r,row=J r->B<=r/\∃o:Obj,W.heap[r]?=J o/\o.isCells=As):SzIn B C T pT w W':=
 ⟨h.below.grown hg (by have:=(Lf.1 h.b0).1;omega) (fun k hk=>(hr k hk).1),(LI hg (fun r e=>(hr r e).2) h.b0 rfl).trans h.b0,(LI hg (fun r e=>(hr r e).2) h.b1 rfl).trans h.b1⟩
theorem SzIn.set{B:Nat}{C:Array Aq}{T:TypeId}{pT:Int}{w W:Ba}(h:SzIn B C T pT w W)(c':Int):SzIn B C T c' w (W.setCell ⟨B+1,0,Z⟩ (O U c')):=by
 obtain⟨x1,x2,x3⟩:=va h.b1 (O U c');exact⟨h.below.setCell (by simp) _,(x3 B (by omega)).trans h.b0,x1⟩
theorem SzIn.keeps{B D:Nat}{C:Array Aq}{T:TypeId}{pT:Int}{w W:Ba}(h:SzIn B C T pT w W)(c':Int)(K:Nat->Prop)(hK:¬K (B+1)):KeepsFrom D W (W.setCell ⟨B+1,0,Z⟩ (O U c'))/\KeepB K W (W.setCell ⟨B+1,0,Z⟩ (O U c')):=by
 obtain⟨x1,x2,x3⟩:=va h.b1 (O U c');refine⟨⟨by omega,fun k o _ hk ho=>?_⟩,KeepB.setCell hK _⟩;have k1:k≠B+1:=by rintro rfl;rw[h.b1] at hk;cases hk;cases ho
 exact(x3 k k1).trans hk
theorem Jw(a:Ad)(hf:FewA a)(SV:Bb)(ks:Nat)(w:Ba)(hS:SAt w w.heap.size SV a.sts) :
  An Al 113 #[Ai #[O U a.n,I SV a.sts.length ks]] w fun e w'=>e=Ak (O U (if a.sts.length<1 then 5 else 0))/\Am w.heap.size w w':=by
 have dA:=hf.1;have eG:=hf.2;have tt:=YC a;have HI:=zH (fun (bx:Nat) (w':Ba) (hb:w'.heap[bx]?=J (Ag #[O U a.n,I SV a.sts.length ks] 27)) (h:SAt w' w.heap.size SV a.sts) (hB:w.heap.size<=w'.heap.size)=>kp a hf SV ks w.heap.size bx w' hb h hB);have HS:=zH hS;obtain⟨nl,dS⟩:=Kh ((zp 0 a.sts).length);have VX:=zH dS;clear hS;refine yb func113 rfl ?_;simp only[ntmps113,List.size_toArray,List.length_cons,List.length_nil,Nat.reduceAdd,Nat.reduceSub,Array.replicate_succ,Array.replicate_zero,List.push_toArray,List.append_toArray,List.nil_append,List.cons_append];go_wp2_with fail;obtain⟨w2,ch,b0,b1,bk,hB⟩:=yx w #[O U a.n,I SV a.sts.length ks] #[O U 0] 27 3;rw[ch];have cG:w2.heap.size=w.heap.size+2:=by rw[<-ch];simp
 refine(vp a.n (I SV a.sts.length ks) w2).mono ?_;rintro e W ⟨rfl,hW⟩;have bb:=ze w2 (Ag #[O U a.n,I SV a.sts.length ks] 27);have bG:Am w2.heap.size w2 W:=by rw[<-hW];exact zw _ _
 have aW:w2.heap.size<W.heap.size:=by rw[<-hW];simp
 rw[hW] at bb;have GE:SzIn w.heap.size #[O U a.n,I SV a.sts.length ks] 27 0 w W:=⟨hB.trans (bG.mono (by omega)),vG b0 bG (by omega),vG b1 bG (by omega)⟩;have KY:=HI.out w2.heap.size W bb ((HS.out.keep hB).keep (bG.mono (by omega))) (by omega);have H0:=zH GE;have ib:=zH KY;have HZ:=zH cG;have bQ:w.heap.size+2<=w2.heap.size:=bk;clear ch hW bb b0 b1 hB bG GE KY cG bk HI HS dS;go_wp2_with fail
 refine kg rfl (Pg RG (by kernel_rfl) rfl) ib.out (by rintro k (h | rfl)<;>omega) (fun _=>rfl)
  (fun (pre:List { x:Int×Mv // x∈zp 0 a.sts }) W=>SzIn w.heap.size #[O U a.n,I SV a.sts.length ks] 27 ((pre.length:Nat):Int) w W) (fun _ _ _=>False) (fun _ _ _ _ h hg hr=>h.turn hg (fun r e=>⟨by have:=(hr r e).1;omega,(hr r e).2⟩)) (fun _ _ _ _ _ h _ _=>h)
  H0.out ?a1 ?assign ?body ?done ?stop
 case assign=>
  intro l x W K hK;gi_wp2;exact hK
 case body=>
  intro l pre x W hI aa;have fI:pre.length<100:=by have:=VX.out;omega
  have c1:=za hI.b1 0 rfl;have f1:=zb hI.b1 0;have HI:=zH hI;clear hI aa;gi_wp2_with fail;have hK:¬(w.heap.size+1<w.heap.size\/w.heap.size+1=w2.heap.size):=by have:=HZ.out;omega
  refine⟨(HI.out.keeps _ (fun k=>k<w.heap.size\/k=w2.heap.size) hK).1,(HI.out.keeps (D:=0) _ (fun k=>k<w.heap.size\/k=w2.heap.size) hK).2,?_⟩;have:=HI.out.set ((pre.length:Int)+1);dsimp only;rw[show(((pre++[x]).length:Nat):Int)=(pre.length:Int)+1 by simp];exact this
 case done=>
  intro D ys W hD dv hI dD;have aM:ys.length=(zp 0 a.sts).length:=by have:=congrArg List.length dv;rwa[LT] at this
  have fT:ys.length<=40:=by omega
  obtain⟨q0,q1,_⟩:=Ka hI.b0;have c1:=za hI.b1 0 rfl;have HI:=zH hI;have HD:=zH dD
  by_cases hz:a.sts.length<1
  . clear hI dD aM dv
    go_wp2_with fail
    all_goals first | (exfalso;omega) | skip
    refine yd (B:=w.heap.size) (qK (by omega) HD.out) (v:=O U 5) (fun W=>by kernel_rfl) ?_;intro W hS;exact⟨by first | rfl | rw[Lm hz],HI.out.below.trans hS.below⟩
  have bQ:¬((a.sts.length:Int)<1):=by omega
  clear hI dD aM dv;go_wp2_with fail
  all_goals first | (exfalso;omega) | skip
  refine yd (B:=w.heap.size) (qK (by omega) HD.out) (v:=O U 0) (fun W=>by kernel_rfl) ?_;intro W hS;exact⟨by first | rfl | rw[Lk hz],HI.out.below.trans hS.below⟩
 intro D c pre W _ _ h;exact h.elim
theorem jB{a:Ad}(h:a.n<1\/5<a.n):xO a=2:=Lm h
theorem vI{a:Ad}(h:¬(a.n<1\/5<a.n))(h2:a.sts.length<1):xO a=5:=by unfold xO;rw[Lk h,Lm (.inl h2)]
theorem jA{a:Ad}(h:¬(a.n<1\/5<a.n))(h2:1<=a.sts.length)(hf:FewA a)(h3:zk a a.sts≠0):xO a=zk a a.sts:=by
 unfold xO;rw[Lk h,Lk (by have:=hf.1;have:=hf.2;omega),Lm h3]
theorem jC{a:Ad}(h:¬(a.n<1\/5<a.n))(h2:1<=a.sts.length)(hf:FewA a)(h3:zk a a.sts=0):xO a=if yC a=Ar then 0 else 21:=by
 unfold xO;rw[Lk h,Lk (by have:=hf.1;have:=hf.2;omega),Lk (by simpa using h3)]
theorem je{a:Ad}:∀ {p:Option Mv} {l:List Mv},xU a p l=0->∀m∈l,zJ m.r=0/\m.r.n=a.n/\0<=m.to/\m.to<a.sts.length
 | _,[],_,m,hm=>by cases hm
 | p,x::r,h,m,hm=>by
  rw[xU] at h
  split at h
  . rename_i h1;exact absurd h h1
  . rename_i h1
    have h1:yZ a p x=0:=by simpa using h1
    rcases LF.1 hm with rfl | hm
    . unfold yZ at h1
      split at h1
      . rename_i h2;exact absurd h1 h2
      . split at h1
        . cases h1
        . split at h1
          . cases h1
          . split at h1
            . cases h1
            . rename_i h2 h3 h4 h5
              exact⟨by simpa using h2,by simpa using h3,by omega,by omega⟩
    . exact je h m hm
theorem vS{a:Ad}:∀ {xs:List (List Mv)},zk a xs=0->∀l∈xs,l.length≠0/\∀m∈l,zJ m.r=0/\m.r.n=a.n/\0<=m.to/\m.to<a.sts.length
 | [],_,l,hl=>by cases hl
 | x::r,h,l,hl=>by
  rw[zk] at h
  split at h
  . rename_i h1;exact absurd h h1
  . rename_i h1
    have h1:xg a x=0:=by simpa using h1
    rcases LF.1 hl with rfl | hl
    . unfold xg at h1
      split at h1
      . cases h1
      . rename_i h2
        exact⟨h2,fun m hm=>je (p:=zm l 0) (l:=l) (by have:=h1;unfold yW at this;rwa[L8] at this) m hm⟩
    . exact vS h l hl
theorem xI{r:Rd}(h:zJ r=0):1<=r.n/\r.n<=5/\zS r=0/\yt r.n r.f=0:=by
 unfold zJ at h
 split at h
 . rename_i h1;exact absurd h h1
 rename_i h1;have h1:zS r=0:=by simpa using h1
 refine⟨?_,?_,h1,h⟩
 . unfold zS at h1
   split at h1
   . cases h1
   omega
 unfold zS at h1
 split at h1
 . cases h1
 omega
theorem yS{a:Ad}(h:zk a a.sts=0):∀m∈a.mvs,zJ m.r=0/\m.r.n=a.n/\0<=m.to/\m.to<a.sts.length:=fun m hm=>by
 obtain⟨l,hl,tt⟩:=Nu.1 hm;exact(vS h l hl).2 m tt
theorem yX{m:Mv}(h:zJ m.r=0):∃f:Nat,m.r.f=(f:Int)/\f<32:=by
 obtain⟨_,k,_,e,_,_,_,hk⟩:=Y1 (xI h).2.2.2;exact⟨k,e,hk⟩
theorem ut{s x:Nat}(hs:s<32)(hx:x<32):(bits BinOp.andNot U (x:Int) (s:Int)=0)↔(x &&& s=x):=by
 have h1:=qH (p:=fun s=>j5 fun x=>decide ((bits BinOp.andNot U (x:Int) (s:Int)=0)↔(x &&& s=x))) (by decide +kernel) hs;have h2:=qH h1 hx;simpa using h2
theorem ZI{a:Ad}{x:Int×Mv}(h:x∈zp 0 a.sts):x.2∈a.mvs:=by
 have:x.2∈(zp 0 a.sts).map Prod.snd:=LZ.2 ⟨x,h,rfl⟩;rwa[qr] at this
end
section
open Go.RowKit
theorem flat_step{xss:List (List Mv)}{k:Nat}(h:k<xss.length):((xss.take (k+1)).flatten).length=((xss.take k).flatten).length+xss[k].length:=by
 rw[Ls h,List.flatten_append,Lp];simp
theorem flat_le{xss:List (List Mv)}{k:Nat}:((xss.take k).flatten).length<=xss.flatten.length:=by
 conv=>rhs;rw[<-Rk k xss]
 rw[List.flatten_append,Lp];omega
theorem uW(a:Ad)(SV:Bb)(ks:Nat)(hl:a.sts.length<=17592186044416)(hm:a.mvs.length<=4611686018427387904)(bq:∀l∈a.sts,l.length<=17592186044416)(w:Ba)(hS:SAt w w.heap.size SV a.sts) :
  An Al 119 #[Ai #[O U a.n,I SV a.sts.length ks]] w fun e w'=>e=Ak (O U (a.mvs.length:Nat))/\w'=w.alloc (Ag #[O U a.n,I SV a.sts.length ks] 27):=by
 have HS:=zH (hS.keep (zw w (Ag #[O U a.n,I SV a.sts.length ks] 27)));have iF:=zH bq;obtain⟨n0,sts⟩:=a;unfold Ad.mvs at hm ⊢;dsimp only at hl hm iF HS ⊢;go_enter func119,ntmps119;go_wp2_with fail
 go_loop [3,4] (fun v i=>∃k c:Nat,k<=sts.length/\i=O U (k:Int)/\v=O U (c:Int)/\Ap (c=((sts.take k).flatten).length)) (fun _ i=>sts.length-(Ao i).toNat)
 case atStart=>exact⟨0,0,by omega,rfl,rfl,rfl⟩
 obtain⟨k,c,hk,rfl,rfl,hc⟩:=hrel
 by_cases aa:k<sts.length
 . obtain⟨b,o,A',k',rfl,dC,c1,_⟩:=HS.out.at_ k aa
   have cy:=iF.out _ (Le aa);have dx:=flat_step aa;have dJ:=flat_le (xss:=sts) (k:=k+1);obtain⟨ll,bq⟩:=Kh (sts[k].length);rw[bq] at c1 cy dx;have tF:c+ll=((sts.take (k+1)).flatten).length:=by rw[dx,hc.out]
   have hb:c+ll<=4611686018427387904:=by omega
   have HC:=zH tF;go_wp2_with fail
   go_round
   case rel=>exact⟨k+1,c+ll,by omega,by go_num,by go_num,HC.out⟩
   simp[Ao];omega
 obtain rfl:k=sts.length:=by omega
 have tF:c=sts.flatten.length:=by rw[hc.out,LC]
 subst tF;go_wp2_with fail;go_ret;exact⟨rfl,rfl⟩
theorem mvs_le{a:Ad}(h8:a.sts.length<=8)(bq:∀l∈a.sts,l.length<=17592186044416):a.mvs.length<=4611686018427387904:=by
 have h:∀(xs:List (List Mv)),(∀l∈xs,l.length<=17592186044416)->xs.flatten.length<=xs.length*17592186044416:=by
  intro xs
  induction xs with
  | nil=>intro _;simp
  | cons x xs ih=>
   intro hx;have h1:=ih fun l hl=>hx l (PC _ hl)
   have h2:=hx x (PN ..);rw[P1,Lp,Ly,Nat.succ_mul];omega
 have h1:=h a.sts bq;unfold Ad.mvs;omega
theorem JF(a:Ad)(SV:Bb)(ks:Nat)(hl:a.sts.length<=17592186044416)(bq:∀l∈a.sts,l.length<=17592186044416)(w:Ba)(hS:SAt w w.heap.size SV a.sts) :
  An Al 92 #[Ai #[O U a.n,I SV a.sts.length ks]] w fun e w'=>e=Ak (Ah (decide (a.sts.length<=8)&&decide (a.mvs.length<=40)))/\Am w.heap.size w w':=by
 have HC:=zH (fun (hm:a.mvs.length<=4611686018427387904)=>uW a SV ks hl hm bq (w.alloc (Ag #[O U a.n,I SV a.sts.length ks] 27)) ((hS.keep (zw w _)).more (by simp)));have Fz:=zH (fun (h8:a.sts.length<=8)=>mvs_le h8 bq);obtain⟨q,hq⟩:=Kh a.mvs.length;rw[hq] at HC Fz ⊢;obtain⟨sl,lI⟩:=Kh a.sts.length;rw[lI] at HC Fz hl ⊢;go_enter func92,ntmps92
 by_cases h1:sl<=8
 . have hm:=Fz.out h1
   go_wp2_with fail
   all_goals first | (exfalso;omega) | skip
   refine(HC.out hm).mono ?_;rintro e w1 ⟨rfl,rfl⟩;go_wp2_with fail;go_ret;exact⟨zg (by first | (rw[Lo h1,Nt];exact ZX (by omega)) | exact ZX (by omega)),xk w _ _⟩
 go_wp2_with fail
 all_goals first | (exfalso;omega) | skip
 go_ret;exact⟨zg (by first | rfl | rw[Lr h1,NG]),zw w _⟩
theorem YD{a:Ad}(hf:FewA a):(∀l∈a.sts,l.length<=17592186044416)/\a.sts.length<=17592186044416/\a.mvs.length<=4611686018427387904:=
 ⟨fun l hl=>by have:=hf.each hl;omega,by have:=hf.1;omega,by have:=hf.2;omega⟩
theorem JC(a:Ad)(SV:Bb)(ks:Nat)(_hsl:a.sts.length<=8)(A:Bb)(k0:Nat)(l:List Mv)(hl:l.length<=40)(k:Nat)(aa:k<l.length)(w:Ba)(hA:MAt w w.heap.size A l) :
  An Al 144 #[Ai #[O U a.n,I SV a.sts.length ks],I A l.length k0,O U k] w fun e w'=>e=Ak (O U (yZ a (zm l k) l[k]))/\Am w.heap.size w w':=by
 have HA:=zH hA;obtain⟨b,o,rfl,dC,c0,c1,c2,c3,c4,c5,c6,c7⟩:=hA.row k aa;obtain⟨bo,bU⟩:=Kh (uz (zm l k) l[k]);have bI:=zH bU;have m1:=zH (@uc a (zm l k) l[k]);have m2:=zH (@QX a (zm l k) l[k]);have m3:=zH (@ud a (zm l k) l[k]);have m4:=zH (@YE a (zm l k) l[k]);have m5:=zH (@YF a (zm l k) l[k]);rw[bU] at m3 m4 m5;obtain⟨m,hm⟩:=Kh (l[k]);have HX:=zH hm;obtain⟨mE,Bw⟩:=Kh (yZ a (zm l k) l[k]);rw[Bw] at m1 m2 m3 m4 m5 ⊢;rw[hm] at c0 c1 c2 c3 c4 c5 c6 c7 m1 m2 m3 m4 m5;have HR:=zH (fun w'=>uw m.r w');obtain⟨rE,Bf⟩:=Kh (zJ m.r);rw[Bf] at m1 m2 m3 m4 m5 HR;unfold Rd.cells at HR;clear bU hm Bw Bf hA;go_enter func144,ntmps144;go_wp2_with fail;obtain⟨W1,cA,b0,b1,aW,ay⟩:=yx w #[O U a.n,I SV a.sts.length ks] #[O U m.r.n,O U m.r.h0,O U m.r.h1,O U m.r.h2,O U m.r.h3,O U m.r.h4,O U m.r.f] 27 75;rw[cA];refine(HR.out W1).mono ?_;rintro e w1 ⟨rfl,aH⟩;have dt:=zH (ay.trans (aH.mono (by omega)));have d0:=Lb aH (by omega) b0;have d1:=Lb aH (by omega) b1;have bH:=zH d1;have aX:=zH d0;obtain⟨q0,q1,_⟩:=Ka d0;obtain⟨p0,p1,p2,p3,p4,p5,p6,_⟩:=Kf d1;have Dz:=zd d1;obtain⟨_,_,e7,_,_,_,_,_,_,_,_,p7⟩:=(HA.out.keep dt.out).row k aa
 cases e7
 rw[HX.out] at p7;clear cA b0 b1 ay aH d0 d1 c0 c1 c2 c3 c4 c5 c6 c7 HR
 by_cases hr:rE=0
 case neg=>
  have he:=zH (m1.out hr);have e0:(rE != 0)=Ar:=by simpa using hr
  clear m1 m2 m3 m4 m5 hr bI HX;go_wp2_with fail;go_ret;exact⟨zc he.out.symm,dt.out⟩
 case pos=>
 subst hr;clear m1
 by_cases hn:m.r.n=a.n
 case neg=>
  have he:=zH (m2.out (by simp) hn);have e0:(m.r.n != a.n)=Ar:=by simpa using hn
  clear m2 m3 m4 m5 hn bI HX;go_wp2_with fail;go_ret;exact⟨zc he.out.symm,dt.out⟩
 case pos=>
 have e0:(m.r.n != a.n)=As:=by simpa using hn
 have n3:=zH (m3.out (by simp) hn);have n4:=zH (m4.out (by simp) hn);have n5:=zH (m5.out (by simp) hn);clear m2 hn m3 m4 m5
 cases k with
 | zero=>
  obtain rfl:bo=As:=by rw[<-bI.out];rfl
  have g0:decide ((0:Int)<0)=As:=by decide
  rw[RJ,Pt] at p7;clear bI HX n3;go_wp2_with fail;go_quiet (fail)
  by_cases ht:m.to<0\/(a.sts.length:Int)<=m.to
  . have he:=zH (n4.out (by simp) ht)
    clear n4 n5
    by_cases nR:m.to<0
    . clear ht
      go_wp2_with fail;go_quiet (fail);go_wp2_with fail;go_ret;exact⟨zc he.out.symm,by repeat (first | exact dt.out | refine zF ?_ _)⟩
    . have nQ:(a.sts.length:Int)<=m.to:=by omega
      clear ht;go_wp2_with fail;go_quiet (fail);go_wp2_with fail;go_ret;exact⟨zc he.out.symm,by repeat (first | exact dt.out | refine zF ?_ _)⟩
  . have he:=zH (n5.out (by simp) ht)
    have nR:¬m.to<0:=by omega
    have nQ:¬(a.sts.length:Int)<=m.to:=by omega
    clear n4 n5 ht;go_wp2_with fail;go_quiet (fail);go_wp2_with fail;go_ret;exact⟨zc he.out.symm,by repeat (first | exact dt.out | refine zF ?_ _)⟩
 | succ j=>
  have hj:j<l.length:=by omega
  have bz:uz (zm l (j+1)) l[j+1]=decide (0<=zh l[j].r.l l[j+1].r.l):=by rw[zV l j hj];rfl
  rw[HX.out] at bz;rw[show uz (zm l (j+1)) m=bo by have:=bI.out;rwa[HX.out] at this] at bz;obtain⟨b',o',e',_,u0,u1,u2,u3,u4,u5,u6,u7⟩:=(HA.out.keep dt.out).row j hj
  cases e'
  have hc:=fun w'=>uT l[j].r m.r w'
  obtain⟨mj,Bv⟩:=Kh (l[j]);rw[Bv] at bz hc u0 u1 u2 u3 u4 u5 u6 u7;obtain⟨r,hr⟩:=Kh (zh mj.r.l m.r.l);rw[hr] at bz hc;unfold Rd.cells at hc;have cu:=zH bz;have HC:=zH hc;have g1:((j:Int)+1).toNat=j+1:=by omega
  have g3:IntKind.i64.wrap ((j:Int)+1-1)=(j:Int):=by rw[Lw];omega
  have g5:IntKind.i64.wrap ((j:Int)+1)=(j:Int)+1:=by rw[Lw];omega
  have g6:decide ((0:Int)<(j:Int)+1)=Ar:=Lo (by omega);have g7:IntKind.i64.wrap (j:Int)=(j:Int):=by rw[Lw];omega
  have g8:(0:Int)<=(j:Int):=by omega
  have g9:(j:Int)<(l.length:Int):=by omega
  clear bz hc hr Bv bI;go_wp2_with fail
  go_still_tail 10,(by kernel_rfl)
  change wpList _ _ _ _ _ w1.drew;obtain⟨w2,ch⟩:∃w2,w2=w1.drew:=⟨_,rfl⟩;have te:Ap (Am w.heap.size w w2):=by rw[ch];exact dt.out.drew
  have aA:Ap (w2.heap[w.heap.size]?=J (Ag #[O U a.n,I SV a.sts.length ks] 27 (0,0))):=by rw[ch];exact aX.out
  rw[<-ch];clear aX bH ch q0 q1 p0 p1 p2 p3 p4 p5 p6 p7 u0 u1 u2 u3 u4 u5 u6 u7 g3 g7 g8 g9;go_wp2_with fail;refine(HC.out w2).mono ?_;rintro e w3 ⟨rfl,ak⟩;have i9:=zH (Lc te.out ak);have d0:=La ak aA.out;obtain⟨q0,q1,_⟩:=Ka d0;obtain⟨_,_,e7,_,_,_,_,_,_,_,_,p7⟩:=(HA.out.keep i9.out).row (j+1) aa
  cases e7
  rw[HX.out] at p7;have i1:(0:Int)<=(j:Int)+1:=by omega
  have i2:(j:Int)+1<(l.length:Int):=by omega
  clear d0 ak HC HX
  cases bo with
  | true=>
   have GK:0<=r:=LA cu.out.symm;have he:=zH (n3.out (by simp));clear n3 n4 n5 cu;go_wp2_with fail
   all_goals first | (exfalso;omega) | skip
   go_ret;exact⟨zc he.out.symm,i9.out⟩
  | false=>
   have GK:¬0<=r:=NI cu.out.symm;clear n3 cu
   by_cases ht:m.to<0\/(a.sts.length:Int)<=m.to
   . have he:=zH (n4.out (by simp) ht)
     clear n4 n5
     by_cases nR:m.to<0
     . clear ht
       go_wp2_with fail
       all_goals first | (exfalso;omega) | skip
       go_quiet (fail);go_wp2_with fail;go_ret;exact⟨zc he.out.symm,by repeat (first | exact i9.out | refine zF ?_ _)⟩
     . have nQ:(a.sts.length:Int)<=m.to:=by omega
       clear ht;go_wp2_with fail
       all_goals first | (exfalso;omega) | skip
       go_quiet (fail);go_wp2_with fail;go_ret;exact⟨zc he.out.symm,by repeat (first | exact i9.out | refine zF ?_ _)⟩
   . have he:=zH (n5.out (by simp) ht)
     have nR:¬m.to<0:=by omega
     have nQ:¬(a.sts.length:Int)<=m.to:=by omega
     clear n4 n5 ht;go_wp2_with fail
     all_goals first | (exfalso;omega) | skip
     go_quiet (fail);go_wp2_with fail;go_ret;exact⟨zc he.out.symm,by repeat (first | exact i9.out | refine zF ?_ _)⟩
end
section
open Go.RowKit
attribute [local go_sem] Oper.semAt_some
def okB(a:Ad)(m:Mv):Bool:=(a.at_ m.to).all fun k=>xY m k
theorem JZ{a:Ad}(h:∀t (ht:t<a.sts.length),∀m∈a.sts[t],okB a m=Ar):yC a=Ar:=by
 unfold yC;rw[Lz];intro m hm;obtain⟨l,hl,tt⟩:=Nu.1 hm;obtain⟨t,ht,rfl⟩:=NB.1 hl;exact h t ht m tt
theorem Qk{a:Ad}{m k:Mv}(hm:m∈a.mvs)(hk:k∈a.at_ m.to)(h:xY m k=As):yC a=As:=by
 rw[Bool.eq_false_iff];intro hg;unfold yC at hg;have:=Lz.1 (Lz.1 hg m hm) k hk;rw[this] at h
 cases h
theorem at_get{a:Ad}{t:Nat}(h:t<a.sts.length){x:Int}(hx:x=(t:Int)):a.at_ x=a.sts[t]:=by
 subst hx;unfold Ad.at_;rw[Lu,Lg,Lj h];rfl
theorem XC(a:Ad)(hf:FewA a)(hz:zk a a.sts=0)(SV:Bb)(ks:Nat)(w:Ba)(hS:SAt w w.heap.size SV a.sts) :
  An Al 145 #[Ai #[O U a.n,I SV a.sts.length ks]] w fun e w'=>e=Ak (Ah (yC a))/\Am w.heap.size w w':=by
 have dA:=hf.1;have iH:=zH (fun l hl=>hf.each (l:=l) hl);have HZ:=zH (@yS a hz);have C9:=zH (@JZ a);have sZ:=zH (fun m k hm hk h=>@Qk a m k hm hk h);obtain⟨G,hG⟩:=Kh (yC a);rw[hG] at C9 ⊢;simp only[hG] at sZ;go_enter func145,ntmps145;go_wp2_with fail;obtain⟨w1,af⟩:=Kh (w.alloc (Ag #[O U a.n,I SV a.sts.length ks] 27));have aL:=ze w (Ag #[O U a.n,I SV a.sts.length ks] 27);have an:Am w.heap.size w w1:=by rw[<-af];exact zw w _
 have cj:w1.heap.size=w.heap.size+1:=by rw[<-af];simp
 rw[af] at aL ⊢;have bL:=zH aL;have aV:=zH an;have HS:=zH ((hS.keep an).more (by omega:w.heap.size<=w1.heap.size))
 go_loopw [3] (fun i wr=>∃s:Nat,s<=a.sts.length/\i=O U (s:Int)/\Ap (∀t (ht:t<a.sts.length),t<s->∀m∈a.sts[t],okB a m=Ar)/\Ap (Am w1.heap.size w1 wr)) (fun i _=>a.sts.length-(Ao i).toNat)
 case atStart=>exact⟨0,by omega,rfl,(fun t ht h0=>by omega),Ln _ _⟩
 obtain⟨s,hs,rfl,lh,bu⟩:=hrel;have aQ:=La bu.out bL.out;have q1:=za aQ 1 rfl
 by_cases aa:s<a.sts.length
 case neg=>
  obtain rfl:s=a.sts.length:=by omega
  have hg:=zH (C9.out (fun t ht=>lh.out t ht ht));go_wp2_with fail;go_ret;exact⟨zg hg.out.symm,aV.out.trans (bu.out.mono (by omega))⟩
 case pos=>
 obtain⟨b,o,A',k',rfl,dC,c1,hM⟩:=(HS.out.keep bu.out).at_ s aa;have cV:=iH.out _ (Le aa);have C1:Ap (∀m∈a.sts[s],m∈a.mvs):=fun m hm=>Nu.2 ⟨_,Le aa,hm⟩
 have tY:Ap ((∀m∈a.sts[s],okB a m=Ar)->∀t (ht:t<a.sts.length),t<s+1->∀m∈a.sts[t],okB a m=Ar):=fun h t ht h2 m hm=>by
  by_cases e:t=s
  . subst e;exact h m hm
  . exact lh.out t ht (by omega) m hm
 have nI:Ap (∀wr:Ba,Am w1.heap.size w1 wr->wr.cell? ⟨b,o+s,Z⟩=J (.slice A' (a.sts[s]).length k')/\MAt wr w1.heap.size A' a.sts[s]):=fun pj cz=>
  ⟨((cz.cell (p:=⟨b,_,Z⟩) dC).trans ((bu.out.cell (p:=⟨b,_,Z⟩) dC).symm)).trans c1,(by
   obtain⟨b2,o2,A2,k2,e2,bG,c2,pQ⟩:=(HS.out.keep cz).at_ s aa
   cases e2
   have:=(((cz.cell (p:=⟨b,o+s,Z⟩) dC).trans ((bu.out.cell (p:=⟨b,o+s,Z⟩) dC).symm)).trans c1).symm.trans c2
   cases this
   exact pQ)⟩
 obtain⟨L,hL⟩:=Kh (a.sts[s]);rw[hL] at c1 cV C1 tY nI;go_wp2_with fail
 go_loopw [4] (fun i wr=>∃j:Nat,j<=L.length/\i=O U (j:Int)/\Ap (∀u (hu:u<L.length),u<j->okB a L[u]=Ar)/\Ap (Am w1.heap.size w1 wr)) (fun i _=>L.length-(Ao i).toNat)
 case atStart=>exact⟨0,by omega,rfl,(fun u hu h0=>by omega),bu⟩
 obtain⟨j,hj,rfl,pt,bu⟩:=hrel;have aQ:=La bu.out bL.out;have q1:=za aQ 1 rfl;obtain⟨c1,hM⟩:=nI.out _ bu.out
 by_cases bf:j<L.length
 case neg=>
  obtain rfl:j=L.length:=by omega
  have hg:=zH (tY.out (fun m hm=>by
   obtain⟨u,hu,rfl⟩:=NB.1 hm
   exact pt.out u hu hu))
  go_wp2_with fail
  go_roundw
  case rel=>exact⟨s+1,by omega,by go_num,hg,bu⟩
  simp[Ao];omega
 case pos=>
 obtain⟨b',o',e',TP,d0,d1,d2,d3,d4,d5,d6,d7⟩:=hM.row j bf
 cases e'
 have Id:Ap (L[j]∈a.mvs):=C1.out _ (Le bf)
 have Ow:Ap (okB a L[j]=Ar->∀u (hu:u<L.length),u<j+1->okB a L[u]=Ar):=fun h u hu h2=>by
  by_cases e:u=j
  . subst e;exact h
  . exact pt.out u hu (by omega)
 obtain⟨m,hm⟩:=Kh (L[j]);rw[hm] at d0 d1 d2 d3 d4 d5 d6 d7 Id Ow;obtain⟨z1,z2,z3,z4⟩:=HZ.out m Id.out;obtain⟨f1,CB,EQ⟩:=yX z1;obtain⟨t,et⟩:=Lq z3;have fC:t<a.sts.length:=by omega
 have bn:=at_get fC et;have Ot:Ap (∀y∈a.at_ m.to,y∈a.mvs):=by rw[bn];exact fun y hy=>Nu.2 ⟨_,Le fC,hy⟩
 have Bz:=iH.out _ (Le fC)
 have iY:Ap (∀wr:Ba,Am w1.heap.size w1 wr->∃A' c,wr.cell? ⟨b,o+t,Z⟩=J (.slice A' (a.at_ m.to).length c)/\MAt wr w1.heap.size A' (a.at_ m.to)):=fun pj cz=>by
  rw[bn];obtain⟨b2,o2,A2,k2,e2,bG,c2,pQ⟩:=(HS.out.keep cz).at_ t fC
  cases e2
  exact⟨A2,k2,c2,pQ⟩
 rw[<-bn] at Bz;have Oj:Ap ((∀y∈a.at_ m.to,xY m y=Ar)->okB a m=Ar):=fun h=>Lz.2 h
 obtain⟨L2,sy⟩:=Kh (a.at_ m.to)
 have rg:Ap (∀y∈L2,xY m y=As->G=As):=by
  rw[<-sy];exact fun y hy h=>sZ.out m y Id.out hy h
 rw[sy] at Ot Bz iY Oj;have aA:=zH CB;have Wp:=zH et;rw[et] at d7;clear hM hm z1 z2 z3 z4 et CB bn sy pt;go_wp2_with fail;obtain⟨wm,ij⟩:=Kh (wr.alloc (Ag m.cells 121));have rI:=ze wr (Ag m.cells 121);have SW:Am w1.heap.size w1 wm:=by rw[<-ij];exact bu.out.trans ((zw wr _).mono bu.out.size)
 have di:wm.heap.size=wr.heap.size+1:=by rw[<-ij];simp
 have mY:=bu.out.size;rw[ij] at rI;unfold Mv.cells at ij rI;rw[Wp.out] at ij rI;rw[ij];obtain⟨g,hg⟩:=Kh wr.heap.size;rw[hg] at rI di mY ⊢;have V7:=zH rI;have VZ:=zH SW
 go_loopw [6] (fun i wx=>∃q:Nat,q<=L2.length/\i=O U (q:Int)/\Ap (∀u (hu:u<L2.length),u<q->xY m L2[u]=Ar)/\Ap (Am wm.heap.size wm wx)) (fun i _=>L2.length-(Ao i).toNat)
 case atStart=>exact⟨0,by omega,rfl,(fun u hu h0=>by omega),Ln _ _⟩
 obtain⟨q,hq,rfl,DC,aI⟩:=hrel;have cD:=VZ.out.trans (aI.out.mono (by omega));have aQ:=La cD bL.out;have q1:=za aQ 1 rfl;have eT:=Lb aI.out (by omega) V7.out;have p6:=za eT 6 rfl;have p7:=za eT 7 rfl;obtain⟨A2,k2,c2,pQ⟩:=iY.out _ cD;have aT:=zH cD
 by_cases Bi:q<L2.length
 case neg=>
  obtain rfl:q=L2.length:=by omega
  have hg:=zH (Ow.out (Oj.out (fun y hy=>by
   obtain⟨u,hu,rfl⟩:=NB.1 hy
   exact DC.out u hu hu)))
  go_wp2_with fail
  go_roundw
  case rel=>exact⟨j+1,by omega,by go_num,hg,aT⟩
  simp[Ao];omega
 case pos=>
 obtain⟨b3,o3,e3,dZ,_,_,_,_,_,_,c6,_⟩:=pQ.row q Bi;subst e3;have bS:=Le Bi;obtain⟨f2,oQ,EP⟩:=yX (HZ.out _ (Ot.out _ bS)).1;have Om:=zH (rg.out _ bS)
 have Od:Ap (xY m L2[q]=Ar->∀u (hu:u<L2.length),u<q+1->xY m L2[u]=Ar):=fun h u hu h2=>by
  by_cases e:u=q
  . subst e;exact h
  . exact DC.out u hu (by omega)
 have mp:xY m L2[q]=(f1 &&& f2==f1):=by unfold xY;rw[aA.out,oQ,Lu,Lu]
 have HC:=zH (fun w'=>Qg f1 f2 EQ EP w');obtain⟨y,hy⟩:=Kh (L2[q]);rw[hy] at c6 Om Od mp oQ;obtain⟨bo,bU⟩:∃bo,(f1 &&& f2==f1)=bo:=⟨_,rfl⟩;rw[bU] at mp HC;have sY:=zH mp;have TC:=aA.out;rw[TC] at p6;rw[oQ] at c6
 cases bo with
 | true=>
  have hg:=zH (Od.out sY.out);go_wp2_with fail;go_quiet ((go_at_call 163;exact(HC.out _).mono fun e w' h=>⟨h.1,_,h.2.symm⟩));go_wp2_with fail
  go_roundw
  case rel=>exact⟨q+1,by omega,by go_num,hg,zF aI.out _⟩
  case measure=>simp[Ao];omega
 | false=>
  have hg:=zH (Om.out sY.out);go_wp2_with fail;go_quiet ((go_at_call 163;exact(HC.out _).mono fun e w' h=>⟨h.1,_,h.2.symm⟩));go_wp2_with fail;go_ret;exact⟨zg hg.out.symm,zF (aV.out.trans (aT.out.mono (by omega))) _⟩
theorem Yp(a:Ad)(hf:FewA a)(SV:Bb)(ks:Nat)(w:Ba)(hS:SAt w w.heap.size SV a.sts) :
  An Al 121 #[Ai #[O U a.n,I SV a.sts.length ks]] w fun e w'=>e=Ak (O U (xO a))/\Am w.heap.size w w':=by
 have dA:=hf.1;have eG:=hf.2;obtain⟨tt,Fw,dU⟩:=YD hf;have Eu:=zH (fun (w':Ba) (h:SAt w' w'.heap.size SV a.sts)=>uW a SV ks Fw dU tt w' h);have lR:=zH (fun hz (w':Ba) (h:SAt w' w'.heap.size SV a.sts)=>XC a hf hz SV ks w' h);have tV:=zH (fun (A:Bb) (k0:Nat) (l:List Mv) (hl:l.length<=40) (k:Nat) (aa:k<l.length) (w':Ba) (h:MAt w' w'.heap.size A l)=>JC a SV ks dA A k0 l hl k aa w' h);have iH:=zH (fun l hl=>hf.each (l:=l) hl);have aA:=zH (@jB a);have al:=zH (@vI a);have az:=zH (fun h h2=>@jA a h h2 hf);have cq:=zH (fun h h2=>@jC a h h2 hf);obtain⟨E,hE⟩:=Kh (xO a);rw[hE] at aA al az cq ⊢;obtain⟨ml,Bu⟩:=Kh a.mvs.length;rw[Bu] at Eu eG;go_enter func121,ntmps121
 by_cases hr:a.n<1\/5<a.n
 . have hR:=zH (aA.out hr)
   have HN:=zH hr;go_wp2_with fail
   all_goals first | (exfalso;have:=HN.out;omega) | skip
   all_goals
    go_ret;exact⟨zc hR.out.symm,zw w _⟩
 have r1:¬a.n<1:=by omega
 have r2:¬5<a.n:=by omega
 have al:=zH (al.out hr);have az:=zH (az.out hr);have cq:=zH (cq.out hr);obtain⟨w1,af⟩:=Kh (w.alloc (Ag #[O U a.n,I SV a.sts.length ks] 27));have aL:=ze w (Ag #[O U a.n,I SV a.sts.length ks] 27);have an:Am w.heap.size w w1:=by rw[<-af];exact zw w _
 have cj:w1.heap.size=w.heap.size+1:=by rw[<-af];simp
 rw[af] at aL;have bL:=zH aL;have aV:=zH an;have HS:=zH ((hS.keep an).more (by omega:w.heap.size<=w1.heap.size));have au:=zH af;clear hS af an;obtain⟨q0,q1,_⟩:=Ka aL
 by_cases hz:a.sts.length<1
 . have hR:=zH (al.out hz)
   clear al az cq Eu lR tV iH;go_wp2_with fail;rw[au.out];go_wp2_with fail;go_ret;exact⟨zc hR.out.symm,aV.out⟩
 have bQ:1<=a.sts.length:=by omega
 have G3:=zH (az.out bQ);have G4:=zH (cq.out bQ);clear al hz az cq;obtain⟨F,hF⟩:=Kh (zk a a.sts);have HF:Ap (F=zk a (a.sts.drop 0)):=by rw[L8];exact hF.symm
 rw[hF] at G3 G4 lR;clear hF;have g1:=zH (fun k h=>@ja a a.sts k h);have g2:=zH (fun k h=>@jH a a.sts k h);have g3:=zH (fun k h=>@kZ a a.sts k h);go_wp2_with fail;rw[au.out];refine(Eu.out w1 HS.out).mono ?_;rintro e w2 ⟨rfl,ch⟩;have ae:Am w1.heap.size w1 w2:=by rw[ch];exact zw w1 _
 have aN:=zH ae;have aQ:=La ae bL.out;have q1:=za aQ 1 rfl;clear ch ae aQ aL Eu au;go_wp2_with fail
 all_goals first | (exfalso;omega) | skip
 clear q1
 go_loopw [3] (fun i wr=>∃s:Nat,s<=a.sts.length/\i=O U (s:Int)/\Ap (F=zk a (a.sts.drop s))/\Ap (Am w1.heap.size w1 wr)) (fun i _=>a.sts.length-(Ao i).toNat)
 case atStart=>exact⟨0,by omega,rfl,HF,aN⟩
 obtain⟨s,hs,rfl,ag,bu⟩:=hrel;have aQ:=La bu.out bL.out;obtain⟨q0,q1,_⟩:=Ka aQ
 by_cases aa:s<a.sts.length
 case neg=>
  obtain rfl:s=a.sts.length:=by omega
  have sz:F=0:=ag.out.trans (g3.out _ rfl);have hR:=zH (G4.out sz);have HG:=zH (lR.out sz wr ((HS.out.keep bu.out).more bu.out.size));obtain⟨gb,ep⟩:=Kh (yC a);rw[ep] at hR HG;clear G3 G4 g1 g2 g3 ag ep sz lR tV iH aQ;go_wp2_with fail;refine HG.out.mono ?_;rintro e w3 ⟨rfl,ak⟩;have cx:=zH (aV.out.trans ((Lc bu.out ak).mono (by omega)));clear HG ak q1
  cases gb with
  | true=>
   go_wp2_with fail;go_ret;exact⟨zc hR.out.symm,cx.out⟩
  | false=>
   go_wp2_with fail;go_ret;exact⟨zc hR.out.symm,cx.out⟩
 case pos=>
 have aF:=zH (g1.out s aa);have aB:=zH (g2.out s aa);obtain⟨b,o,A',k',e',dC,c1,hM⟩:=(HS.out.keep bu.out).at_ s aa;subst e';have cV:=iH.out _ (Le aa)
 have nI:Ap (∀wr:Ba,Am w1.heap.size w1 wr->wr.cell? ⟨b,o+s,Z⟩=J (.slice A' (a.sts[s]).length k')/\MAt wr w1.heap.size A' a.sts[s]):=fun pj cz=>
  ⟨((cz.cell (p:=⟨b,_,Z⟩) dC).trans ((bu.out.cell (p:=⟨b,_,Z⟩) dC).symm)).trans c1,(by
   obtain⟨b2,o2,A2,k2,e2,bG,c2,pQ⟩:=(HS.out.keep cz).at_ s aa
   cases e2
   have:=(((cz.cell (p:=⟨b,o+s,Z⟩) dC).trans ((bu.out.cell (p:=⟨b,o+s,Z⟩) dC).symm)).trans c1).symm.trans c2
   cases this
   exact pQ)⟩
 obtain⟨L,hL⟩:=Kh (a.sts[s]);rw[hL] at c1 cV nI aF aB;clear hM hL g1 g2 g3 aQ iH lR
 by_cases nj:L.length=0
 . have he:=vU (a:=a) nj
   rw[he] at aF;have nv:=ag.out.trans (aF.out (by decide));have hR:=zH ((G3.out (by rw[nv];decide)).trans nv);rw[nj] at c1;clear G3 G4 aF aB ag he nv nj cV nI tV;go_wp2_with fail;go_ret;exact⟨zc hR.out.symm,aV.out.trans (bu.out.mono (by omega))⟩
 have p':=zH (uP (a:=a) nj);have e0:(((L.length:Nat):Int)==0)=As:=by simpa using nj
 have e1:¬((L.length:Nat):Int)=0:=by omega
 have b1:=zH (fun k h=>@ub a L k h);have b2:=zH (fun k h=>@wq a L k h);have b3:=zH (@ua a L);obtain⟨V,hV⟩:=Kh (xg a L);rw[hV] at p' aF aB;clear hV nj;go_wp2_with fail;clear q1 c1
 go_loopw [4] (fun i wr=>∃j:Nat,j<=L.length/\i=O U (j:Int)/\Ap (V=yW a L j)/\Ap (Am w1.heap.size w1 wr)) (fun i _=>L.length-(Ao i).toNat)
 case atStart=>exact⟨0,by omega,rfl,p',bu⟩
 clear bu p';obtain⟨j,hj,rfl,pt,bu⟩:=hrel;have aQ:=La bu.out bL.out;obtain⟨q0,q1,_⟩:=Ka aQ;obtain⟨c1,hM⟩:=nI.out _ bu.out
 by_cases bf:j<L.length
 case neg=>
  obtain rfl:j=L.length:=by omega
  have Mr:V=0:=pt.out.trans b3.out;have hR:=zH (ag.out.trans (aB.out Mr));clear pt hM b1 b2 b3 aF aB ag Mr aQ nI tV G3 G4;go_wp2_with fail
  go_roundw
  case rel=>exact⟨s+1,by omega,by go_num,hR,bu⟩
  simp[Ao];omega
 case pos=>
 have hC:=tV.out A' k' L cV j bf;have x1:=b1.out j bf;have x2:=b2.out j bf;obtain⟨ev,cm⟩:=Kh (yZ a (zm L j) L[j]);rw[cm] at hC x1 x2;have HC:=zH hC;have X1:=zH x1;have X2:=zH x2;have i8:=zH hM;have WC:=zH aQ;have i1:(0:Int)<=(s:Int):=by omega
 have i2:(s:Int)<(a.sts.length:Int):=by omega
 clear hC x1 x2 cm hM aQ b1 b2 b3 tV;go_wp2_with fail
 go_still_tail 7,(by kernel_rfl)
 change wpList _ _ _ _ _ wr.drew;obtain⟨wd,nN⟩:∃wd,wd=wr.drew:=⟨_,rfl⟩;have WM:Ap (Am w1.heap.size w1 wd):=by rw[nN];exact bu.out.drew
 have VY:Ap (MAt wd wd.heap.size A' L):=by rw[nN];exact(i8.out.keep (Ln _ wr).drew).more bu.out.size
 rw[<-nN];clear nN i8 q1 c1 WC;go_wp2_with fail;refine(HC.out wd VY.out).mono ?_;rintro e w3 ⟨rfl,ak⟩;have i9:=zH (Lc WM.out ak)
 by_cases he:ev=0
 . subst he
   have hR:=zH (pt.out.trans (X2.out (by simp)));go_wp2_with fail
   go_roundw
   case rel=>exact⟨j+1,by omega,by go_num,hR,i9⟩
   simp[Ao];omega
 have Mp:=pt.out.trans (X1.out he);have nv:=(ag.out.trans (aF.out (by rw[Mp];exact he))).trans Mp;have hR:=zH ((G3.out (by rw[nv];exact he)).trans nv);have e2:(ev != 0)=Ar:=by simpa using he
 go_wp2_with fail;go_ret;exact⟨zc hR.out.symm,aV.out.trans (i9.out.mono (by omega))⟩
end
section
open Go.RowKit Go.Shelf
section
variable {P:Program}
theorem jg{fn:Func}{tmps:Array Aq}{R:Ending->Ba->Prop}{B n:Nat} :
  ∀(rs:List Nat) (w:Ba),rs.Nodup->(∀r∈rs,B<=r/\w.heap[r]?=J (.deferred (J [])))->(∀W,Shut B w W->∃v,(results fn tmps).run P W=.ok v W/\R (Ak v) W) ->
   LeavesInM Fence.wide n P fn tmps R (rs.map (fun r=>{ target:=.collected r,args:=#[] })) .returning w
 | [],w,_,_,hR=>hR w (Shut.refl _ _)
 | r::rs,w,hn,hm,hR=>by
  obtain⟨hr,pz⟩:=Pd.1 hn;obtain⟨hB,hk⟩:=hm r (by simp);refine⟨by simp,.inl ⟨r,_,rfl,run_takeDeferred hk,?_⟩⟩;refine jg rs _ pz (fun r' ir=>⟨(hm r' (by simp[ir])).1,?_⟩) (fun W hW=>hR W ?_)
  . rw[NN (by rintro rfl;exact hr ir)]
    exact(hm r' (by simp[ir])).2
  . refine⟨((Ln B w).grown (grownBy_putObj' w r (.deferred Z)) (by have:=(Lf.1 hk).1;omega) (fun k e=>by cases e;exact hB)).trans hW.below,fun k o ho hc=>?_⟩
    refine hW.same k o ?_ hc
    by_cases e:k=r
    . subst e;rw[hk] at ho;cases ho;cases hc
    . exact(NN e).trans ho
theorem yv{fn:Func}{R:Ending->Ba->Prop}{a:Act}{w:Ba}{B:Nat}(hm:Marks B a.defers w)
  (hR:∀W,Shut B w W->∃v,(results fn a.tmps).run P W=.ok v W/\R (Ak v) W):bodyPostM Fence.wide 9 P fn R .ret a w:=by
 obtain⟨rs,hd,hn,hk⟩:=hm;show LeavesInM Fence.wide 9 P fn a.tmps R a.defers .returning w;rw[hd];exact jg rs w hn hk hR
theorem gG{β:Type}{g:Operand}{ps:Array Tmp}{assign body:Code}{Q:Exit->Act->Ba->Prop}{a:Act}{w:Ba}
  {gf:Nat} {lb:Array Aq} (hg:a.eval g=.func (.func gf) #[] lb) (eg:Enters P gf)
  {cO:β->Array Aq} {K:Nat->Prop} {xs:List β} (dy:Xf P gf lb cO K xs w) (hK:∀k,K k->k<w.heap.size) (lh:∀x,(cO x).size=ps.size)
  (Ac:List { x:β // x∈xs }->Ba->Prop) (Ix:Code->List { x:β // x∈xs }->Ba->Prop) (hI:OwnFrom w.heap.size Ac) (Cu:∀c,OwnFrom w.heap.size (Ix c)) (h0:Ac [] w)
  (C:β->Array Aq) (T:TypeId) (a₁:{ x:β // x∈xs }->Nat->Act)
  (cY:∀(l:Nat) (pre:List { x:β // x∈xs }) (x:{ x:β // x∈xs }) (W:Ba) (K':Act->Ba->Prop),Ac pre W->(∀g,g=W.heap.size->Ac pre (W.alloc (Ag (C x.1) T))->K' (a₁ x g) (W.alloc (Ag (C x.1) T))) ->
   assign.wpIn (Fence.wide.inRound l) 7 P (Exit.then K' (fun _ _ _=>False)) { tmps:=(ps.zip (cO x.1)).foldl (fun t (p,v)=>t.setIfInBounds p v) a.tmps,defers:=[] } W)
  (fL:∀(l:Nat) (pre:List { x:β // x∈xs }) (x:{ x:β // x∈xs }) (g:Nat) (W:Ba),w.heap.size<=g->W.heap[g]?=J (Ag (C x.1) T (0,0))->Ac pre W->pre.length<xs.length->body.wpIn (Fence.wide.inRound l) 7 P (ownPostG w.heap.size (KeepB K) Ac Ix (pre++[x]) W) (a₁ x g) W)
  (fK:∀(D:Nat) (ys:List { x:β // x∈xs }) (W:Ba),w.heap.size<=D->ys.map (·.1)=xs->Ac ys W->W.heap[D]?=J (.deferred (J []))->Q .normal { a with defers:={ target:=.collected D,args:=#[] }::a.defers } W)
  (fE:∀(D:Nat) (c:Code) (pre:List { x:β // x∈xs }) (W:Ba),w.heap.size<=D->pre.map (·.1) <+: xs->Ix c pre W->W.heap[D]?=J (.deferred (J []))->c.wp P Q { a with defers:={ target:=.collected D,args:=#[] }::a.defers } W)
  (eU:∀pre W,Ac pre W->w.heap.size<=W.heap.size) :
  (Code.rangeFunc g ps assign body).wp P Q a w:=
 (P6 (n:=9)).1 (wpIn_rangeFunc_ownH (F:=Fence.wide) (n:=9) rfl (by omega) hg trivial eg (dy 8 (by omega)) KeepB.trans
  (fun W l o o' hl _ _ _=>KeepB.putObj (fun hk=>by have:=hK l hk;omega) o') (Ln _ _) (fun x=>lh x.1) Ac Ix hI Cu h0
  (fun x a' W=>∃g,a'=a₁ x g/\w.heap.size<=g/\W.heap[g]?=J (Ag (C x.1) T (0,0)))
  (fun x a' _ W W' row ⟨g,e,nm,hc⟩ cC hr=>⟨g,e,nm,(LI cC (fun r e=>(hr r e).2) hc rfl).trans hc⟩)
  (fun l pre x W K' hi ah=>cY l pre x W K' hi fun g oz iQ=>by
   refine ah _ _ ?_ ?_ iQ ⟨g,rfl,by rw[oz];exact eU _ _ hi,by rw[oz];exact ze _ _⟩
   . exact⟨by simp,fun k o _ hk ho=>(NJ W _ k (Lf.1 hk).1).trans hk⟩
   . exact KeepB.alloc _ _ _)
  (fun l pre x a' W _ _ hi ⟨g,e,nm,hc⟩ hl=>by subst e;exact fL l pre x g W nm hc hi hl) fK
  (fun D c pre W hD hS hc hk=>P6.2 (fE D c pre W hD hS hc hk)))
end
structure RsIn(B:Nat)(C:Array Aq)(T:TypeId)(r:Int)(w W:Ba):Prop where
 below:Am B w W
 b0:W.heap[B]?=J (Ag C T (0,0))
 b1:W.heap[B+1]?=J (Ag #[O U r] 46 (0,0))
theorem RsIn.turn{B:Nat}{C:Array Aq}{T:TypeId}{r:Int}{w W W':Ba}{row:Option Nat}(h:RsIn B C T r w W)(hg:W.grownBy W' row)(hr:∀r,row=J r->B<=r/\∃o:Obj,W.heap[r]?=J o/\o.isCells=As):RsIn B C T r w W':=
 ⟨h.below.grown hg (by have:=(Lf.1 h.b0).1;omega) (fun k hk=>(hr k hk).1),(LI hg (fun r e=>(hr r e).2) h.b0 rfl).trans h.b0,(LI hg (fun r e=>(hr r e).2) h.b1 rfl).trans h.b1⟩
theorem RsIn.on{B D:Nat}{C:Array Aq}{T:TypeId}{r:Int}{w W W':Ba}(h:RsIn B C T r w W)(hb:Am D W W')(hD:B+2<=D):RsIn B C T r w W':=
 ⟨h.below.trans (hb.mono (by omega)),Lb hb (by omega) h.b0,Lb hb (by omega) h.b1⟩
theorem RsIn.set{B:Nat}{C:Array Aq}{T:TypeId}{r:Int}{w W:Ba}(h:RsIn B C T r w W)(r':Int):RsIn B C T r' w (W.setCell ⟨B+1,0,Z⟩ (O U r')):=by
 obtain⟨x1,x2,x3⟩:=va h.b1 (O U r');exact⟨h.below.setCell (by simp) _,(x3 B (by omega)).trans h.b0,x1⟩
theorem RsIn.keeps{B D:Nat}{C:Array Aq}{T:TypeId}{r:Int}{w W:Ba}(h:RsIn B C T r w W)(r':Int):KeepsFrom D W (W.setCell ⟨B+1,0,Z⟩ (O U r')):=by
 obtain⟨x1,x2,x3⟩:=va h.b1 (O U r');refine⟨by omega,fun k o _ hk ho=>?_⟩;have k1:k≠B+1:=by rintro rfl;rw[h.b1] at hk;cases hk;cases ho
 exact(x3 k k1).trans hk
theorem xX{D:Nat}{W W':Ba}(h:Am W.heap.size W W'):KeepsFrom D W W':=⟨h.size,fun k _ _ hk _=>(h.block k (Lf.1 hk).1).trans hk⟩
theorem RsIn.cell{B:Nat}{C:Array Aq}{T:TypeId}{r:Int}{w W X:Ba}(h:RsIn B C T r w W)(hS:Shut B W X):X.cell? ⟨B+1,0,Z⟩=J (O U r):=hS.cell (za h.b1 0 rfl)
end
section
open Go.RowKit Go.Shelf
attribute [local go_sem] Oper.semAt_some
theorem wY(a:Ad)(hf:FewA a)(SV:Bb)(ks:Nat)(w:Ba)(hS:SAt w w.heap.size SV a.sts) :
  An Al 78 #[Ai #[O U a.n,I SV a.sts.length ks]] w fun e w'=>e=Ak (O U (xO a))/\Am w.heap.size w w':=by
 have dA:=hf.1;have sN:=zH (fun (w':Ba) (h:SAt w' w'.heap.size SV a.sts)=>Jw a hf SV ks w' h);have dr:=zH (fun (A:Bb) (k0:Nat) (l:List Mv) (hl:l.length<=40) (w':Ba) (h:MAt w' w'.heap.size A l)=>Jv a SV ks dA A k0 l hl w' h);have HI:=zH (fun (bx:Nat) (w':Ba) (hb:w'.heap[bx]?=J (Ag #[O U a.n,I SV a.sts.length ks] 27)) (h:SAt w' w.heap.size SV a.sts) (hB:w.heap.size<=w'.heap.size)=>kp a hf SV ks w.heap.size bx w' hb h hB);have iH:=zH (fun l hl=>hf.each (l:=l) hl);have aA:=zH (@jB a);have al:=zH (@vI a);have az:=zH (fun h h2=>@jA a h h2 hf);have cq:=zH (fun h h2=>@jC a h h2 hf);obtain⟨E,hE⟩:=Kh (xO a);rw[hE] at aA al az cq ⊢;have HS:=zH hS;clear hS hE hf;refine yb func78 rfl ?_;simp only[ntmps78,List.size_toArray,List.length_cons,List.length_nil,Nat.reduceAdd,Nat.reduceSub,Array.replicate_succ,Array.replicate_zero,List.push_toArray,List.append_toArray,List.nil_append,List.cons_append]
 by_cases hr:a.n<1\/5<a.n
 . have hR:=zH (aA.out hr)
   have HN:=zH hr;clear aA al az cq hr sN dr HI iH;go_wp2_with fail
   all_goals first | (exfalso;have:=HN.out;omega) | skip
   all_goals
    refine yv (B:=w.heap.size) (Marks.nil _ _) ?_;intro W hX;have c1:=hX.cell (za (ze (w.alloc (Ag #[O U a.n,I SV a.sts.length ks] 27)) (Ag #[O U 2] 46)) 0 rfl);rw[LS] at c1;refine⟨O U 2,?_,zc hR.out.symm,(xk _ _ _).trans hX.below⟩;clear hX hR HN;simp[results,results78,go_sem,c1]
 have r1:¬a.n<1:=by omega
 have r2:¬5<a.n:=by omega
 have al:=zH (al.out hr);have az:=zH (az.out hr);have cq:=zH (cq.out hr);clear hr aA;go_wp2_with fail
 all_goals first | (exfalso;omega) | skip
 obtain⟨w2,ch,b0,b1,bk,hB⟩:=yx w #[O U a.n,I SV a.sts.length ks] #[O U 0] 27 46;rw[ch];have H0:Ap (RsIn w.heap.size #[O U a.n,I SV a.sts.length ks] 27 0 w w2):=⟨hB,b0,b1⟩;have NQ:=zH ((HS.out.keep hB).more hB.size);clear ch b0 b1 hB;refine(sN.out w2 NQ.out).mono ?_;rintro e w3 ⟨rfl,hb⟩;have H1:=zH (H0.out.on hb bk);have le:w.heap.size+2<=w3.heap.size:=by have:=hb.size;omega
 obtain⟨q0,q1,_⟩:=Ka H1.out.b0;have p0:=za H1.out.b1 0 rfl;have f0:=zb H1.out.b1 0;clear hb NQ H0 sN
 by_cases hz:a.sts.length<1
 . have hR:=zH (al.out hz)
   rw[Lm hz];clear al az cq dr HI iH;go_wp2_with fail;refine yv (B:=w.heap.size) (Marks.nil _ _) ?_;intro W hX;have hI:=H1.out.set 5;have c1:=hI.cell hX;refine⟨O U 5,?_,zc hR.out.symm,hI.below.trans hX.below⟩;clear hX hR hI;simp[results,results78,go_sem,c1]
 have bQ:1<=a.sts.length:=by omega
 rw[Lk hz];have G3:=zH (az.out bQ);have G4:=zH (cq.out bQ);clear al hz az cq;obtain⟨F,hF⟩:=Kh (zk a a.sts);have HF:Ap (F=zk a (a.sts.drop 0)):=by rw[L8];exact hF.symm
 have sM:=zH (fun h=>@yS a (hF.trans h));rw[hF] at G3 G4;clear hF;have g1:=zH (fun k h=>@ja a a.sts k h);have g2:=zH (fun k h=>@jH a a.sts k h);have g3:=zH (fun k h=>@kZ a a.sts k h);go_wp2_with fail
 all_goals first | (exfalso;omega) | skip
 clear q0 q1 p0 f0
 go_loopw [27] (fun i wr=>∃k:Nat,k<=a.sts.length/\i=O U (k:Int)/\Ap (F=zk a (a.sts.drop k))/\Ap (RsIn w.heap.size #[O U a.n,I SV a.sts.length ks] 27 0 w wr)/\w.heap.size+2<=wr.heap.size) (fun i _=>a.sts.length-(Ao i).toNat)
 case atStart=>exact⟨0,by omega,rfl,HF,H1,le⟩
 obtain⟨k,hk,rfl,ag,st,mY⟩:=hrel;clear HF;obtain⟨q0,q1,_⟩:=Ka st.out.b0;have p0:=za st.out.b1 0 rfl;have f0:=zb st.out.b1 0
 by_cases aa:k<a.sts.length
 . have aF:=zH (g1.out k aa)
   have aB:=zH (g2.out k aa);obtain⟨b,o,A',k',e',dC,c1,hM⟩:=(HS.out.keep st.out.below).at_ k aa;have cV:=iH.out _ (Le aa);have HC:=zH (dr.out A' k' (a.sts[k]'aa) cV);have On:=zH (hM.more st.out.below.size);obtain⟨L,hL⟩:=Kh (a.sts[k]);rw[hL] at c1 cV HC On aF aB;obtain⟨ev,cm⟩:=Kh (xg a L);rw[cm] at HC aF aB;subst e';clear hM hL cm g1 g2 g3 dr HI iH sM;go_wp2_with fail;refine(HC.out _ On.out).mono ?_;rintro e w4 ⟨rfl,hb⟩;have H4:=zH (st.out.on hb mY);have fW:w.heap.size+2<=w4.heap.size:=by have:=hb.size;omega
   obtain⟨q0,q1,_⟩:=Ka H4.out.b0;have p0:=za H4.out.b1 0 rfl;have f0:=zb H4.out.b1 0;clear hb HC
   by_cases he:ev=0
   . subst he
     have hR:=zH (ag.out.trans (aB.out (by simp)));clear aF aB ag;go_wp2_with fail
     go_roundw
     case rel=>exact⟨k+1,by omega,by go_num,hR,H4,fW⟩
     simp[Ao];omega
   have nv:=ag.out.trans (aF.out he);have hR:=zH ((G3.out (by rw[nv];exact he)).trans nv);have e0:(ev != 0)=Ar:=by simpa using he
   clear aF aB ag G3 G4 nv he;go_wp2_with fail;refine yv (B:=w.heap.size) (Marks.nil _ _) ?_;intro W hX;have hI:=H4.out.set ev;have c1:=hI.cell hX;refine⟨O U ev,?_,zc hR.out.symm,hI.below.trans hX.below⟩;clear hX hR hI;simp[results,results78,go_sem,c1]
 obtain rfl:k=a.sts.length:=by omega
 have sz:F=0:=ag.out.trans (g3.out _ rfl);have hR:=zH (G4.out sz);have HZ:=zH (sM.out sz);clear G3 G4 ag g1 g2 g3 dr sM sz;go_wp2_with fail;refine(vp a.n (I SV a.sts.length ks) wr).mono ?_;rintro e W ⟨rfl,hW⟩;have bb:=ze wr (Ag #[O U a.n,I SV a.sts.length ks] 27);have bG:Am wr.heap.size wr W:=by rw[<-hW];exact zw _ _
 have aW:wr.heap.size<W.heap.size:=by rw[<-hW];simp
 rw[hW] at bb;have HW:=zH (st.out.on bG mY);have ib:=zH (HI.out wr.heap.size W bb (HS.out.keep HW.out.below) (by omega));clear hW bb bG HI q0 q1 p0 f0;go_wp2_with fail
 refine gG rfl (Pg RG (by kernel_rfl) rfl) ib.out (by rintro k (h | rfl)<;>omega) (fun _=>rfl)
  (fun (pre:List { x:Int×Mv // x∈zp 0 a.sts }) X=>RsIn w.heap.size #[O U a.n,I SV a.sts.length ks] 27 0 w X/\(∀x∈pre,((a.at_ x.1.2.to).all fun k=>xY x.1.2 k)=Ar)/\W.heap.size<=X.heap.size)
  (fun c _ W=>c=.ret/\RsIn w.heap.size #[O U a.n,I SV a.sts.length ks] 27 21 w W/\yC a=As)
  (fun _ _ _ _ h hg hr=>⟨h.1.turn hg (fun r e=>⟨by have:=(hr r e).1;omega,(hr r e).2⟩),h.2.1,LE h.2.2 hg.size⟩) (fun _ _ _ _ _ ⟨h1,h2,h3⟩ hg hr=>⟨h1,h2.turn hg (fun r e=>⟨by have:=(hr r e).1;omega,(hr r e).2⟩),h3⟩)
  ⟨HW.out,(fun x hx=>by cases hx),Lh _⟩ (fun x=>x.2.cells) 121 ?a1 ?assign ?body ?done ?stop (fun _ _ h=>h.2.2)
 case assign=>
  intro l pre x X K hI hK;obtain⟨g,hg⟩:∃g,g=X.heap.size:=⟨_,rfl⟩;have HK:=zH (hK g hg ⟨hI.1.on (zw X _) (zd hI.1.b1),hI.2.1,by have:=hI.2.2;simp;omega⟩);have HG:=zH hg;unfold Mv.cells at HK ⊢;dsimp only at HK ⊢;clear hK hg hI;gi_wp2;rw[<-HG.out];exact HK.out
 case body=>
  intro l pre x g W1 hg ep hI aa;obtain⟨dY,oL,dX⟩:=hI;obtain⟨z1,z2,z3,z4⟩:=HZ.out x.1.2 (ZI x.2);obtain⟨m,hm⟩:=Kh x.1.2;have HM:=zH hm;rw[hm] at z1 z2 z3 z4 ep;obtain⟨f1,CB,EQ⟩:=yX z1;obtain⟨t,et⟩:=Lq z3;have fC:t<a.sts.length:=by omega
  have bn:a.at_ m.to=a.sts[t]:=by unfold Ad.at_;rw[et,Lu,Lg,Lj fC];rfl
  obtain⟨b,o,A',k',e',dC,c1,sw⟩:=(HS.out.keep dY.below).at_ t fC;have cV:=iH.out _ (Le fC);have Oo:Ap (∀y∈a.sts[t],zJ y.r=0):=fun y hy=>(HZ.out y (Nu.2 ⟨_,Le fC,hy⟩)).1
  obtain⟨L,hL⟩:=Kh (a.sts[t]);rw[hL] at c1 sw cV Oo bn;have nI:=zH bn;have mL:=zH dY;have mK:=zH oL;have EA:=zH ep;have oZ:=zH (sw.more dY.below.size);obtain⟨q0,q1,_⟩:=Ka dY.b0;have u7:=za ep 7 (u:=O U m.to) rfl;have u6:=za ep 6 (u:=O U m.r.f) rfl;rw[et] at u7;have cI:=zd ep;have ay:=zd dY.b1;have aA:=zH CB;subst e';clear hm z1 z2 z3 z4 et CB bn hL sw dY oL ep aa;gi_wp2_with fail
  gi_loopw [49] (fun i wr=>∃j:Nat,j<=L.length/\i=O U (j:Int)/\Ap (∀k (h:k<L.length),k<j->xY m L[k]=Ar)/\Ap (Am W1.heap.size W1 wr)) (fun i _=>L.length-(Ao i).toNat)
  case atStart=>exact⟨0,by omega,rfl,(fun k h h0=>by omega),Ln _ _⟩
  obtain⟨j,hj,rfl,DI,aD⟩:=hrel;clear q0 q1 u6 u7 c1
  by_cases bf:j<L.length
  . obtain⟨b2,o2,rfl,ae,m0,m1,m2,m3,m4,m5,m6,m7⟩:=(oZ.out.keep aD.out).row j bf
    obtain⟨f2,oQ,EP⟩:=yX (Oo.out _ (Le bf));have mp:xY m L[j]=decide (f1 &&& f2=f1):=by unfold xY;rw[aA.out,oQ,Lu,Lu];rw[NH];simp
    have bS:L[j]∈L:=Le bf;obtain⟨y,hy⟩:=Kh (L[j]);have M7:=zH hy;rw[hy] at m0 m1 m2 m3 m4 m5 m6 m7 mp oQ bS;have OG:=zH oQ;have nk:=(aD.out.block g cI).trans EA.out;have u6:=za nk 6 (u:=O U m.r.f) rfl;have oJ:=mL.out.on aD.out (by omega);have p0:=za oJ.b1 0 rfl;have f0:=zb oJ.b1 0;have tz:=zd nk;have bu:=zd oJ.b1;have NZ:=zH oJ;have sY:=zH mp;rw[oQ] at m6;rw[aA.out] at u6;have DU:=zH (@ut f2 f1 EP EQ);clear hy oQ nk oJ mp bS
    by_cases hk:f1 &&& f2=f1
    . have hz:=DU.out.2 hk
      have DH:Ap (xY m y=Ar):=sY.out.trans (Lo hk);clear DU sY hk;gi_wp2_with fail
      go_roundw
      case rel=>
       refine⟨j+1,by omega,by go_num,fun k h h1=>?_,?_⟩
       . by_cases e:k=j
         . subst e;rw[M7.out];exact DH.out
         exact DI.out k h (by omega)
       exact aD.out.alloc aD.out.size _
      simp[Ao];omega
    have hz:¬(bits BinOp.andNot U (f1:Int) (f2:Int)=0):=fun h=>hk (DU.out.1 h)
    have e0:(bits BinOp.andNot U (f1:Int) (f2:Int) != 0)=Ar:=by simpa using hz
    have BN:Ap (yC a=As):=by
     unfold yC Ap;rw[List.all_eq_false];refine⟨m,by rw[<-HM.out];exact ZI x.2,?_⟩;rw[nI.out];intro ai;have h1:=Lz.1 ai y (by rw[<-M7.out];exact Le bf);rw[sY.out,Lr hk] at h1
     cases h1
    clear DU sY hk hz;gi_wp2_with fail;have cr:=NZ.out.set 21;refine⟨((xX aD.out).trans (NZ.out.keeps 21)).trans (xX (zw _ _)),rfl,cr.on (zw _ _) (zd cr.b1),BN.out⟩
  obtain rfl:j=L.length:=by omega
  gi_wp2_with fail;refine⟨xX aD.out,KeepB.of_below aD.out (by rintro k (h | rfl)<;>omega),mL.out.on aD.out (by omega),?_,LE dX aD.out.size⟩;intro y hy;rcases LM.1 hy with hy | hy
  . exact mK.out y hy
  simp only[List.mem_singleton] at hy;subst hy;rw[HM.out,nI.out,Lz];intro z hz;obtain⟨k,hk,rfl⟩:=NB.1 hz;exact DI.out k hk hk
 case done=>
  intro D ys W1 hD dv hI dD
  have cC:yC a=Ar:=by
   unfold yC;rw[Lz];intro m hm;have fX:m∈(zp 0 a.sts).map Prod.snd:=by rw[qr];exact hm
   obtain⟨x,hx,rfl⟩:=LZ.1 fX;rw[<-dv] at hx;obtain⟨y,hy,rfl⟩:=LZ.1 hx;exact hI.2.1 y hy
  have hE:=zH (hR.out.trans (Lm cC));have HI:=zH hI.1;have p0:=za HI.out.b1 0 rfl;have f0:=zb HI.out.b1 0;have HD:=zH dD;clear hI dv cC dD hR ib HW;go_wp2_with fail;refine yv (B:=w.heap.size) (qK (by omega) ((HI.out.keeps (D:=D) 0).same D _ (Lh _) HD.out rfl)) ?_;intro X hX;have hI:=HI.out.set 0;have c1:=hI.cell hX;refine⟨O U 0,?_,zc hE.out.symm,hI.below.trans hX.below⟩;simp[results,results78,go_sem,c1]
 intro D c pre W1 hD Fp hI dD;obtain⟨rfl,hI,cC⟩:=hI;have hE:=zH (hR.out.trans (Lk (by rw[cC];decide)));have HI:=zH hI;have HD:=zH dD;clear hI cC dD hR ib HW Fp;go_wp2_with fail;refine yv (B:=w.heap.size) (qK (by omega) HD.out) ?_;intro X hX;have c1:=HI.out.cell hX;refine⟨O U 21,?_,zc hE.out.symm,HI.out.below.trans hX.below⟩;clear hX hE;simp[results,results78,go_sem,c1]
end
section
open Go.RowKit
attribute [local go_sem] Oper.semAt_some
def Pb.vs(p:Pb)(A:Bb)(kc:Nat)(SV:Bb)(ks:Nat):Array Aq:=#[O U p.t.n,O U p.t.ins,O U p.t.outs,I A p.t.cases.length kc,O U p.a.n,I SV p.a.sts.length ks,O U p.k]
theorem jq{p:Pb}(h:yz p.t≠0):zD p=yz p.t:=Lm h
theorem vi{p:Pb}(h:yz p.t=0)(h2:xO p.a≠0):zD p=xO p.a:=by unfold zD;rw[Lk (by simpa using h),Lm h2]
theorem ZC{p:Pb}(h:yz p.t=0)(h2:xO p.a=0)(h3:p.t.n≠p.a.n):zD p=22:=by unfold zD;rw[Lk (by simpa using h),Lk (by simpa using h2),Lm h3]
theorem ZD{p:Pb}(h:yz p.t=0)(h2:xO p.a=0)(h3:p.t.n=p.a.n)(h4:p.k<0\/6<p.k):zD p=2:=by unfold zD;rw[Lk (by simpa using h),Lk (by simpa using h2),Lk (by simpa using h3),Lm h4]
theorem Yv{p:Pb}(h:yz p.t=0)(h2:xO p.a=0)(h3:p.t.n=p.a.n)(h4:¬(p.k<0\/6<p.k)):zD p=0:=by unfold zD;rw[Lk (by simpa using h),Lk (by simpa using h2),Lk (by simpa using h3),Lk h4]
def Z0(p:Pb):Prop:=FewT p.t/\FewA p.a
theorem XP(p:Pb)(hf:Z0 p)(A:Bb)(kc:Nat)(SV:Bb)(ks:Nat)(w:Ba)(hA:CAt w w.heap.size A p.t.cases)(hS:SAt w w.heap.size SV p.a.sts) :
  An Al 43 #[.agg (p.vs A kc SV ks)] w fun e w'=>e=Ak (O U (zD p))/\Am w.heap.size w w':=by
 have HT:=zH (fun (w':Ba) (h:CAt w' w'.heap.size A p.t.cases)=>Xn p.t A kc hf.1 w' h);have HD:=zH (fun (w':Ba) (h:SAt w' w'.heap.size SV p.a.sts)=>wY p.a hf.2 SV ks w' h);have aA:=zH (@jq p);have al:=zH (@vi p);have az:=zH (@ZC p);have cq:=zH (@ZD p);have ey:=zH (@Yv p);obtain⟨E,hE⟩:=Kh (zD p);rw[hE] at aA al az cq ey ⊢;obtain⟨tE,Fi⟩:=Kh (yz p.t);rw[Fi] at aA al az cq ey HT;obtain⟨aE,Gm⟩:=Kh (xO p.a);rw[Gm] at al az cq ey HD;unfold Pb.vs;obtain⟨w1,af⟩:=Kh (w.alloc (Ag (p.vs A kc SV ks) 29));have aL:=ze w (Ag (p.vs A kc SV ks) 29);have an:Am w.heap.size w w1:=by rw[<-af];exact zw w _
 have cj:w1.heap.size=w.heap.size+1:=by rw[<-af];simp
 rw[af] at aL;unfold Pb.vs at af aL;have bL:=zH aL;have aV:=zH an;have HA:=zH ((hA.keep an).more (by omega:w.heap.size<=w1.heap.size));have HS:=zH ((hS.keep an).more (by omega:w.heap.size<=w1.heap.size));have au:=zH af;have q0:=za aL 0 rfl;clear hA hS af an aL;go_enter func43,ntmps43;go_wp2_with fail;rw[au.out];go_wp2_with fail;refine(HT.out w1 HA.out).mono ?_;rintro e w2 ⟨rfl,ae⟩;have B2:=zH (aV.out.trans (ae.mono (by omega)));have d':=zH ((HS.out.keep ae).more ae.size);have aQ:=La ae bL.out;have aN:=zH aQ;have dk:=ae.size;have q4:=za aQ 4 rfl;have q5:=za aQ 5 rfl
 by_cases h1:tE=0
 case neg=>
  have hR:=zH (aA.out h1);go_wp2_with fail;go_ret;exact⟨zc hR.out.symm,B2.out⟩
 case pos=>
 subst h1;have F2:=zH (al.out (by simp));have F3:=zH (az.out (by simp));have F4:=zH (cq.out (by simp));have F5:=zH (ey.out (by simp));go_wp2_with fail;refine(HD.out w2 d'.out).mono ?_;rintro e w3 ⟨rfl,ak⟩;have B3:=zH (B2.out.trans (ak.mono (by omega)));have aQ:=La ak aN.out;have q0:=za aQ 0 rfl;have q4:=za aQ 4 rfl;have q6:=za aQ 6 rfl;clear ak aQ HD q5
 by_cases h2:aE=0
 case neg=>
  have hR:=zH (F2.out h2);have e0:(aE != 0)=Ar:=by simpa using h2
  clear F2 F3 F4 F5 h2;go_wp2_with fail;go_ret;exact⟨zc hR.out.symm,B3.out⟩
 case pos=>
 subst h2;clear F2;have G3:=zH (F3.out (by simp));have G4:=zH (F4.out (by simp));have G5:=zH (F5.out (by simp));clear F3 F4 F5
 by_cases h3:p.t.n=p.a.n
 case neg=>
  have hR:=zH (G3.out h3);have e0:(p.t.n != p.a.n)=Ar:=by simpa using h3
  clear G3 G4 G5;go_wp2_with fail
  all_goals
   go_ret;exact⟨zc hR.out.symm,B3.out⟩
 case pos=>
 have K4:=zH (G4.out h3);have K5:=zH (G5.out h3);rw[h3] at q0
 by_cases h4:p.k<0\/6<p.k
 . have hR:=zH (K4.out h4)
   by_cases h5:p.k<0
   . clear h4
     go_wp2_with fail
     all_goals first | (exfalso;omega) | skip
     go_ret;exact⟨zc hR.out.symm,B3.out⟩
   have h6:6<p.k:=by omega
   go_wp2_with fail
   all_goals first | (exfalso;omega) | skip
   go_ret;exact⟨zc hR.out.symm,B3.out⟩
 have hR:=zH (K5.out h4);have h5:¬p.k<0:=by omega
 have h6:¬6<p.k:=by omega
 go_wp2_with fail
 all_goals first | (exfalso;omega) | skip
 go_ret;exact⟨zc hR.out.symm,B3.out⟩
theorem vW(p:Pb)(hf:Z0 p)(A:Bb)(kc:Nat)(SV:Bb)(ks:Nat)(w:Ba)(hA:CAt w w.heap.size A p.t.cases)(hS:SAt w w.heap.size SV p.a.sts) :
  An Al 93 #[.agg (p.vs A kc SV ks)] w fun e w'=>e=Ak (O U (zD p))/\Am w.heap.size w w':=by
 have HT:=zH (fun (w':Ba) (h:CAt w' w'.heap.size A p.t.cases)=>Yd p.t A kc hf.1 w' h);have HD:=zH (fun (w':Ba) (h:SAt w' w'.heap.size SV p.a.sts)=>Yp p.a hf.2 SV ks w' h);have aA:=zH (@jq p);have al:=zH (@vi p);have az:=zH (@ZC p);have cq:=zH (@ZD p);have ey:=zH (@Yv p);obtain⟨E,hE⟩:=Kh (zD p);rw[hE] at aA al az cq ey ⊢;obtain⟨tE,Fi⟩:=Kh (yz p.t);rw[Fi] at aA al az cq ey HT;obtain⟨aE,Gm⟩:=Kh (xO p.a);rw[Gm] at al az cq ey HD;unfold Pb.vs;obtain⟨w1,af⟩:=Kh (w.alloc (Ag (p.vs A kc SV ks) 29));have aL:=ze w (Ag (p.vs A kc SV ks) 29);have an:Am w.heap.size w w1:=by rw[<-af];exact zw w _
 have cj:w1.heap.size=w.heap.size+1:=by rw[<-af];simp
 rw[af] at aL;unfold Pb.vs at af aL;have bL:=zH aL;have aV:=zH an;have HA:=zH ((hA.keep an).more (by omega:w.heap.size<=w1.heap.size));have HS:=zH ((hS.keep an).more (by omega:w.heap.size<=w1.heap.size));have au:=zH af;have q0:=za aL 0 rfl;clear hA hS af an aL;go_enter func93,ntmps93;go_wp2_with fail;rw[au.out];go_wp2_with fail;refine(HT.out w1 HA.out).mono ?_;rintro e w2 ⟨rfl,ae⟩;have B2:=zH (aV.out.trans (ae.mono (by omega)));have d':=zH ((HS.out.keep ae).more ae.size);have aQ:=La ae bL.out;have aN:=zH aQ;have dk:=ae.size;have q4:=za aQ 4 rfl;have q5:=za aQ 5 rfl
 by_cases h1:tE=0
 case neg=>
  have hR:=zH (aA.out h1);go_wp2_with fail;go_ret;exact⟨zc hR.out.symm,B2.out⟩
 case pos=>
 subst h1;have F2:=zH (al.out (by simp));have F3:=zH (az.out (by simp));have F4:=zH (cq.out (by simp));have F5:=zH (ey.out (by simp));go_wp2_with fail;refine(HD.out w2 d'.out).mono ?_;rintro e w3 ⟨rfl,ak⟩;have B3:=zH (B2.out.trans (ak.mono (by omega)));have aQ:=La ak aN.out;have q0:=za aQ 0 rfl;have q4:=za aQ 4 rfl;have q6:=za aQ 6 rfl;clear ak aQ HD q5
 by_cases h2:aE=0
 case neg=>
  have hR:=zH (F2.out h2);have e0:(aE != 0)=Ar:=by simpa using h2
  clear F2 F3 F4 F5 h2;go_wp2_with fail;go_ret;exact⟨zc hR.out.symm,B3.out⟩
 case pos=>
 subst h2;clear F2;have G3:=zH (F3.out (by simp));have G4:=zH (F4.out (by simp));have G5:=zH (F5.out (by simp));clear F3 F4 F5
 by_cases h3:p.t.n=p.a.n
 case neg=>
  have hR:=zH (G3.out h3);have e0:(p.t.n != p.a.n)=Ar:=by simpa using h3
  clear G3 G4 G5;go_wp2_with fail
  all_goals
   go_ret;exact⟨zc hR.out.symm,B3.out⟩
 case pos=>
 have K4:=zH (G4.out h3);have K5:=zH (G5.out h3);rw[h3] at q0
 by_cases h4:p.k<0\/6<p.k
 . have hR:=zH (K4.out h4)
   by_cases h5:p.k<0
   . clear h4
     go_wp2_with fail
     all_goals first | (exfalso;omega) | skip
     go_ret;exact⟨zc hR.out.symm,B3.out⟩
   have h6:6<p.k:=by omega
   go_wp2_with fail
   all_goals first | (exfalso;omega) | skip
   go_ret;exact⟨zc hR.out.symm,B3.out⟩
 have hR:=zH (K5.out h4);have h5:¬p.k<0:=by omega
 have h6:¬6<p.k:=by omega
 go_wp2_with fail
 all_goals first | (exfalso;omega) | skip
 go_ret;exact⟨zc hR.out.symm,B3.out⟩
def gC(p:Pb):Prop:=LowT p.t/\LowA p.a
theorem pb_eq{a b:Pb}(h1:a.t=b.t)(h2:a.a=b.a)(h3:a.k=b.k):a=b:=by cases a;cases b;simp_all
theorem Xy(a b:Pb)(ha:gC a)(hb:gC b)(A B SA SB:Bb)(ca cb sa sb:Nat)(w:Ba)(hA:CAt w w.heap.size A a.t.cases)(hB:CAt w w.heap.size B b.t.cases)(so:SAt w w.heap.size SA a.a.sts)(Mu:SAt w w.heap.size SB b.a.sts) :
  An Al 96 #[.agg (a.vs A ca SA sa),.agg (b.vs B cb SB sb)] w fun e w'=>e=Ak (Ah (decide (a=b)))/\Am w.heap.size w w':=by
 obtain⟨w1,af,d0,d1,aW,bE⟩:=yx w (a.vs A ca SA sa) (b.vs B cb SB sb) 29 29;have iY:=zH (Xw a.t b.t ha.1 hb.1 A B ca cb w1 ((hA.keep bE).more bE.size) ((hB.keep bE).more bE.size));have Iw:=zH (fun (W:Ba) (hW:Am w1.heap.size w1 W)=>Xz a.a b.a ha.2 hb.2 SA SB sa sb W ((((so.keep bE).more bE.size).keep hW).more hW.size) ((((Mu.keep bE).more bE.size).keep hW).more hW.size));unfold Pb.vs at af d0 d1 ⊢;have aT:=zH bE;have aX:=zH d0;have bH:=zH d1;have au:=zH af;have q2:=za d1 2 rfl;have q3:=za d1 3 rfl;have q6:=za d1 6 rfl;clear af d0 d1 bE hA hB so Mu ha hb;have HT:Ap (a≠b->decide (a=b)=As):=fun h=>Lr h
 have HU:Ap (a=b->decide (a=b)=Ar):=fun h=>Lo h
 obtain⟨r,hr⟩:∃r,decide (a=b)=r:=⟨_,rfl⟩;rw[hr] at HT HU ⊢;clear hr;have HE:=zH (@pb_eq a b);go_enter func96,ntmps96
 by_cases h1:a.k=b.k
 case neg=>
  have hR:=zH (HT.out (fun h=>h1 (congrArg Pb.k h)));have e0:(a.k==b.k)=As:=by simpa using h1
  clear HT HU HE h1 iY Iw;go_wp2_with fail;rw[au.out];go_wp2_with fail
  all_goals
   go_ret;exact⟨zg hR.out.symm,aT.out⟩
 case pos=>
 have e0:(a.k==b.k)=Ar:=by simpa using h1
 have al:Ap (a.t=b.t->a.a=b.a->a=b):=fun x y=>HE.out x y h1
 clear HE h1;have h1:=iY
 by_cases h2:a.t=b.t
 case neg=>
  have hR:=zH (HT.out (fun h=>h2 (congrArg Pb.t h)));rw[Lr h2] at h1;clear HT HU al h2 iY Iw;go_wp2_with fail;rw[au.out];go_wp2_with fail;refine h1.out.mono ?_;rintro e w2 ⟨rfl,ae⟩;go_wp2_with fail;go_ret;exact⟨zg hR.out.symm,Lc aT.out ae⟩
 case pos=>
 rw[Lo h2] at h1;have az:Ap (a.a=b.a->a=b):=fun y=>al.out h2 y
 clear al iY h2;go_wp2_with fail;rw[au.out];go_wp2_with fail;refine h1.out.mono ?_;rintro e w2 ⟨rfl,ae⟩;have d0:=La ae aX.out;have d1:=La ae bH.out;have p4:=za d0 4 rfl;have p5:=za d0 5 rfl;have q4:=za d1 4 rfl;have q5:=za d1 5 rfl;have HC:=zH (Iw.out w2 ae);have aN:=zH (Lc aT.out ae);go_wp2_with fail;refine HC.out.mono ?_;rintro e w3 ⟨rfl,ak⟩;have cx:=zH (Lc aN.out ak)
 have hR:Ap (decide (a.a=b.a)=r):=by
  by_cases h3:a.a=b.a
  . show _=_;rw[Lo h3,HU.out (az.out h3)]
  show _=_;rw[Lr h3,HT.out (fun h=>h3 (congrArg Pb.a h))]
 go_wp2_with fail;go_ret;exact⟨zg hR.out,cx.out⟩
def LowX(x:Exn):Prop:=x.word.length<=17592186044416/\x.views.length<=17592186044416/\∀v∈x.views,v.length<=17592186044416
theorem exn_eq{x y:Exn}(h1:x.c=y.c)(h2:x.word=y.word)(h3:x.views=y.views):x=y:=by cases x;cases y;simp_all
theorem Xv(x y:Exn)(hx:LowX x)(hy:LowX y)(A1 A2 B1 B2:Bb)(a1 a2 b1 b2:Nat)(w:Ba)(mC:RAt w w.heap.size A1 x.word)(MM:LAt w w.heap.size A2 x.views)(ay:RAt w w.heap.size B1 y.word)(bG:LAt w w.heap.size B2 y.views) :
  An Al 98 #[Ai #[O U x.c,I A1 x.word.length a1,I A2 x.views.length a2],Ai #[O U y.c,I B1 y.word.length b1,I B2 y.views.length b2]] w fun e w'=>e=Ak (Ah (decide (x=y)))/\Am w.heap.size w w':=by
 obtain⟨lX,Dw,Kq⟩:=hx;obtain⟨Rm,E3,Kn⟩:=hy;have sK:=zH Kq;have oR:=zH Kn;obtain⟨w1,af,d0,d1,aW,hB⟩:=yx w #[O U x.c,I A1 x.word.length a1,I A2 x.views.length a2] #[O U y.c,I B1 y.word.length b1,I B2 y.views.length b2] 42 42;have HS:=zH (uv A1 B1 a1 b1 x.word y.word lX Rm w1 ((mC.keep hB).more hB.size) ((ay.keep hB).more hB.size));have tY:=zH ((MM.keep hB).more hB.size);have Ib:=zH ((bG.keep hB).more hB.size);have aT:=zH hB;have aX:=zH d0;have bH:=zH d1;have au:=zH af;have p0:=za d0 0 rfl;have p2:=za d0 2 rfl;have q1:=za d1 1 rfl;have q2:=za d1 2 rfl;clear af d0 d1 hB mC MM ay bG Kq Kn;have HT:Ap (x≠y->decide (x=y)=As):=fun h=>Lr h
 have HU:Ap (x=y->decide (x=y)=Ar):=fun h=>Lo h
 obtain⟨r,hr⟩:∃r,decide (x=y)=r:=⟨_,rfl⟩;rw[hr] at HT HU ⊢;clear hr;go_enter func98,ntmps98
 by_cases h1:x.c=y.c
 case neg=>
  have hR:=zH (HT.out (fun h=>h1 (congrArg Exn.c h)));have e0:(x.c != y.c)=Ar:=by simpa using h1
  clear HT HU HS;go_wp2_with fail;rw[au.out];go_wp2_with fail
  all_goals
   go_ret;exact⟨zg hR.out.symm,aT.out⟩
 case pos=>
 have H1:=zH h1;rw[h1] at p0 au aX;clear h1;go_wp2_with fail;rw[au.out];go_wp2_with fail;refine HS.out.mono ?_;rintro e w2 ⟨rfl,m,ch⟩;have ae:Am w1.heap.size w1 w2:=by rw[ch];exact zF (Ln _ _) m
 have aN:=zH ae;have p2:=za (La ae aX.out) 2 rfl;have q2:=za (La ae bH.out) 2 rfl;clear ae ch HS au q1 p0
 by_cases h2:x.word=y.word
 case neg=>
  have hR:=zH (HT.out (fun h=>h2 (congrArg Exn.word h)));rw[Lr h2];clear HT HU;go_wp2_with fail;go_ret;exact⟨zg hR.out.symm,Lc aT.out aN.out⟩
 case pos=>
 have H2:=zH h2;rw[Lo h2];clear h2
 by_cases h3:x.views.length=y.views.length
 case neg=>
  have hR:=zH (HT.out (fun h=>h3 (by rw[h])));have e0:((x.views.length:Int) != (y.views.length:Int))=Ar:=by simp;omega
  have e1:¬((x.views.length:Int)=(y.views.length:Int)):=by omega
  clear HT HU h3;go_wp2_with fail;go_ret;exact⟨zg hR.out.symm,Lc aT.out aN.out⟩
 case pos=>
 have HL:=zH h3;have H3:Ap (x.views=y.views->r=Ar):=fun h=>HU.out (exn_eq H1.out H2.out h)
 have H4:Ap (x.views≠y.views->r=As):=fun h=>HT.out (fun e=>h (congrArg Exn.views e))
 rw[<-h3] at q2 E3;clear HT HU h3;go_wp2_with fail;clear p2 q2
 go_loopw [5] (fun i wr=>∃k:Nat,k<=x.views.length/\i=O U (k:Int)/\Ap (x.views.take k=y.views.take k)/\Ap (Am w1.heap.size w1 wr)) (fun i _=>x.views.length-(Ao i).toNat)
 case atStart=>exact⟨0,by omega,rfl,by rw[Ap,LQ,LQ],aN⟩
 obtain⟨k,hk,rfl,hp,hb⟩:=hrel;have p2:=za (La hb.out aX.out) 2 rfl;have q2:=za (La hb.out bH.out) 2 rfl;have Ic:=HL.out;rw[<-HL.out] at q2
 by_cases aa:k<x.views.length
 case neg=>
  obtain rfl:k=x.views.length:=by omega
  have hR:=zH (H3.out (xQ HL.out hp.out));go_wp2_with fail;go_ret;exact⟨zg hR.out.symm,Lc aT.out hb.out⟩
 case pos=>
 have dm:k<y.views.length:=by omega
 obtain⟨ba,oa,A',k1,ea,_,a0,IA⟩:=(tY.out.keep hb.out).at_ k aa;obtain⟨bb,ob,B',k2,eb,_,b0,IB⟩:=(Ib.out.keep hb.out).at_ k dm;subst ea;subst eb;have dd:=sK.out _ (Le aa);have dR:=oR.out _ (Le dm);have hc:=fun (p:Nat)=>gg A' B' k1 k2 x.views[k] y.views[k] dd dR (wr.drewN p) (IA.more hb.out.size) (IB.more hb.out.size)
 have h0:Ap (x.views[k]=y.views[k]->x.views.take (k+1)=y.views.take (k+1)):=fun he=>xp hp.out aa dm he
 have hN:Ap (x.views[k]≠y.views[k]->r=As):=fun he=>H4.out (fun h=>he (by simp only[h]))
 by_cases he:x.views[k]=y.views[k]
 . have hR:=zH (h0.out he)
   rw[Lo he] at hc;obtain⟨la,rJ⟩:=Kh (x.views[k].length);obtain⟨lb,ni⟩:=Kh (y.views[k].length);rw[rJ] at a0 hc dd;rw[ni] at b0 hc dR;have HC:=zH hc;go_wp2_with fail;go_quiet ((go_at_call 130;first | exact zO (HC.out _) | exact Nl (HC.out _)));go_wp2_with fail
   go_roundw
   case rel=>exact⟨k+1,by omega,by go_num,hR,zF hb.out _⟩
   simp[Ao];omega
 have hR:=zH (hN.out he);rw[Lr he] at hc;obtain⟨la,rJ⟩:=Kh (x.views[k].length);obtain⟨lb,ni⟩:=Kh (y.views[k].length);rw[rJ] at a0 hc dd;rw[ni] at b0 hc dR;have HC:=zH hc;go_wp2_with fail;go_quiet ((go_at_call 130;first | exact zO (HC.out _) | exact Nl (HC.out _)));go_wp2_with fail;go_ret;exact⟨zg hR.out.symm,zF (Lc aT.out hb.out) _⟩
end
section
def yI(f:Nat->Int):Nat->Int
 | 0=>0
 | k+1=>if yI f k=0 then f k else yI f k
theorem kO{f:Nat->Int}{k:Nat}(h:yI f k=0):yI f (k+1)=f k:=by simp[yI,h]
theorem J7{f:Nat->Int}{k:Nat}(h:yI f k≠0):∀m,k<=m->yI f m=yI f k:=by
 intro m hm
 induction m with
 | zero => obtain rfl : k = 0 := by omega
           rfl
 | succ m ih=>
  by_cases e:k=m+1
  . subst e;rfl
  . have:=ih (by omega)
    simp only[yI];rw[Lk (by rw[this];exact h),this]
theorem kz{f:Nat->Int}{k m:Nat}(h:yI f k=0)(hf:f k≠0)(hm:k<m):yI f m=f k:=by
 have h1:=kO h;rw[J7 (k:=k+1) (by rw[h1];exact hf) m (by omega),h1]
theorem xK{f:Nat->Int}:∀ {m:Nat},yI f m=0↔∀k,k<m->f k=0
 | 0=>by simp[yI]
 | m+1=>by
  have ih:=xK (f:=f) (m:=m);simp only[yI];constructor
  . intro h k hk
    by_cases e:yI f m=0
    . rw[Lm e] at h
      by_cases ek:k=m
      . subst ek;exact h
      . exact ih.1 e k (by omega)
    . rw[Lk e] at h;exact absurd h e
  . intro h
    have e:yI f m=0:=ih.2 fun k hk=>h k (by omega)
    rw[Lm e];exact h m (by omega)
def yc(vs:List Vw)(i:Nat):Vw:=vs.getD i default
theorem qt{vs:List Vw}{i:Nat}(h:i<vs.length):yc vs i=vs[i]:=by simp[yc,h]
theorem Za{vs:List Vw}{i k:Nat}(h:i<k):yc (vs.take k) i=yc vs i:=by
 unfold yc;rw[Lg,Lg,Pc,Lm h]
def qY(n:Int)(v:Vw)(q:Nat):Bool:=decide (v.h q≠-1/\(v.r=0\/n<=(q:Int)))
def xm(n:Int)(v:Vw):Bool:=decide (v.p<0\/n<=v.p\/v.r<0\/6<v.r\/(v.r=0/\(v.i<0\/8<=v.i)))
def xb(n:Int)(v:Vw):Int:=
 if xm n v=Ar then 2 else if 0<v.r/\v.i≠0 then 3 else if (List.range 5).any (qY n v)=Ar then 3 else 0
def yn(vs:List Vw)(v:Vw)(q:Nat):Int:=
 if v.h q=-1 then 0 else if v.h q<0\/(vs.length:Int)<=v.h q then 6
 else if (yc vs (v.h q).toNat).p≠(q:Int)\/(yc vs (v.h q).toNat).r≠v.r-1 then 22 else 0
def yK(v:Vw):List Nat:=(yL v).map fun x=>x.2.toNat
theorem qI{v:Vw}{c:Nat}:c∈yK v↔0<v.r/\∃q:Nat,q<5/\0<=v.h q/\c=(v.h q).toNat:=by
 unfold yK;rw[LZ];constructor
 . rintro⟨x,hx,rfl⟩
   obtain⟨hr,q,hq,rfl,h0⟩:=qT.1 hx;exact⟨hr,q,hq,h0,rfl⟩
 rintro⟨hr,q,hq,h0,rfl⟩;exact⟨_,qT.2 ⟨hr,q,hq,rfl,h0⟩,rfl⟩
def qj(vs:List Vw):Nat->Nat->Nat->Bool
 | 0,i,x=>x==i
 | f+1,i,x=>x==i||(yK (yc vs i)).any fun c=>qj vs f c x
def qE(vs:List Vw)(i x:Nat):Bool:=qj vs vs.length i x
def yE(vs:List Vw)(l:List Nat):List Nat:=(List.range vs.length).filter fun x=>l.any fun c=>qE vs c x
def uk(vs:List Vw)(a b:Nat):Bool:=decide ((yc vs a).p=(yc vs b).p/\(yc vs a).r=(yc vs b).r)
def kG(vs:List Vw):List Nat->Bool
 | []=>Ar
 | a::l=>(l.all fun b=>!uk vs a b)&&kG vs l
def zW(n:Int)(vs:List Vw)(v:Vw):Int:=
 if xb n v≠0\/v.r=0 then xb n v
 else if yI (yn vs v) 5≠0 then yI (yn vs v) 5
 else if v.h v.p.toNat=-1 then 20
 else if kG vs (yE vs (yK v))=Ar then 0 else 22
def jL(n:Int)(vs:List Vw)(k:Nat):Int:=
 if zW n (vs.take k) (yc vs k)≠0 then zW n (vs.take k) (yc vs k) else if yc vs k∈vs.take k then 7 else 0
def yl(n:Int)(vs:List Vw):Int:=if n<1\/5<n then 1 else if 8192<vs.length then 5 else yI (jL n vs) vs.length
def gD(vs:List Vw):Prop:=∀i,i<vs.length->∀c,c∈yK (yc vs i)->c<i
def Wf(n:Int)(vs:List Vw):Prop:=1<=n/\n<=5/\∀k,k<vs.length->jL n vs k=0
theorem Jb{n:Int}{v:Vw}(h:xb n v=0):0<=v.p/\v.p<n/\0<=v.r/\v.r<=6/\(v.r=0->0<=v.i/\v.i<8)/\(0<v.r->v.i=0)/\∀q,q<5->v.h q≠-1->v.r≠0/\(q:Int)<n:=by
 unfold xb at h
 split at h
 . cases h
 rename_i h1
 split at h
 . cases h
 rename_i h2
 split at h
 . cases h
 rename_i h3;simp only[xm,decide_eq_true_eq] at h1;simp only[List.any_eq_true,List.mem_range,qY,decide_eq_true_eq,not_exists] at h3;refine⟨by omega,by omega,by omega,by omega,fun e=>by omega,fun e=>by omega,fun q hq hh=>?_⟩;have:=h3 q;constructor
 . intro e;exact this ⟨hq,hh,.inl e⟩
 have h4:¬n<=(q:Int):=fun e=>this ⟨hq,hh,.inr e⟩
 omega
theorem Zk{n:Int}{vs:List Vw}{v:Vw}(h:zW n vs v=0):xb n v=0/\(v.r≠0->(∀q,q<5->yn vs v q=0)/\v.h v.p.toNat≠-1/\kG vs (yE vs (yK v))=Ar):=by
 unfold zW at h
 split at h
 . rename_i h1
   refine⟨h,fun hr=>?_⟩;rcases h1 with h1 | h1
   . exact absurd h h1
   exact absurd h1 hr
 rename_i h1
 split at h
 . rename_i h2;exact absurd h h2
 rename_i h2
 split at h
 . cases h
 rename_i h3
 split at h
 . rename_i h4
   exact⟨by omega,fun _=>⟨xK.1 (by omega),h3,h4⟩⟩
 cases h
theorem YI{vs:List Vw}{v:Vw}{q:Nat}(h:yn vs v q=0)(h1:v.h q≠-1):0<=v.h q/\(v.h q).toNat<vs.length/\(yc vs (v.h q).toNat).p=(q:Int)/\(yc vs (v.h q).toNat).r=v.r-1:=by
 unfold yn at h;rw[Lk h1] at h
 split at h
 . cases h
 split at h
 . cases h
 omega
theorem QN{n:Int}{vs:List Vw}{k:Nat}(h:jL n vs k=0):zW n (vs.take k) (yc vs k)=0/\yc vs k∉vs.take k:=by
 unfold jL at h
 split at h
 . rename_i h1;exact absurd h h1
 rename_i h1
 split at h
 . cases h
 rename_i h2;exact⟨by omega,h2⟩
theorem kid_ok{n:Int}{vs:List Vw}{v:Vw}{c:Nat}(h:zW n vs v=0)(hc:c∈yK v):c<vs.length/\(yc vs c).r=v.r-1:=by
 obtain⟨hr,q,hq,h0,rfl⟩:=qI.1 hc;obtain⟨_,h2⟩:=Zk h;have:=YI ((h2 (by omega)).1 q hq) (by omega);exact⟨this.2.1,this.2.2.2⟩
theorem Wf.acyc{n:Int}{vs:List Vw}(h:Wf n vs):gD vs:=fun i hi c hc=>by
 have:=(kid_ok (QN (h.2.2 i hi)).1 hc).1;simp at this;omega
theorem JB{n:Int}{vs:List Vw}{k m:Nat}(h:k<m):jL n (vs.take m) k=jL n vs k:=by
 unfold jL;rw[Za h,Sa,show min k m=k from by omega]
theorem Wf.of_CheckE{n:Int}{vs:List Vw}(h:yl n vs=0):Wf n vs/\vs.length<=8192:=by
 unfold yl at h
 split at h
 . cases h
 split at h
 . cases h
 exact⟨⟨by omega,by omega,xK.1 h⟩,by omega⟩
theorem Yn{vs:List Vw}(ha:gD vs):∀(i f g x:Nat),i<vs.length->i<=f->i<=g->qj vs f i x=qj vs g i x:=by
 intro i
 induction i using Nat.strongRecOn with
 | _ i ih=>
  intro f g x hi hf hg
  have key:∀f,i<=f->qj vs f i x=(x==i||(yK (yc vs i)).any fun c=>qj vs c c x):=by
   intro f hf
   cases f with
   | zero=>
    have hk:yK (yc vs i)=[]:=by
     rw[RU];intro c hc;have:=ha i hi c hc;omega
    simp[qj,hk]
   | succ f=>
    simp only[qj]
    congr 1
    rw[NH,NC,NC];constructor
    . rintro⟨c,hc,h⟩
      have:=ha i hi c hc;exact⟨c,hc,by rw[ih c this c f x (by omega) (by omega) (by omega)];exact h⟩
    . rintro⟨c,hc,h⟩
      have:=ha i hi c hc;exact⟨c,hc,by rw[ih c this f c x (by omega) (by omega) (by omega)];exact h⟩
  rw[key f hf,key g hg]
theorem qD{vs:List Vw}(ha:gD vs){i x:Nat}(hi:i<vs.length):qE vs i x=Ar↔x=i\/∃c,c∈yK (yc vs i)/\qE vs c x=Ar:=by
 have h1:qE vs i x=qj vs (vs.length+1) i x:=Yn ha i _ _ x hi (by omega) (by omega);rw[h1];simp only[qj,Bool.or_eq_true,beq_iff_eq,List.any_eq_true]
 rfl
theorem jm(vs:List Vw)(i:Nat):qE vs i i=Ar:=by
 unfold qE
 cases vs.length<;>simp[qj]
theorem XH{vs:List Vw}(ha:gD vs):∀ {i x c:Nat},i<vs.length->qE vs i x=Ar->c∈yK (yc vs x)->qE vs i c=Ar:=by
 intro i
 induction i using Nat.strongRecOn with
 | _ i ih=>
  intro x c hi h hc;rcases(qD ha hi).1 h with rfl | ⟨d,hd,h'⟩
  . exact(qD ha hi).2 (.inr ⟨c,hc,jm vs c⟩)
  . have:=ha i hi d hd
    exact(qD ha hi).2 (.inr ⟨d,hd,ih d this (by omega) h' hc⟩)
theorem jN{vs:List Vw}(ha:gD vs){S:Nat->Prop}(hS:∀i,i<vs.length->S i->∀c,c∈yK (yc vs i)->S c):∀ {i x:Nat},i<vs.length->S i->qE vs i x=Ar->S x:=by
 intro i
 induction i using Nat.strongRecOn with
 | _ i ih=>
  intro x hi hs h;rcases(qD ha hi).1 h with rfl | ⟨d,hd,h'⟩
  . exact hs
  . have:=ha i hi d hd
    exact ih d this (by omega) (hS i hi hs d hd) h'
theorem kN{vs:List Vw}{l:List Nat}{x:Nat}:x∈yE vs l↔x<vs.length/\∃c,c∈l/\qE vs c x=Ar:=by
 simp[yE]
end
end Go.Proofs.YtkledihebeidlaaGreatDoor
