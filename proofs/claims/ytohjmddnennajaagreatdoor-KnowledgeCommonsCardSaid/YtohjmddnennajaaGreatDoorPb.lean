/- Parts R11B SameV R11C R11F SameT AdvA Iter AdvB AdvC AdvD R16A R16B R16C Marks AdvE Prob SameP SameX RefB. -/
import Derived.Test.YtohjmddnennajaaGreatDoorProg
import Derived.Test.YtohjmddnennajaaGreatDoorPa
import Derived.Deep.QuietTactic
import Derived.BigQuiet
import Derived.StillTactics
import Derived.Deep.RegionHeld3
import Derived.Deep.DeepCutAuto
import Derived.StillTailTactics
import Derived.RangeFuncNested
import Derived.RangeFuncBound
import Derived.RangeFuncCalls
import Derived.RangeFuncLeaves
import Derived.Shelf.Abstract
import Derived.Shelf.RegionOpen
import Derived.WalkKit
import Derived.OwnWalkIn
import Derived.TacticsInMore
import Derived.LoopNIn
import Derived.LoopIn

namespace Go.Proofs.YtohjmddnennajaaGreatDoor
abbrev Nl:=@Go.Calls.quiet_of
abbrev L7:=@Bool.and_eq_true
abbrev Lz:=@Nat.le_trans
abbrev NY:=@List.mem_iff_getElem
abbrev Rt:=@beq_eq_false_iff_ne
abbrev Lf:=@Go.RowKit.Below.heap_setCell
abbrev Pi:=@Go.World.putObj_heap_other
abbrev RT:=@Go.wpIn_wide
abbrev Ry:=@Go.cells_of_cell
abbrev LA:=@Go.World.cell?_of_block
abbrev Pv:=@List.nodup_cons
abbrev RH:=@Go.callsIn_wide
abbrev L5:=@List.mem_cons
abbrev LI:=@List.map_append
abbrev PU:=@List.map_map
abbrev Rc:=@List.flatten_cons
abbrev LR:=@List.length_map
abbrev RK:=@Go.Proofs.Tryz.func173
abbrev ND:=@List.size_toArray
abbrev LE:=@List.length_cons
abbrev NJ:=@List.length_nil
abbrev Nk:=@Array.replicate_succ
abbrev Nj:=@Array.replicate_zero
abbrev NE:=@List.push_toArray
abbrev Nn:=@List.append_toArray
abbrev Nc:=@List.nil_append
abbrev Ng:=@List.cons_append
abbrev Lv:=@List.length_append
abbrev Na:=@List.append_assoc
abbrev Si:=@Array.getElem?_eq_getElem
abbrev L1:=@Go.bodyPost_ret
abbrev RG:=@Go.results_none
abbrev Pq:=@Array.getElem?_modify
abbrev L8:=@List.mem_singleton
abbrev L9:=@Go.grownBy_keeps_cells
abbrev N0:=@Go.Proofs.enters_of
abbrev NA:=@List.mem_flatten
abbrev LX:=@List.mem_map
abbrev PG:=@List.take_append_drop
abbrev PK:=@Nat.mul_le_mul_right
abbrev PS:=@Nat.zero_mul
abbrev Pg:=@Nat.add_zero
abbrev Ls:=@Int.toNat_natCast
abbrev Lj:=@List.getD_eq_getElem?_getD
abbrev Lm:=@List.getElem?_eq_getElem
abbrev PO:=@Go.Proofs.Tryz.results150
abbrev NF:=@List.idxOf_append
abbrev Nz:=@List.take_of_length_le
set_option maxRecDepth 100000
set_option maxHeartbeats 16000000
section
open Go.RowKit
theorem jR{P:Program}{f:FuncId}{args:Array Value}{W:Ba}{q a:Nat}{v:Value}(h:Calls P f args (W.drewN (q+a)) fun e w'=>e=.returned v/\w'=W.drewN (q+a)):Calls P f args (W.drewN (q+a)) fun e w'=>e=.returned v/\∃n,w'=W.drewN (q+n):=
 h.mono fun _ _ ⟨h1,h2⟩=>⟨h1,a,h2⟩
theorem yg{P:Program}{f:FuncId}{args:Array Value}{W:Ba}{q a:Nat}{v:Value}(h:Calls P f args (W.drewN (q+a)) fun e w'=>e=.returned v/\∃n,w'=(W.drewN (q+a)).drewN n):Calls P f args (W.drewN (q+a)) fun e w'=>e=.returned v/\∃n,w'=W.drewN (q+n):=
 h.mono fun _ _ ⟨h1,n,h2⟩=>⟨h1,a+n,by rw[h2,P6,PJ]⟩
theorem rone_any(t:Tk)(A:Bb)(kc:Nat)(hf:FewT t)(i:Nat)(hi:i<t.cases.length)(w:Ba)(hA:CAt w w.heap.size A t.cases) :
  Calls Tryz.prog 81 #[.agg #[.int .i64 t.n,.int .i64 t.ins,.int .i64 t.outs,.slice A t.cases.length kc],.int .i64 i] w fun e w'=>e=.returned (.int .i64 (qJ t (zD t.cases i) t.cases[i]))/\Below w.heap.size w w':=by
 obtain⟨hf1,hf2⟩:=hf;have HFC:=zH hf2;have hvc:=zH (@Y7 t (zD t.cases i) t.cases[i]);have hod:=zH (@gu t (zD t.cases i) t.cases[i]);have hou:=zH (@Y8 t (zD t.cases i) t.cases[i]);obtain⟨E,hE⟩:=Ki (qJ t (zD t.cases i) t.cases[i]);rw[hE] at hvc hod hou ⊢;obtain⟨n,ins,m,cs⟩:=t;dsimp only at hf1 HFC hvc hod hou hA hi ⊢;obtain⟨b,o,A0,k0,A1,k1,A2,k2,e,hbB,c0,c1,c2,I0,I1,I2⟩:=hA.row i hi;obtain⟨f0,⟨f1,f2⟩,f3,f4⟩:=hf2 _ (Ld hi);obtain⟨bo,hbo⟩:=Ki (qj ((zD cs i).map Cs.inp) cs[i].inp);have HBO:=zH hbo;rw[hbo] at hod hou;have HE1:=zH (@gi n m cs[i]);have HE2:=zH (@Z1 n m cs[i]);have HE3:=zH (@gj n m cs[i]);obtain⟨x,hx⟩:=Ki (cs[i]);have HX:=zH hx;rw[hx] at c0 c1 c2 I0 I1 I2 f0 f1 f2 f3 f4 hvc hod hou HE1 HE2 HE3;obtain⟨xi,xo,xc⟩:=x;dsimp only at c0 c1 c2 I0 I1 I2 f0 f1 f2 f3 f4 hvc hod hou HE1 HE2 HE3;obtain⟨ev,hev⟩:=Ki (zK xi n ins);rw[hev] at hvc hod hou;have HF2:=zH f2;have HF4:=zH f4;obtain⟨W1,hW1,b0,b1,hsz,hB1⟩:=tboxes w #[.int .i64 n,.int .i64 ins,.int .i64 m,.slice A cs.length kc] #[.slice A0 xi.length k0,.slice A1 xo.length k1,.slice A2 xc.length k2] 24 87;have HBW:=zH hB1;have H0:=zH ((I0.keep hB1).more (show w.heap.size<=W1.heap.size by omega));have H1:=zH ((I1.keep hB1).more (show w.heap.size<=W1.heap.size by omega));have H2:=zH ((I2.keep hB1).more (show w.heap.size<=W1.heap.size by omega));have HAW:=zH ((hA.keep hB1).more (show w.heap.size<=W1.heap.size by omega));have HV0:=zH (jm A0 k0 xi n ins (by omega) W1 H0.out);rw[hev] at HV0;subst e
 have HX0:=zH b0;have HX1:=zH b1;have HWE:=zH hW1;clear hE hbo hx hev f2 f4 hA hf2 I0 I1 I2 hW1 hB1 b0 b1 hsz;go_enter Tryz.func81,Tryz.ntmps81;go_wp2_with fail;rw[HWE.out];obtain⟨q0,q1,q2,q3,_⟩:=Kb HX0.out;obtain⟨p0,p1,p2,_⟩:=Kc HX1.out;have hsW:=HBW.out.size;clear HWE c0 c1 c2;refine HV0.out.mono ?_;rintro e w' ⟨rfl,hw'⟩;obtain rfl:W1=w':=hw'.symm;clear HV0
 by_cases hev:ev=0
 case neg=>
  have hd:=zH (hvc.out hev);have e0:(ev != 0)=true:=by simpa using hev
  clear hvc hod hou HE1 HE2 HE3 hev HBO HX;go_wp2_with fail;go_ret;exact⟨zk hd.out.symm,HBW.out⟩
 case pos=>
 subst hev;clear hvc
 cases i with
 | zero=>
  obtain rfl:bo=false:=by rw[<-HBO.out];rfl
  have g0:decide ((0:Int)<0)=false:=by decide
  clear HBO HX;go_wp2_with fail;go_quiet (fail);have HE0:=zH (hou.out (by simp) (by simp));clear hod hou
  by_cases hz:xo.length<1
  . have hR:=zH (HE0.out.trans (HE1.out hz))
    clear HE0 HE1 HE2 HE3;go_wp2_with fail
    all_goals first | (exfalso;omega) | skip
    go_ret;exact⟨zk hR.out.symm,by repeat (first | exact HBW.out | refine zT ?_ _)⟩
  have hz1:¬((xo.length:Int)<1):=by omega
  have HE2:=zH (fun h=>HE0.out.trans (HE2.out (by omega) (by omega) h));have HE3:=zH (fun h=>HE0.out.trans (HE3.out (by omega) (by omega) h));clear HE1 HE0;obtain⟨F,hF⟩:∃F,qQ (fun v=>zK v n m) xo=F:=⟨_,rfl⟩;have HF:Hid (F=yG (fun v=>zK v n m) xo 0):=by rw[qa];exact hF.symm
  rw[hF] at HE2 HE3;clear hF;go_wp2_with fail
  all_goals first | (exfalso;omega) | skip
  go_loopw [7] (fun i wr=>∃k q:Nat,k<=xo.length/\i=.int .i64 (k:Int)/\Hid (F=yG (fun v=>zK v n m) xo k)/\wr=W1.drewN q) (fun i _=>xo.length-(intOf i).toNat)
  case atStart=>exact⟨0,_,by omega,rfl,HF,rfl⟩
  case round=>
   obtain⟨k,q,hk,rfl,hrk,rfl⟩:=hrel;clear HF
   by_cases hlt:k<xo.length
   . obtain⟨b,o,A3,k3,rfl,hb,c3,I3⟩:=H1.out.at_ k hlt
     have l3:=HF2.out _ (Ld hlt);have I3':=zH I3;have hbd:=zH (@qo (fun v=>zK v n m) xo k hlt);have hod:=zH (@xH (fun v=>zK v n m) xo k hlt);have hon:=zH (@qO (fun v=>zK v n m) xo k hlt);have HV:=zH (fun (p:Nat)=>jm A3 k3 xo[k] n m (by omega) (W1.drewN p) I3);obtain⟨bo,hbo⟩:=Ki (qj (zD xo k) xo[k]);have HBO:=zH hbo;rw[hbo] at hod hon;obtain⟨v,hv⟩:=Ki (xo[k]);have HX:=zH hv;rw[hv] at c3 I3' l3 hbd hod hon HV;obtain⟨ev,hev⟩:=Ki (zK v n m);rw[hev] at hbd hod hon HV;obtain⟨vl,hvl⟩:=Ki v.length;have HVL:=zH hvl;rw[hvl] at c3 l3 HV;clear hv hbo hev hvl I3
     by_cases he:ev=0
     case neg=>
      have hR:=zH (hrk.out.trans (hbd.out he));have HR:=zH ((HE2.out (by rw[hR.out];exact he)).trans hR.out);clear hrk hod hon hbd HE2 HE3 HBO HX HVL;have e0:(ev != 0)=true:=by simpa using he
      clear he;go_wp2_with fail;go_quiet ((go_at_call 120;exact jR (HV.out _)));go_wp2_with fail;go_ret;exact⟨zk HR.out.symm,by repeat (first | exact HBW.out | refine zT ?_ _)⟩
     case pos=>
     subst he;clear hbd;go_wp2_with fail;go_quiet ((go_at_call 120;exact jR (HV.out _)));clear HV;have hk2:k<=30:=by omega
     cases k with
     | zero=>
      obtain rfl:bo=false:=by rw[<-HBO.out];rfl
      have g0:decide ((0:Int)<0)=false:=by decide
      clear HBO HX HVL;go_wp2_with fail;go_quiet (fail);have hR:=zH (hrk.out.trans (hon.out (by simp) (by simp)));clear hrk hod hon;go_wp2_with fail
      go_roundw
      case rel=>exact⟨0+1,_,by omega,by go_num,hR,rfl⟩
      case measure=>simp[intOf];omega
     | succ j=>
      have hj:j<xo.length:=by omega
      have hbj:qj (zD xo (j+1)) xo[j+1]=decide (0<=zy xo[j] xo[j+1]):=by rw[yq xo j hj];rfl
      obtain⟨b',o',A0',k0',e',_,u0,U0⟩:=H1.out.at_ j hj
      cases e'
      have f0':=HF2.out _ (Ld hj);rw[HX.out] at hbj;have hc:=fun (p:Nat)=>xA A0' A3 k0' k3 xo[j] v (by omega) (by rw[<-HX.out];have:=HF2.out _ (Ld hlt);omega) (W1.drewN p) U0 I3'.out
      rw[show qj (zD xo (j+1)) v=bo by have:=HBO.out;rwa[HX.out] at this] at hbj;obtain⟨r,hr⟩:=Ki (zy xo[j] v);rw[hr] at hbj hc;have HBJ:=zH hbj;obtain⟨nl,hnl⟩:=Ki (xo[j].length);rw[hnl] at u0 hc f0';rw[HVL.out] at hc;have HC:=zH hc;clear hbj hc hr hnl U0 HBO HX HVL;have g1:((j:Int)+1).toNat=j+1:=by omega
      have g3:IntKind.i64.wrap ((j:Int)+1-1)=(j:Int):=by rw[Lp];omega
      have g5:IntKind.i64.wrap ((j:Int)+1)=(j:Int)+1:=by rw[Lp];omega
      have g6:decide ((0:Int)<(j:Int)+1)=true:=Lk (by omega)
      cases bo with
      | true=>
       have g7:decide (0<=r)=true:=HBJ.out.symm;have g8:0<=r:=LF g7;clear HBJ;go_wp2_with fail;go_quiet ((go_at_call 121;first | exact yg (HC.out _) | exact Nl (HC.out _)));clear HC g1 g3 g5 g6 u0;have hR:=zH (hrk.out.trans (hod.out (by simp) (by simp)));have HR2:=zH ((HE2.out (by rw[hR.out];decide)).trans hR.out);clear hrk hod hon HE2 HE3;go_wp2_with fail;go_ret;exact⟨zk HR2.out.symm,by repeat (first | exact HBW.out | refine zT ?_ _)⟩
      | false=>
       have g7:decide (0<=r)=false:=HBJ.out.symm;have g8:¬0<=r:=NO g7;clear HBJ;go_wp2_with fail;go_quiet ((go_at_call 121;first | exact yg (HC.out _) | exact Nl (HC.out _)));clear HC g1 g3 g5 g6 u0;have hR:=zH (hrk.out.trans (hon.out (by simp) (by simp)));clear hrk hod hon;go_wp2_with fail
       go_roundw
       case rel=>exact⟨j+1+1,_,by omega,by go_num,hR,rfl⟩
       case measure=>simp[intOf];omega
   . obtain rfl:k=xo.length:=by omega
     have hR:=zH (hrk.out.trans qn);have HR:=zH (HE3.out hR.out);clear hrk HE2 HE3 hR;go_wp2_with fail;obtain⟨G,hG⟩:=Ki (qQ (qE xo) xc);have HG:Hid (G=yG (qE xo) xc 0):=by rw[qa];exact hG.symm
     rw[hG] at HR;clear hG
     go_loopw [9] (fun i wr=>∃k q:Nat,k<=xc.length/\i=.int .i64 (k:Int)/\Hid (G=yG (qE xo) xc k)/\wr=W1.drewN q) (fun i _=>xc.length-(intOf i).toNat)
     case atStart=>exact⟨0,_,by omega,rfl,HG,rfl⟩
     case round=>
      obtain⟨k,q,hk,rfl,hrk,rfl⟩:=hrel;clear HG
      by_cases hlt:k<xc.length
      . obtain⟨b,o,A3,k3,rfl,hb,c3,I3⟩:=H2.out.at_ k hlt
        have l3:=HF4.out _ (Ld hlt);have I3':=zH I3;have hbd:=zH (@qo (qE xo) xc k hlt);have hod:=zH (@xH (qE xo) xc k hlt);have hon:=zH (@qO (qE xo) xc k hlt);have HV:=zH (fun (p:Nat)=>X9 A1 k1 xo A3 k3 xc[k] (by omega) (fun v hv=>by have:=HF2.out v hv;omega) (by omega) (W1.drewN p) H1.out I3);have hhe:Hid (∀v,qE xo v=if v∈xo then 0 else 6):=fun _=>rfl
        obtain⟨bo,hbo⟩:=Ki (qj (zD xc k) xc[k]);have HBO:=zH hbo;rw[hbo] at hod hon;obtain⟨v,hv⟩:=Ki (xc[k]);have HX:=zH hv;rw[hv] at c3 I3' l3 hbd hod hon HV;have hhe:=zH (hhe.out v);obtain⟨ev,hev⟩:=Ki (qE xo v);rw[hev] at hbd hod hon hhe;obtain⟨vl,hvl⟩:=Ki v.length;have HVL:=zH hvl;rw[hvl] at c3 l3 HV;clear hv hbo hev hvl I3
        by_cases hm:v∈xo
        case neg=>
         have he:ev=6:=hhe.out.trans (Lg hm);subst he;rw[Li hm] at HV;have hR:=zH (hrk.out.trans (hbd.out (by decide)));have HR2:=zH (HR.out.trans hR.out);clear hrk hod hon hbd hm hhe HR HBO HX HVL;go_wp2_with fail;go_quiet ((go_at_call 122;exact yg (HV.out _)));go_wp2_with fail;go_ret;exact⟨zk HR2.out.symm,by repeat (first | exact HBW.out | refine zT ?_ _)⟩
        case pos=>
        have he:ev=0:=hhe.out.trans (Lh hm);subst he;rw[Lk hm] at HV;clear hbd hm hhe;go_wp2_with fail;go_quiet ((go_at_call 122;exact yg (HV.out _)));clear HV;have hk2:k<=30:=by omega
        cases k with
        | zero=>
         obtain rfl:bo=false:=by rw[<-HBO.out];rfl
         have g0:decide ((0:Int)<0)=false:=by decide
         clear HBO HX HVL;go_wp2_with fail;go_quiet (fail);have hR:=zH (hrk.out.trans (hon.out (by simp) (by simp)));clear hrk hod hon;go_wp2_with fail
         go_roundw
         case rel=>exact⟨0+1,_,by omega,by go_num,hR,rfl⟩
         case measure=>simp[intOf];omega
        | succ j=>
         have hj:j<xc.length:=by omega
         have hbj:qj (zD xc (j+1)) xc[j+1]=decide (0<=zy xc[j] xc[j+1]):=by rw[yq xc j hj];rfl
         obtain⟨b',o',A0',k0',e',_,u0,U0⟩:=H2.out.at_ j hj
         cases e'
         have f0':=HF4.out _ (Ld hj);rw[HX.out] at hbj;have hc:=fun (p:Nat)=>xA A0' A3 k0' k3 xc[j] v (by omega) (by rw[<-HX.out];have:=HF4.out _ (Ld hlt);omega) (W1.drewN p) U0 I3'.out
         rw[show qj (zD xc (j+1)) v=bo by have:=HBO.out;rwa[HX.out] at this] at hbj;obtain⟨r,hr⟩:=Ki (zy xc[j] v);rw[hr] at hbj hc;have HBJ:=zH hbj;obtain⟨nl,hnl⟩:=Ki (xc[j].length);rw[hnl] at u0 hc f0';rw[HVL.out] at hc;have HC:=zH hc;clear hbj hc hr hnl U0 HBO HX HVL;have g1:((j:Int)+1).toNat=j+1:=by omega
         have g3:IntKind.i64.wrap ((j:Int)+1-1)=(j:Int):=by rw[Lp];omega
         have g5:IntKind.i64.wrap ((j:Int)+1)=(j:Int)+1:=by rw[Lp];omega
         have g6:decide ((0:Int)<(j:Int)+1)=true:=Lk (by omega)
         cases bo with
         | true=>
          have g7:decide (0<=r)=true:=HBJ.out.symm;have g8:0<=r:=LF g7;clear HBJ;go_wp2_with fail;go_quiet ((go_at_call 121;first | exact yg (HC.out _) | exact Nl (HC.out _)));clear HC g1 g3 g5 g6 u0;have hR:=zH (hrk.out.trans (hod.out (by simp) (by simp)));have HR2:=zH (HR.out.trans hR.out);clear hrk hod hon HR;go_wp2_with fail;go_ret;exact⟨zk HR2.out.symm,by repeat (first | exact HBW.out | refine zT ?_ _)⟩
         | false=>
          have g7:decide (0<=r)=false:=HBJ.out.symm;have g8:¬0<=r:=NO g7;clear HBJ;go_wp2_with fail;go_quiet ((go_at_call 121;first | exact yg (HC.out _) | exact Nl (HC.out _)));clear HC g1 g3 g5 g6 u0;have hR:=zH (hrk.out.trans (hon.out (by simp) (by simp)));clear hrk hod hon;go_wp2_with fail
          go_roundw
          case rel=>exact⟨j+1+1,_,by omega,by go_num,hR,rfl⟩
          case measure=>simp[intOf];omega
      . obtain rfl:k=xc.length:=by omega
        have hR:=zH (hrk.out.trans qn);have HR2:=zH (HR.out.trans hR.out);clear hrk HR hR;go_wp2_with fail;go_ret;exact⟨zk HR2.out.symm,by repeat (first | exact HBW.out | refine zT ?_ _)⟩
 | succ j=>
  have hj:j<cs.length:=by omega
  have hbj:qj ((zD cs (j+1)).map Cs.inp) cs[j+1].inp=decide (0<=zy cs[j].inp cs[j+1].inp):=by rw[yq cs j hj];rfl
  obtain⟨b',o',A0',k0',_,_,_,_,e',_,u0,_,_,U0,_,_⟩:=HAW.out.row j hj
  cases e'
  obtain⟨f0',_,_⟩:=HFC.out _ (Ld hj);rw[HX.out] at hbj;have hc:=fun (p:Nat)=>xA A0' A0 k0' k0 cs[j].inp xi (by omega) (by omega) (W1.drewN p) U0 H0.out
  rw[show qj ((zD cs (j+1)).map Cs.inp) xi=bo by have:=HBO.out;rwa[HX.out] at this] at hbj;obtain⟨r,hr⟩:=Ki (zy cs[j].inp xi);rw[hr] at hbj hc;have HBJ:=zH hbj;obtain⟨nl,hnl⟩:=Ki (cs[j].inp.length);rw[hnl] at u0 hc f0';have HC:=zH hc;clear hbj hc hr hnl U0 HBO HX;have g1:((j:Int)+1).toNat=j+1:=by omega
  have g3:IntKind.i64.wrap ((j:Int)+1-1)=(j:Int):=by rw[Lp];omega
  have g5:IntKind.i64.wrap ((j:Int)+1)=(j:Int)+1:=by rw[Lp];omega
  have g6:decide ((0:Int)<(j:Int)+1)=true:=Lk (by omega)
  cases bo with
  | true=>
   have g7:decide (0<=r)=true:=HBJ.out.symm;have g8:0<=r:=LF g7;clear HBJ;go_wp2_with fail;go_quiet ((go_at_call 121;first | exact yg (HC.out _) | exact Nl (HC.out _)));clear HC g1 g3 g5 g6 u0;have hd:=zH (hod.out (by simp) (by simp));clear hod hou HE1 HE2 HE3;go_wp2_with fail;go_ret;exact⟨zk hd.out.symm,by repeat (first | exact HBW.out | refine zT ?_ _)⟩
  | false=>
   have g7:decide (0<=r)=false:=HBJ.out.symm;have g8:¬0<=r:=NO g7;clear HBJ;go_wp2_with fail;go_quiet ((go_at_call 121;first | exact yg (HC.out _) | exact Nl (HC.out _)));clear HC g1 g3 g5 g6 u0;have HE0:=zH (hou.out (by simp) (by simp));clear hod hou
   by_cases hz:xo.length<1
   . have hR:=zH (HE0.out.trans (HE1.out hz))
     clear HE0 HE1 HE2 HE3;go_wp2_with fail
     all_goals first | (exfalso;omega) | skip
     go_ret;exact⟨zk hR.out.symm,by repeat (first | exact HBW.out | refine zT ?_ _)⟩
   have hz1:¬((xo.length:Int)<1):=by omega
   have HE2:=zH (fun h=>HE0.out.trans (HE2.out (by omega) (by omega) h));have HE3:=zH (fun h=>HE0.out.trans (HE3.out (by omega) (by omega) h));clear HE1 HE0;obtain⟨F,hF⟩:∃F,qQ (fun v=>zK v n m) xo=F:=⟨_,rfl⟩;have HF:Hid (F=yG (fun v=>zK v n m) xo 0):=by rw[qa];exact hF.symm
   rw[hF] at HE2 HE3;clear hF;go_wp2_with fail
   all_goals first | (exfalso;omega) | skip
   go_loopw [7] (fun i wr=>∃k q:Nat,k<=xo.length/\i=.int .i64 (k:Int)/\Hid (F=yG (fun v=>zK v n m) xo k)/\wr=W1.drewN q) (fun i _=>xo.length-(intOf i).toNat)
   case atStart=>exact⟨0,_,by omega,rfl,HF,rfl⟩
   case round=>
    obtain⟨k,q,hk,rfl,hrk,rfl⟩:=hrel;clear HF
    by_cases hlt:k<xo.length
    . obtain⟨b,o,A3,k3,rfl,hb,c3,I3⟩:=H1.out.at_ k hlt
      have l3:=HF2.out _ (Ld hlt);have I3':=zH I3;have hbd:=zH (@qo (fun v=>zK v n m) xo k hlt);have hod:=zH (@xH (fun v=>zK v n m) xo k hlt);have hon:=zH (@qO (fun v=>zK v n m) xo k hlt);have HV:=zH (fun (p:Nat)=>jm A3 k3 xo[k] n m (by omega) (W1.drewN p) I3);obtain⟨bo,hbo⟩:=Ki (qj (zD xo k) xo[k]);have HBO:=zH hbo;rw[hbo] at hod hon;obtain⟨v,hv⟩:=Ki (xo[k]);have HX:=zH hv;rw[hv] at c3 I3' l3 hbd hod hon HV;obtain⟨ev,hev⟩:=Ki (zK v n m);rw[hev] at hbd hod hon HV;obtain⟨vl,hvl⟩:=Ki v.length;have HVL:=zH hvl;rw[hvl] at c3 l3 HV;clear hv hbo hev hvl I3
      by_cases he:ev=0
      case neg=>
       have hR:=zH (hrk.out.trans (hbd.out he));have HR:=zH ((HE2.out (by rw[hR.out];exact he)).trans hR.out);clear hrk hod hon hbd HE2 HE3 HBO HX HVL;have e0:(ev != 0)=true:=by simpa using he
       clear he;go_wp2_with fail;go_quiet ((go_at_call 120;exact jR (HV.out _)));go_wp2_with fail;go_ret;exact⟨zk HR.out.symm,by repeat (first | exact HBW.out | refine zT ?_ _)⟩
      case pos=>
      subst he;clear hbd;go_wp2_with fail;go_quiet ((go_at_call 120;exact jR (HV.out _)));clear HV;have hk2:k<=30:=by omega
      cases k with
      | zero=>
       obtain rfl:bo=false:=by rw[<-HBO.out];rfl
       have g0:decide ((0:Int)<0)=false:=by decide
       clear HBO HX HVL;go_wp2_with fail;go_quiet (fail);have hR:=zH (hrk.out.trans (hon.out (by simp) (by simp)));clear hrk hod hon;go_wp2_with fail
       go_roundw
       case rel=>exact⟨0+1,_,by omega,by go_num,hR,rfl⟩
       case measure=>simp[intOf];omega
      | succ j=>
       have hj:j<xo.length:=by omega
       have hbj:qj (zD xo (j+1)) xo[j+1]=decide (0<=zy xo[j] xo[j+1]):=by rw[yq xo j hj];rfl
       obtain⟨b',o',A0',k0',e',_,u0,U0⟩:=H1.out.at_ j hj
       cases e'
       have f0':=HF2.out _ (Ld hj);rw[HX.out] at hbj;have hc:=fun (p:Nat)=>xA A0' A3 k0' k3 xo[j] v (by omega) (by rw[<-HX.out];have:=HF2.out _ (Ld hlt);omega) (W1.drewN p) U0 I3'.out
       rw[show qj (zD xo (j+1)) v=bo by have:=HBO.out;rwa[HX.out] at this] at hbj;obtain⟨r,hr⟩:=Ki (zy xo[j] v);rw[hr] at hbj hc;have HBJ:=zH hbj;obtain⟨nl,hnl⟩:=Ki (xo[j].length);rw[hnl] at u0 hc f0';rw[HVL.out] at hc;have HC:=zH hc;clear hbj hc hr hnl U0 HBO HX HVL;have g1:((j:Int)+1).toNat=j+1:=by omega
       have g3:IntKind.i64.wrap ((j:Int)+1-1)=(j:Int):=by rw[Lp];omega
       have g5:IntKind.i64.wrap ((j:Int)+1)=(j:Int)+1:=by rw[Lp];omega
       have g6:decide ((0:Int)<(j:Int)+1)=true:=Lk (by omega)
       cases bo with
       | true=>
        have g7:decide (0<=r)=true:=HBJ.out.symm;have g8:0<=r:=LF g7;clear HBJ;go_wp2_with fail;go_quiet ((go_at_call 121;first | exact yg (HC.out _) | exact Nl (HC.out _)));clear HC g1 g3 g5 g6 u0;have hR:=zH (hrk.out.trans (hod.out (by simp) (by simp)));have HR2:=zH ((HE2.out (by rw[hR.out];decide)).trans hR.out);clear hrk hod hon HE2 HE3;go_wp2_with fail;go_ret;exact⟨zk HR2.out.symm,by repeat (first | exact HBW.out | refine zT ?_ _)⟩
       | false=>
        have g7:decide (0<=r)=false:=HBJ.out.symm;have g8:¬0<=r:=NO g7;clear HBJ;go_wp2_with fail;go_quiet ((go_at_call 121;first | exact yg (HC.out _) | exact Nl (HC.out _)));clear HC g1 g3 g5 g6 u0;have hR:=zH (hrk.out.trans (hon.out (by simp) (by simp)));clear hrk hod hon;go_wp2_with fail
        go_roundw
        case rel=>exact⟨j+1+1,_,by omega,by go_num,hR,rfl⟩
        case measure=>simp[intOf];omega
    . obtain rfl:k=xo.length:=by omega
      have hR:=zH (hrk.out.trans qn);have HR:=zH (HE3.out hR.out);clear hrk HE2 HE3 hR;go_wp2_with fail;obtain⟨G,hG⟩:=Ki (qQ (qE xo) xc);have HG:Hid (G=yG (qE xo) xc 0):=by rw[qa];exact hG.symm
      rw[hG] at HR;clear hG
      go_loopw [9] (fun i wr=>∃k q:Nat,k<=xc.length/\i=.int .i64 (k:Int)/\Hid (G=yG (qE xo) xc k)/\wr=W1.drewN q) (fun i _=>xc.length-(intOf i).toNat)
      case atStart=>exact⟨0,_,by omega,rfl,HG,rfl⟩
      case round=>
       obtain⟨k,q,hk,rfl,hrk,rfl⟩:=hrel;clear HG
       by_cases hlt:k<xc.length
       . obtain⟨b,o,A3,k3,rfl,hb,c3,I3⟩:=H2.out.at_ k hlt
         have l3:=HF4.out _ (Ld hlt);have I3':=zH I3;have hbd:=zH (@qo (qE xo) xc k hlt);have hod:=zH (@xH (qE xo) xc k hlt);have hon:=zH (@qO (qE xo) xc k hlt);have HV:=zH (fun (p:Nat)=>X9 A1 k1 xo A3 k3 xc[k] (by omega) (fun v hv=>by have:=HF2.out v hv;omega) (by omega) (W1.drewN p) H1.out I3);have hhe:Hid (∀v,qE xo v=if v∈xo then 0 else 6):=fun _=>rfl
         obtain⟨bo,hbo⟩:=Ki (qj (zD xc k) xc[k]);have HBO:=zH hbo;rw[hbo] at hod hon;obtain⟨v,hv⟩:=Ki (xc[k]);have HX:=zH hv;rw[hv] at c3 I3' l3 hbd hod hon HV;have hhe:=zH (hhe.out v);obtain⟨ev,hev⟩:=Ki (qE xo v);rw[hev] at hbd hod hon hhe;obtain⟨vl,hvl⟩:=Ki v.length;have HVL:=zH hvl;rw[hvl] at c3 l3 HV;clear hv hbo hev hvl I3
         by_cases hm:v∈xo
         case neg=>
          have he:ev=6:=hhe.out.trans (Lg hm);subst he;rw[Li hm] at HV;have hR:=zH (hrk.out.trans (hbd.out (by decide)));have HR2:=zH (HR.out.trans hR.out);clear hrk hod hon hbd hm hhe HR HBO HX HVL;go_wp2_with fail;go_quiet ((go_at_call 122;exact yg (HV.out _)));go_wp2_with fail;go_ret;exact⟨zk HR2.out.symm,by repeat (first | exact HBW.out | refine zT ?_ _)⟩
         case pos=>
         have he:ev=0:=hhe.out.trans (Lh hm);subst he;rw[Lk hm] at HV;clear hbd hm hhe;go_wp2_with fail;go_quiet ((go_at_call 122;exact yg (HV.out _)));clear HV;have hk2:k<=30:=by omega
         cases k with
         | zero=>
          obtain rfl:bo=false:=by rw[<-HBO.out];rfl
          have g0:decide ((0:Int)<0)=false:=by decide
          clear HBO HX HVL;go_wp2_with fail;go_quiet (fail);have hR:=zH (hrk.out.trans (hon.out (by simp) (by simp)));clear hrk hod hon;go_wp2_with fail
          go_roundw
          case rel=>exact⟨0+1,_,by omega,by go_num,hR,rfl⟩
          case measure=>simp[intOf];omega
         | succ j=>
          have hj:j<xc.length:=by omega
          have hbj:qj (zD xc (j+1)) xc[j+1]=decide (0<=zy xc[j] xc[j+1]):=by rw[yq xc j hj];rfl
          obtain⟨b',o',A0',k0',e',_,u0,U0⟩:=H2.out.at_ j hj
          cases e'
          have f0':=HF4.out _ (Ld hj);rw[HX.out] at hbj;have hc:=fun (p:Nat)=>xA A0' A3 k0' k3 xc[j] v (by omega) (by rw[<-HX.out];have:=HF4.out _ (Ld hlt);omega) (W1.drewN p) U0 I3'.out
          rw[show qj (zD xc (j+1)) v=bo by have:=HBO.out;rwa[HX.out] at this] at hbj;obtain⟨r,hr⟩:=Ki (zy xc[j] v);rw[hr] at hbj hc;have HBJ:=zH hbj;obtain⟨nl,hnl⟩:=Ki (xc[j].length);rw[hnl] at u0 hc f0';rw[HVL.out] at hc;have HC:=zH hc;clear hbj hc hr hnl U0 HBO HX HVL;have g1:((j:Int)+1).toNat=j+1:=by omega
          have g3:IntKind.i64.wrap ((j:Int)+1-1)=(j:Int):=by rw[Lp];omega
          have g5:IntKind.i64.wrap ((j:Int)+1)=(j:Int)+1:=by rw[Lp];omega
          have g6:decide ((0:Int)<(j:Int)+1)=true:=Lk (by omega)
          cases bo with
          | true=>
           have g7:decide (0<=r)=true:=HBJ.out.symm;have g8:0<=r:=LF g7;clear HBJ;go_wp2_with fail;go_quiet ((go_at_call 121;first | exact yg (HC.out _) | exact Nl (HC.out _)));clear HC g1 g3 g5 g6 u0;have hR:=zH (hrk.out.trans (hod.out (by simp) (by simp)));have HR2:=zH (HR.out.trans hR.out);clear hrk hod hon HR;go_wp2_with fail;go_ret;exact⟨zk HR2.out.symm,by repeat (first | exact HBW.out | refine zT ?_ _)⟩
          | false=>
           have g7:decide (0<=r)=false:=HBJ.out.symm;have g8:¬0<=r:=NO g7;clear HBJ;go_wp2_with fail;go_quiet ((go_at_call 121;first | exact yg (HC.out _) | exact Nl (HC.out _)));clear HC g1 g3 g5 g6 u0;have hR:=zH (hrk.out.trans (hon.out (by simp) (by simp)));clear hrk hod hon;go_wp2_with fail
           go_roundw
           case rel=>exact⟨j+1+1,_,by omega,by go_num,hR,rfl⟩
           case measure=>simp[intOf];omega
       . obtain rfl:k=xc.length:=by omega
         have hR:=zH (hrk.out.trans qn);have HR2:=zH (HR.out.trans hR.out);clear hrk HR hR;go_wp2_with fail;go_ret;exact⟨zk HR2.out.symm,by repeat (first | exact HBW.out | refine zT ?_ _)⟩
end
section
open Go.RowKit
attribute [local go_sem] Oper.semAt_some
theorem vg(A B:Bb)(ca cb:Nat)(xs ys:List (List Int))(hx:xs.length<=17592186044416)(_hy:ys.length<=17592186044416)(hxl:∀v∈xs,v.length<=17592186044416)(hyl:∀v∈ys,v.length<=17592186044416)(w:Ba)(hA:LAt w w.heap.size A xs)(hB:LAt w w.heap.size B ys) :
  Calls Tryz.prog 165 #[.slice A xs.length ca,.slice B ys.length cb] w fun e w'=>e=.returned (.bool (decide (xs=ys)))/\∃n,w'=w.drewN n:=by
 have HXL:=zH hxl;have HYL:=zH hyl;have HA:=zH hA;have HB:=zH hB;have HT:Hid (∀b,(xs=ys↔b=true)->decide (xs=ys)=b):=fun b h=>by cases b<;>simp_all
 obtain⟨r,hr⟩:∃r,decide (xs=ys)=r:=⟨_,rfl⟩;rw[hr] at HT ⊢;clear hA hB hr hxl hyl;go_enter Tryz.func165,Tryz.ntmps165
 by_cases hl:xs.length=ys.length
 case neg=>
  have hR:Hid (r=false):=HT.out false ⟨fun h=>absurd (congrArg List.length h) hl,fun h=>by cases h⟩;have e0:((xs.length:Int) != (ys.length:Int))=true:=by simp;omega
  have e1:¬((xs.length:Int)=(ys.length:Int)):=by omega
  clear HT hl;go_wp2_with fail;go_ret;exact⟨zm hR.out.symm,0,rfl⟩
 case pos=>
 have HL:=zH hl;rw[<-hl] at _hy ⊢;clear hl;go_wp2_with fail
 go_loopw [5] (fun i wr=>∃k n:Nat,k<=xs.length/\i=.int .i64 (k:Int)/\Hid (xs.take k=ys.take k)/\Hid (wr=w.drewN n)) (fun i _=>xs.length-(intOf i).toNat)
 case atStart=>exact⟨0,0,by omega,rfl,by rw[Hid,LS,LS],rfl⟩
 case round=>
  obtain⟨k,n,hk,rfl,hp,hw⟩:=hrel
  by_cases hlt:k<xs.length
  case neg=>
   obtain rfl:k=xs.length:=by omega
   have hR:Hid (r=true):=HT.out true ⟨fun _=>rfl,fun _=>qA HL.out hp.out⟩;clear HT hp;go_wp2_with fail;go_ret;exact⟨zm hR.out.symm,n,hw.out⟩
  case pos=>
  have hky:k<ys.length:=by have:=HL.out;omega
  obtain⟨ba,oa,A1,k1,ea,_,a0,IA⟩:=(HA.out).at_ k hlt;obtain⟨bb,ob,A2,k2,eb,_,b0,IB⟩:=(HB.out).at_ k hky;subst ea;subst eb;have hcw:Hid (∀p,wr.cell? p=w.cell? p):=fun p=>by rw[hw.out];rfl
  rw[<-hcw.out] at a0 b0;have hxk:=HXL.out _ (Ld hlt);have hyk:=HYL.out _ (Ld hky);have hc:=fun (p:Nat)=>xA A1 A2 k1 k2 xs[k] ys[k] hxk hyk (wr.drewN p) (by rw[hw.out];exact IA) (by rw[hw.out];exact IB)
  by_cases he:xs[k]=ys[k]
  . have hR:=zH (xt hp.out hlt hky he)
    have hz:zy xs[k] ys[k]=0:=by rw[he];exact xB _
    rw[hz] at hc;obtain⟨la,hla⟩:=Ki (xs[k].length);obtain⟨lb,hlb⟩:=Ki (ys[k].length);rw[hla] at a0 hc hxk;rw[hlb] at b0 hc hyk;have HC:=zH hc;clear hc hla hlb he hz hp HT IA IB;go_wp2_with fail;go_quiet ((go_at_call 121;first | exact yg (HC.out _) | exact Nl (HC.out _)));go_wp2_with fail
    go_roundw
    case rel=>exact⟨k+1,n+nq,by omega,by go_num,hR,by rw[Hid,hw.out,qY]⟩
    case measure=>simp[intOf];omega
  . have hR:Hid (r=false):=HT.out false ⟨fun h=>absurd (by subst h;rfl) he,fun h=>by cases h⟩
    have hz:zy xs[k] ys[k]≠0:=fun h=>he (qB h)
    obtain⟨z,hze⟩:=Ki (zy xs[k] ys[k]);rw[hze] at hz hc;obtain⟨la,hla⟩:=Ki (xs[k].length);obtain⟨lb,hlb⟩:=Ki (ys[k].length);rw[hla] at a0 hc hxk;rw[hlb] at b0 hc hyk;have HC:=zH hc;have e0:(z != 0)=true:=by simpa using hz
    clear hc hla hlb he hze hp HT IA IB;go_wp2_with fail;go_quiet ((go_at_call 121;first | exact yg (HC.out _) | exact Nl (HC.out _)));go_wp2_with fail;go_ret;exact⟨zm hR.out.symm,n+nq,by rw[hw.out,qY]⟩
end
section
open Go.RowKit
theorem X4(t:Tk)(A:Bb)(kc:Nat)(hf:FewT t)(w:Ba)(hA:CAt w w.heap.size A t.cases) :
  Calls Tryz.prog 52 #[.agg #[.int .i64 t.n,.int .i64 t.ins,.int .i64 t.outs,.slice A t.cases.length kc]] w fun e w'=>e=.returned (.int .i64 (xn t))/\Below w.heap.size w w':=by
 have HONE:=zH (fun (i:Nat) (hi:i<t.cases.length) (w':Ba) (h:CAt w' w'.heap.size A t.cases)=>rone_any t A kc hf i hi w' h);obtain⟨hf1,hf2⟩:=hf;have HA:=zH hA;have HE1:=zH (@wC t);have HE2:=zH (@Za t);have HE3:=zH (@wF t);obtain⟨E,hE⟩:=Ki (xn t);rw[hE] at HE1 HE2 HE3 ⊢
 by_cases hr:t.n<1\/5<t.n\/t.ins<1\/8<t.ins\/t.outs<1\/8<t.outs
 . have HR:=zH (HE1.out hr)
   obtain⟨cv,hcv⟩:=Ki (Value.slice A t.cases.length kc);rw[hcv];have HN:=zH hr;obtain⟨n,ins,outs,cases⟩:=t;dsimp only at HN ⊢;clear HE1 HE2 HE3 hcv hA hf2 HA hE hr HONE hf1;go_enter Tryz.func52,Tryz.ntmps52;go_wp2_with fail
   all_goals first | (exfalso;have:=HN.out;omega) | (go_ret;exact⟨zk HR.out.symm,zW w _⟩)
 have r1:¬t.n<1:=by omega
 have r2:¬5<t.n:=by omega
 have r3:¬t.ins<1:=by omega
 have r4:¬8<t.ins:=by omega
 have r5:¬t.outs<1:=by omega
 have r6:¬8<t.outs:=by omega
 have HE2:=zH (HE2.out hr);have HE4:=zH (HE3.out hr);clear hr HE1 hE hA hf2 HE3
 by_cases hz:t.cases.length<1
 . have HR:=zH (HE2.out hz)
   obtain⟨n,ins,outs,cases⟩:=t;dsimp only at hf1 r1 r2 r3 r4 r5 r6 hz ⊢;clear HE2 HE4 HA HONE;go_enter Tryz.func52,Tryz.ntmps52;go_wp2_with fail
   all_goals first | (exfalso;omega) | skip
   go_ret;exact⟨zk HR.out.symm,zW w _⟩
 have hz1:¬((t.cases.length:Int)<1):=by omega
 have HE3:=zH (HE4.out (by omega) (by omega));clear HE2 hz HE4;have hbd:=zH (fun k h=>@gt t t.cases k h);have hon:=zH (fun k h=>@Z2 t t.cases k h);have hen:=zH (@gq t t.cases);obtain⟨cg,hcg⟩:∃cg:Nat->Int,(fun k=>xM t t.cases k)=cg:=⟨_,rfl⟩;have hcg':∀k,xM t t.cases k=cg k:=fun k=>congrFun hcg k
 obtain⟨cE,hcE⟩:∃cE:(k:Nat)->k<t.cases.length->Int,(fun k h=>qJ t (zD t.cases k) t.cases[k])=cE:=⟨_,rfl⟩;have hcE':∀k h,qJ t (zD t.cases k) t.cases[k]=cE k h:=fun k h=>congrFun (congrFun hcE k) h
 simp only[hcg',hcE'] at hbd hon hen HE3 HONE;clear hcg hcg' hcE hcE';obtain⟨n,ins,outs,cs⟩:=t;dsimp only at hf1 r1 r2 r3 r4 r5 r6 hz1 HA HE3 HONE cE hbd hon hen ⊢;go_enter Tryz.func52,Tryz.ntmps52;go_wp2_with fail
 all_goals first | (exfalso;omega) | skip
 obtain⟨W0,hW0,b0,hsz,hB0⟩:∃W0,w.alloc (.cells #[.int .i64 n,.int .i64 ins,.int .i64 outs,.slice A cs.length kc] 24)=W0/\W0.heap[w.heap.size]?=some (.cells #[.int .i64 n,.int .i64 ins,.int .i64 outs,.slice A cs.length kc] 24 (0,0))/\w.heap.size+1<=W0.heap.size/\Below w.heap.size w W0:=
  ⟨_,rfl,zw _ _,by simp,zW w _⟩
 rw[hW0];have HB0:=zH hB0;have HX0:=zH b0;clear hW0 hB0 b0
 go_loopw [3] (fun i wr=>∃k:Nat,k<=cs.length/\i=.int .i64 (k:Int)/\Hid (E=cg k)/\Below W0.heap.size W0 wr) (fun i _=>cs.length-(intOf i).toNat)
 case atStart=>exact⟨0,by omega,rfl,HE3,Lo _ _⟩
 case round=>
  obtain⟨k,hk,rfl,hrk,hbl⟩:=hrel;clear HE3;have HBL:=zH (Lc HB0.out hbl);have HW:=zH hbl;have d0:=Lb hbl (by omega) HX0.out;obtain⟨q0,q1,q2,q3,_⟩:=Kb d0;clear d0 hbl
  by_cases hlt:k<cs.length
  . have HC:=zH (fun (w':Ba) (h:CAt w' w'.heap.size A cs)=>HONE.out k hlt w' h)
    have hbd:=zH (hbd.out k hlt);have hon:=zH (hon.out k hlt);obtain⟨ev,hev⟩:=Ki (cE k hlt);rw[hev] at HC hbd hon;have HAr:=zH ((HA.out.keep HBL.out).more HBL.out.size);clear hev HONE hen;go_wp2_with fail;refine(HC.out _ HAr.out).mono ?_;rintro e w1 ⟨rfl,hb1⟩;have BL1:=zH (Lc HBL.out hb1);have BW1:=zH (Lc HW.out hb1);clear hb1 HC
    by_cases he:ev=0
    . subst he
      have hR:=zH (hrk.out.trans (hon.out (by simp)));clear hrk hbd hon;go_wp2_with fail
      go_roundw
      case rel=>exact⟨k+1,by omega,by go_num,hR,BW1.out⟩
      case measure=>simp[intOf];omega
    . have hR:=zH (hrk.out.trans (hbd.out he))
      have e0:(ev != 0)=true:=by simpa using he
      clear hrk hbd hon he;go_wp2_with fail;go_ret;exact⟨zk hR.out.symm,BL1.out⟩
  . obtain rfl:k=cs.length:=by omega
    have HR:=zH (hrk.out.trans hen.out);clear hrk;go_wp2_with fail;go_ret;exact⟨zk HR.out.symm,HBL.out⟩
def jG(t:Tk):Bool:=decide (t.cases.length<=30)&&t.cases.all fun c=>decide (c.inp.length<=10)&&jF c.out 30&&jF c.calm 30
theorem fewl_iff{l:List (List Int)}:jF l 30=true↔FewL l:=by
 unfold jF FewL;simp
theorem QT{t:Tk}:jG t=true↔FewT t:=by
 unfold jG FewT FewC;simp only[Bool.and_eq_true,decide_eq_true_eq,List.all_eq_true,fewl_iff,and_assoc]
end
section
open Go.RowKit
attribute [local go_sem] Oper.semAt_some
def okC(c:Cs):Bool:=decide (c.inp.length<=10)&&jF c.out 30&&jF c.calm 30
theorem fewTB_eq(t:Tk):jG t=(decide (t.cases.length<=30)&&t.cases.all okC):=rfl
def LowC(c:Cs):Prop:=c.inp.length<=17592186044416/\c.out.length<=17592186044416/\c.calm.length<=17592186044416/\(∀v∈c.out,v.length<=17592186044416)/\∀v∈c.calm,v.length<=17592186044416
theorem rfewT_any(t:Tk)(A:Bb)(kc:Nat)(hl:t.cases.length<=17592186044416)(hll:∀c∈t.cases,LowC c)(w:Ba)(hA:CAt w w.heap.size A t.cases) :
  Calls Tryz.prog 29 #[.agg #[.int .i64 t.n,.int .i64 t.ins,.int .i64 t.outs,.slice A t.cases.length kc]] w fun e w'=>e=.returned (.bool (jG t))/\Below w.heap.size w w':=by
 have HLL:=zH hll;have H:Hid (jG t=(decide (t.cases.length<=30)&&t.cases.all okC)):=fewTB_eq t;obtain⟨r,hr⟩:=Ki (jG t);rw[hr] at H ⊢;obtain⟨w1,hw1⟩:=Ki (w.alloc (.cells #[.int .i64 t.n,.int .i64 t.ins,.int .i64 t.outs,.slice A t.cases.length kc] 24));have hbb:=zw w (.cells #[.int .i64 t.n,.int .i64 t.ins,.int .i64 t.outs,.slice A t.cases.length kc] 24);have hb01:Below w.heap.size w w1:=by rw[<-hw1];exact zW w _
 have hsz1:w1.heap.size=w.heap.size+1:=by rw[<-hw1];simp
 rw[hw1] at hbb;have HBB:=zH hbb;have HB01:=zH hb01;have HA:=zH ((hA.keep hb01).more (by omega:w.heap.size<=w1.heap.size));have HW1:=zH hw1;have q3:=zh hbb 3 rfl;clear hA hw1 hb01 hbb hll hr;go_enter Tryz.func29,Tryz.ntmps29
 by_cases hc:t.cases.length<=30
 case neg=>
  have hR:Hid (r=false):=H.out.trans (by rw[Li hc,NZ]);clear H;go_wp2_with fail;rw[HW1.out];go_wp2_with fail
  all_goals first | (exfalso;omega) | skip
  go_ret;exact⟨zm hR.out.symm,HB01.out⟩
 case pos=>
 have HR:Hid (r=(t.cases.drop 0).all okC):=H.out.trans (by rw[Lk hc,Nv,L4]);clear H;go_wp2_with fail;rw[HW1.out];go_wp2_with fail
 all_goals first | (exfalso;omega) | skip
 clear q3 HW1
 go_loopw [3] (fun i wr=>∃k:Nat,k<=t.cases.length/\i=.int .i64 (k:Int)/\Hid (r=(t.cases.drop k).all okC)/\Hid (Below w1.heap.size w1 wr)) (fun i _=>t.cases.length-(intOf i).toNat)
 case atStart=>exact⟨0,by omega,rfl,HR,Lo _ _⟩
 case round=>
  clear HR;obtain⟨k,hk,rfl,hp,hb⟩:=hrel;have hbk:=La hb.out HBB.out;have q3:=zh hbk 3 rfl;clear hbk
  by_cases hlt:k<t.cases.length
  case neg=>
   have hR:Hid (r=true):=hp.out.trans (all_end (by omega));obtain rfl:k=t.cases.length:=by omega
   clear hp;go_wp2_with fail;go_ret;exact⟨zm hR.out.symm,HB01.out.trans (hb.out.mono (by omega))⟩
  case pos=>
  obtain⟨b,o,A0,c0,A1,c1,A2,c2,e',hbB,d0,d1,d2,I0,I1,I2⟩:=(HA.out.keep hb.out).row k hlt;subst e';have hst:=Jc (p:=okC) hlt;obtain⟨l0,l1,l2,l3,l4⟩:=HLL.out _ (Ld hlt);have hbx:=hb.out.size;have hf1:=fun (W:Ba) (hW:Below wr.heap.size wr W)=>QS A1 c1 t.cases[k].out l1 l3 W (((I1.more hbx).keep hW).more hW.size)
  have hf2:=fun (W:Ba) (hW:Below wr.heap.size wr W)=>QS A2 c2 t.cases[k].calm l2 l4 W (((I2.more hbx).keep hW).more hW.size)
  unfold okC at hst;obtain⟨c,hcc⟩:=Ki (t.cases[k]);rw[hcc] at d0 d1 d2 l0 l1 l2 hst hf1 hf2;obtain⟨b1,hb1⟩:=Ki (jF c.out 30);obtain⟨b2,hb2⟩:=Ki (jF c.calm 30);rw[hb1] at hst hf1;rw[hb2] at hst hf2;obtain⟨wc,hwc⟩:=Ki (wr.alloc (.cells #[.slice A0 c.inp.length c0,.slice A1 c.out.length c1,.slice A2 c.calm.length c2] 87));have hcb:=zw wr (.cells #[.slice A0 c.inp.length c0,.slice A1 c.out.length c1,.slice A2 c.calm.length c2] 87);have hwb:Below wr.heap.size wr wc:=by rw[<-hwc];exact zW wr _
  rw[hwc] at hcb;obtain⟨p0,p1,p2,_⟩:=Kc hcb;have HF1:=zH (hf1 wc hwb);have HF2:=zH (hf2 wc hwb);have HBW:=zH (hb.out.trans (hwb.mono hbx));have HWC:=zH hwc;have HST:=zH (hp.out.trans hst);obtain⟨il,hil⟩:=Ki c.inp.length;rw[hil] at d0 l0 HST HWC p0;clear hp hst hf1 hf2 hwc hwb hcb hb1 hb2 hcc hil I0 I1 I2
  by_cases hi:il<=10
  case neg=>
   have hR:Hid (r=false):=HST.out.trans (by rw[Li hi];rfl);clear HST HF1 HF2;go_wp2_with fail;rw[HWC.out];go_wp2_with fail
   all_goals first | (exfalso;omega) | skip
   go_ret;exact⟨zm hR.out.symm,HB01.out.trans (HBW.out.mono (by omega))⟩
  case pos=>
  have HS2:Hid (r=((b1&&b2)&&(t.cases.drop (k+1)).all okC)):=HST.out.trans (by rw[Lk hi,Nv];rfl);clear HST;go_wp2_with fail;rw[HWC.out];go_wp2_with fail
  all_goals first | (exfalso;omega) | skip
  refine HF1.out.mono ?_;rintro e w2 ⟨rfl,rfl⟩;clear HF1
  cases b1 with
  | false=>
   have hR:Hid (r=false):=HS2.out;clear HS2 HF2;go_wp2_with fail;go_ret;exact⟨zm hR.out.symm,HB01.out.trans (HBW.out.mono (by omega))⟩
  | true=>
  go_wp2_with fail;refine HF2.out.mono ?_;rintro e w2 ⟨rfl,hw2⟩;obtain rfl:=hw2.symm;clear HF2
  cases b2 with
  | false=>
   have hR:Hid (r=false):=HS2.out;clear HS2;go_wp2_with fail;go_ret;exact⟨zm hR.out.symm,HB01.out.trans (HBW.out.mono (by omega))⟩
  | true=>
   have hR:Hid (r=(t.cases.drop (k+1)).all okC):=HS2.out;clear HS2;go_wp2_with fail
   go_roundw
   case rel=>exact⟨k+1,by omega,by go_num,hR,HBW⟩
   case measure=>simp[intOf];omega
def LowT(t:Tk):Prop:=t.cases.length<=17592186044416/\∀c∈t.cases,LowC c
theorem tk_eq{a b:Tk}(h1:a.n=b.n)(h2:a.ins=b.ins)(h3:a.outs=b.outs)(h4:a.cases=b.cases):a=b:=by cases a;cases b;simp_all
theorem cs_eq{a b:Cs}(h1:a.inp=b.inp)(h2:a.out=b.out)(h3:a.calm=b.calm):a=b:=by cases a;cases b;simp_all
def TwoCs(w0:Ba)(c1 c2:Array Value)(s t:Value)(wx:Ba):Prop:=
 ∃g h:Nat,s=.pointer (some ⟨g,0,none⟩)/\t=.pointer (some ⟨h,0,none⟩)/\wx.heap[g]?=some (.cells c1 87 (0,0))/\wx.heap[h]?=some (.cells c2 87 (0,0))/\Below w0.heap.size w0 wx
theorem Jq(a b:Tk)(ha:LowT a)(hb:LowT b)(A B:Bb)(ca cb:Nat)(w:Ba)(hA:CAt w w.heap.size A a.cases)(hB:CAt w w.heap.size B b.cases) :
  Calls Tryz.prog 153 #[.agg #[.int .i64 a.n,.int .i64 a.ins,.int .i64 a.outs,.slice A a.cases.length ca],.agg #[.int .i64 b.n,.int .i64 b.ins,.int .i64 b.outs,.slice B b.cases.length cb]] w fun e w'=>e=.returned (.bool (decide (a=b)))/\Below w.heap.size w w':=by
 obtain⟨ha1,ha2⟩:=ha;obtain⟨hb1,hb2⟩:=hb;have HX3:=zH ha2;have HY3:=zH hb2;obtain⟨w1,hw1,d0,d1,hs1,hBw⟩:=yB w #[.int .i64 a.n,.int .i64 a.ins,.int .i64 a.outs,.slice A a.cases.length ca] #[.int .i64 b.n,.int .i64 b.ins,.int .i64 b.outs,.slice B b.cases.length cb] 24 24;have HA:=zH ((hA.keep hBw).more hBw.size);have HB:=zH ((hB.keep hBw).more hBw.size);have HBW:=zH hBw;have HD0:=zH d0;have HD1:=zH d1;have HW1:=zH hw1;obtain⟨p0,p1,p2,p3,_⟩:=Kb d0;obtain⟨q0,q1,q2,q3,_⟩:=Kb d1;clear hw1 d0 d1 hBw hA hB ha2 hb2;have HT:Hid (a≠b->decide (a=b)=false):=fun h=>Li h
 have HU:Hid (a=b->decide (a=b)=true):=fun h=>Lk h
 obtain⟨r,hr⟩:∃r,decide (a=b)=r:=⟨_,rfl⟩;rw[hr] at HT HU ⊢;clear hr;go_enter Tryz.func153,Tryz.ntmps153
 by_cases h1:a.n=b.n/\a.ins=b.ins/\a.outs=b.outs/\a.cases.length=b.cases.length
 case neg=>
  have hR:=zH (HT.out (fun h=>h1 (by rw[h];exact⟨rfl,rfl,rfl,rfl⟩)));clear HT HU
  by_cases k1:a.n=b.n
  case neg=>
   have e0:(a.n != b.n)=true:=by simpa using k1
   clear h1;go_wp2_with fail;rw[HW1.out];go_wp2_with fail
   all_goals
    go_ret;exact⟨zm hR.out.symm,HBW.out⟩
  case pos=>
  have e0:(a.n != b.n)=false:=by simpa using k1
  by_cases k2:a.ins=b.ins
  case neg=>
   have e1:(a.ins != b.ins)=true:=by simpa using k2
   clear h1 k1;go_wp2_with fail;rw[HW1.out];go_wp2_with fail
   all_goals
    go_ret;exact⟨zm hR.out.symm,HBW.out⟩
  case pos=>
  have e1:(a.ins != b.ins)=false:=by simpa using k2
  by_cases k3:a.outs=b.outs
  case neg=>
   have e2:(a.outs != b.outs)=true:=by simpa using k3
   clear h1 k1 k2;go_wp2_with fail;rw[HW1.out];go_wp2_with fail
   all_goals
    go_ret;exact⟨zm hR.out.symm,HBW.out⟩
  case pos=>
  have e2:(a.outs != b.outs)=false:=by simpa using k3
  have k4:a.cases.length≠b.cases.length:=fun h=>h1 ⟨k1,k2,k3,h⟩
  have e3:((a.cases.length:Int) != (b.cases.length:Int))=true:=by simp;omega
  clear h1 k1 k2 k3;go_wp2_with fail;rw[HW1.out];go_wp2_with fail
  all_goals
   go_ret;exact⟨zm hR.out.symm,HBW.out⟩
 case pos=>
 obtain⟨k1,k2,k3,k4⟩:=h1;have H3:Hid (a.cases=b.cases->r=true):=fun h=>HU.out (tk_eq k1 k2 k3 h)
 have H4:Hid (a.cases≠b.cases->r=false):=fun h=>HT.out (fun e=>h (congrArg Tk.cases e))
 have HL:=zH k4;rw[k1] at p0 HW1 HD0 ⊢;rw[k2] at p1 HW1 HD0 ⊢;rw[k3] at p2 HW1 HD0 ⊢;rw[<-k4] at q3 hb1 HW1 HD1 ⊢;clear k1 k2 k3 k4 HT HU;go_wp2_with fail;rw[HW1.out];go_wp2_with fail;clear p0 p1 p2 p3 q0 q1 q2 q3 HW1
 go_loopw [5] (fun i wr=>∃k:Nat,k<=a.cases.length/\i=.int .i64 (k:Int)/\Hid (a.cases.take k=b.cases.take k)/\Hid (Below w1.heap.size w1 wr)) (fun i _=>a.cases.length-(intOf i).toNat)
 case atStart=>exact⟨0,by omega,rfl,by rw[Hid,LS,LS],Lo _ _⟩
 case round=>
  obtain⟨k,hk,rfl,hp,hbl⟩:=hrel;have p3:=zh (La hbl.out HD0.out) 3 rfl;have q3:=zh (La hbl.out HD1.out) 3 rfl;have HLy:=HL.out
  by_cases hlt:k<a.cases.length
  case neg=>
   obtain rfl:k=a.cases.length:=by omega
   have hR:=zH (H3.out (qA HL.out hp.out));clear H3 H4 hp;go_wp2_with fail;go_ret;exact⟨zm hR.out.symm,Lc HBW.out hbl.out⟩
  case pos=>
  have hky:k<b.cases.length:=by omega
  clear HLy;obtain⟨ba,oa,A0,m0,A1,m1,A2,m2,ea,hba,a0,a1,a2,IA0,IA1,IA2⟩:=(HA.out.keep hbl.out).row k hlt;obtain⟨bb,ob,B0,n0,B1,n1,B2,n2,eb,hbb,b0,b1,b2,IB0,IB1,IB2⟩:=(HB.out.keep hbl.out).row k hky;subst ea;subst eb;have hxk:=zH (HX3.out _ (Ld hlt));have hyk:=zH (HY3.out _ (Ld hky));have h0:Hid (a.cases[k]=b.cases[k]->a.cases.take (k+1)=b.cases.take (k+1)):=fun he=>xt hp.out hlt hky he
  have hN:Hid (a.cases[k]≠b.cases[k]->r=false):=fun he=>H4.out (fun h=>he (by simp only[h]))
  obtain⟨X,hX⟩:=Ki (a.cases[k]);obtain⟨Y,hY⟩:=Ki (b.cases[k]);rw[hX] at a0 a1 a2 IA0 IA1 IA2 hxk h0 hN;rw[hY] at b0 b1 b2 IB0 IB1 IB2 hyk h0 hN;clear hX hY hp;have hwr:=hbl.out.size;have HI:=zH (fun (W:Ba) (hW:Below wr.heap.size wr W)=>(⟨((IA0.more hwr).keep hW).more hW.size,((IA1.more hwr).keep hW).more hW.size,((IA2.more hwr).keep hW).more hW.size⟩:IAt W W.heap.size A0 X.inp/\LAt W W.heap.size A1 X.out/\LAt W W.heap.size A2 X.calm));have HJ:=zH (fun (W:Ba) (hW:Below wr.heap.size wr W)=>(⟨((IB0.more hwr).keep hW).more hW.size,((IB1.more hwr).keep hW).more hW.size,((IB2.more hwr).keep hW).more hW.size⟩:IAt W W.heap.size B0 Y.inp/\LAt W W.heap.size B1 Y.out/\LAt W W.heap.size B2 Y.calm));clear IA0 IA1 IA2 IB0 IB1 IB2;have hl0:w.heap.size<wr.heap.size:=by have:=zj HD0.out;omega
  have hl1:w.heap.size+1<wr.heap.size:=by have:=zj HD1.out;omega
  have hba':ba<wr.heap.size:=by omega
  have hbb':bb<wr.heap.size:=by omega
  have HKP:Hid (∀W,Below wr.heap.size wr W->W.cell? ⟨w.heap.size,3,none⟩=some (.slice (some ⟨ba,oa,none⟩) a.cases.length ca)/\W.cell? ⟨w.heap.size+1,3,none⟩=some (.slice (some ⟨bb,ob,none⟩) a.cases.length cb) /\
    W.cell? ⟨ba,oa+k*3,none⟩=some (.slice A0 X.inp.length m0)/\W.cell? ⟨ba,oa+k*3+1,none⟩=some (.slice A1 X.out.length m1)/\W.cell? ⟨ba,oa+k*3+2,none⟩=some (.slice A2 X.calm.length m2) /\
    W.cell? ⟨bb,ob+k*3,none⟩=some (.slice B0 Y.inp.length n0)/\W.cell? ⟨bb,ob+k*3+1,none⟩=some (.slice B1 Y.out.length n1)/\W.cell? ⟨bb,ob+k*3+2,none⟩=some (.slice B2 Y.calm.length n2)):=fun W hW=>
   ⟨(hW.cell (p:=⟨_,_,none⟩) hl0).trans p3,(hW.cell (p:=⟨_,_,none⟩) hl1).trans q3,(hW.cell (p:=⟨_,_,none⟩) hba').trans a0,(hW.cell (p:=⟨_,_,none⟩) hba').trans a1,(hW.cell (p:=⟨_,_,none⟩) hba').trans a2,
    (hW.cell (p:=⟨_,_,none⟩) hbb').trans b0,(hW.cell (p:=⟨_,_,none⟩) hbb').trans b1,(hW.cell (p:=⟨_,_,none⟩) hbb').trans b2⟩
  have hk0:(0:Int)<=(k:Int):=by omega
  have hk1:(k:Int)<(a.cases.length:Int):=by omega
  go_wp2_with fail
  go_cut [6,7] (fun s6 s7 wx=>TwoCs wr #[.slice A0 X.inp.length m0,.slice A1 X.out.length m1,.slice A2 X.calm.length m2] #[.slice B0 Y.inp.length n0,.slice B1 Y.out.length n1,.slice B2 Y.calm.length n2] s6 s7 wx)
  case first=>
   go_region_held3 (fun W=>W.cell? ⟨w.heap.size,3,none⟩=some (.slice (some ⟨ba,oa,none⟩) a.cases.length ca)/\W.cell? ⟨w.heap.size+1,3,none⟩=some (.slice (some ⟨bb,ob,none⟩) a.cases.length cb) /\
    W.cell? ⟨ba,oa+k*3,none⟩=some (.slice A0 X.inp.length m0)/\W.cell? ⟨ba,oa+k*3+1,none⟩=some (.slice A1 X.out.length m1)/\W.cell? ⟨ba,oa+k*3+2,none⟩=some (.slice A2 X.calm.length m2) /\
    W.cell? ⟨bb,ob+k*3,none⟩=some (.slice B0 Y.inp.length n0)/\W.cell? ⟨bb,ob+k*3+1,none⟩=some (.slice B1 Y.out.length n1)/\W.cell? ⟨bb,ob+k*3+2,none⟩=some (.slice B2 Y.calm.length n2))
    (first | exact⟨p3,q3,a0,a1,a2,b0,b1,b2⟩ | exact HKP.out _ (by first | exact(zW wr _).drew | exact zW wr _ | exact(kh wr _ _).drew | exact kh wr _ _))
    (fail)
   all_goals
    go_wp2_with fail
    go_meet
   . exact⟨_,_,rfl,rfl,yM (zw wr _) _,(by have:=zw (wr.alloc (.cells #[.slice A0 X.inp.length m0,.slice A1 X.out.length m1,.slice A2 X.calm.length m2] 87)) (.cells #[.slice B0 Y.inp.length n0,.slice B1 Y.out.length n1,.slice B2 Y.calm.length n2] 87);rwa[Nw] at this),by first | exact kh wr _ _ | exact(kh wr _ _).drew⟩
   . exact⟨_,_,rfl,rfl,(by have:=zw (wr.alloc (.cells #[.slice B0 Y.inp.length n0,.slice B1 Y.out.length n1,.slice B2 Y.calm.length n2] 87)) (.cells #[.slice A0 X.inp.length m0,.slice A1 X.out.length m1,.slice A2 X.calm.length m2] 87);rwa[Nw] at this),yM (zw wr _) _,by first | exact kh wr _ _ | exact(kh wr _ _).drew⟩
  case rest=>
   obtain⟨g,h,rfl,rfl,G,H,hbx⟩:=hcut;obtain⟨g0,g1,g2,_⟩:=Kc G;obtain⟨j0,j1,j2,_⟩:=Kc H;have HBX:=zH (hbl.out.trans (hbx.mono hwr));have HO:=zH (xA A0 B0 m0 n0 X.inp Y.inp hxk.out.1 hyk.out.1 wc (HI.out wc hbx).1 (HJ.out wc hbx).1);have HV1:=zH (fun m=>vg A1 B1 m1 n1 X.out Y.out hxk.out.2.1 hyk.out.2.1 hxk.out.2.2.2.1 hyk.out.2.2.2.1 (wc.drewN m) (HI.out wc hbx).2.1 (HJ.out wc hbx).2.1);have HV2:=zH (fun m=>vg A2 B2 m2 n2 X.calm Y.calm hxk.out.2.2.1 hyk.out.2.2.1 hxk.out.2.2.2.2 hyk.out.2.2.2.2 (wc.drewN m) (HI.out wc hbx).2.2 (HJ.out wc hbx).2.2);have hE1:X.inp≠Y.inp->Hid (r=false):=fun h=>hN.out (fun e=>h (by rw[e]))
   have hE2:X.out≠Y.out->Hid (r=false):=fun h=>hN.out (fun e=>h (by rw[e]))
   have hE3:X.calm≠Y.calm->Hid (r=false):=fun h=>hN.out (fun e=>h (by rw[e]))
   have hE4:X.inp=Y.inp->X.out=Y.out->X.calm=Y.calm->Hid (a.cases.take (k+1)=b.cases.take (k+1)):=fun p q s=>h0.out (cs_eq p q s)
   have HE1:=zH hE1;have HE2:=zH hE2;have HE3:=zH hE3;have HE4:=zH hE4;have HZ:=zH (@qB X.inp Y.inp);have HS:=zH (fun e:X.inp=Y.inp=>show zy X.inp Y.inp=0 by rw[e];exact xB _);obtain⟨o,ho⟩:=Ki (zy X.inp Y.inp);rw[ho] at HO HZ HS;clear ho HI HJ hE1 hE2 hE3 hE4 G H hbx p3 q3 a0 a1 a2 b0 b1 b2 HKP hN h0 hxk hyk H3 H4;go_wp2_with fail;refine HO.out.mono ?_;rintro e w2 ⟨rfl,z,rfl⟩;clear HO
   by_cases t1:X.inp=Y.inp
   case neg=>
    have hR:=zH (HE1.out t1).out;have e0:(o != 0)=true:=by simpa using fun h=>t1 (HZ.out h)
    clear HE1 HE2 HE3 HE4 HZ HS HV1 HV2 t1;go_wp2_with fail
    all_goals
     go_ret;exact⟨zm hR.out.symm,zT (Lc HBW.out HBX.out) _⟩
   case pos=>
   have e0:(o != 0)=false:=by simpa using HS.out t1
   have HE5:=zH (HE4.out t1);clear HE1 HE4 HZ HS t1;go_wp2_with fail;refine(HV1.out z).mono ?_;rintro e w2 ⟨rfl,z2,rfl⟩;clear HV1
   by_cases t2:X.out=Y.out
   case neg=>
    have hR:=zH (HE2.out t2).out;rw[Li t2];clear HE2 HE3 HE5 HV2 t2;go_wp2_with fail
    all_goals
     go_ret;exact⟨zm hR.out.symm,by repeat (first | exact Lc HBW.out HBX.out | refine zT ?_ _)⟩
   case pos=>
   have HE6:=zH (HE5.out t2);rw[Lk t2];clear HE2 HE5 t2;go_wp2_with fail;refine(HV2.out (z+z2)).mono ?_;rintro e w2 ⟨rfl,z3,rfl⟩;clear HV2
   by_cases t3:X.calm=Y.calm
   case neg=>
    have hR:=zH (HE3.out t3).out;rw[Li t3];clear HE3 HE6 t3;go_wp2_with fail
    all_goals
     go_ret;exact⟨zm hR.out.symm,by repeat (first | exact Lc HBW.out HBX.out | refine zT ?_ _)⟩
   case pos=>
    have hR:=zH (HE6.out t3).out;rw[Lk t3];clear HE3 HE6 t3;go_wp2_with fail
    go_roundw
    case rel=>exact⟨k+1,by omega,by go_num,hR,by repeat (first | exact HBX.out | refine zT ?_ _)⟩
    case measure=>simp[intOf];omega
end
section
open Go.RowKit
def FewA(a:Ad):Prop:=a.sts.length<=8/\a.mvs.length<=40
theorem FewA.each{a:Ad}(h:FewA a){l:List Mv}(hl:l∈a.sts):l.length<=40:=by
 refine Lz ?_ h.2;unfold Ad.mvs;obtain⟨i,hi,rfl⟩:=NY.1 hl;exact(List.sublist_flatten_of_mem (Ld hi)).length_le
theorem wT{a:Ad}{p:Option Mv}{m:Mv}(h:yi m.r≠0):qb a p m=yi m.r:=Lh h
theorem moveE_n{a:Ad}{p:Option Mv}{m:Mv}(h:yi m.r=0)(h2:m.r.n≠a.n):qb a p m=22:=by unfold qb;rw[Lg (by simpa using h),Lh h2]
theorem wU{a:Ad}{p:Option Mv}{m:Mv}(h:yi m.r=0)(h2:m.r.n=a.n)(h3:Yr p m=true):qb a p m=14:=by unfold qb;rw[Lg (by simpa using h),Lg (by simpa using h2),Lh h3]
theorem Qy{a:Ad}{p:Option Mv}{m:Mv}(h:yi m.r=0)(h2:m.r.n=a.n)(h3:Yr p m=false)(h4:m.to<0\/(a.sts.length:Int)<=m.to):qb a p m=2:=by unfold qb;rw[Lg (by simpa using h),Lg (by simpa using h2),Lg (by rw[h3];decide),Lh h4]
theorem Qz{a:Ad}{p:Option Mv}{m:Mv}(h:yi m.r=0)(h2:m.r.n=a.n)(h3:Yr p m=false)(h4:¬(m.to<0\/(a.sts.length:Int)<=m.to)):qb a p m=0:=by unfold qb;rw[Lg (by simpa using h),Lg (by simpa using h2),Lg (by rw[h3];decide),Lg h4]
theorem wG{a:Ad}{l:List Mv}(h:l.length=0):qp a l=19:=Lh h
theorem Zd{a:Ad}{l:List Mv}(h:l.length≠0):qp a l=xV a l 0:=Lg h
theorem state_any(a:Ad)(SV:Bb)(ks:Nat)(_hsl:a.sts.length<=8)(A:Bb)(k0:Nat)(l:List Mv)(hl:l.length<=40)(w:Ba)(hA:MAt w w.heap.size A l) :
  Calls Tryz.prog 163 #[.agg #[.int .i64 a.n,.slice SV a.sts.length ks],.slice A l.length k0] w fun e w'=>e=.returned (.int .i64 (qp a l))/\Below w.heap.size w w':=by
 have HA:=zH hA;have HE1:=zH (@wG a l);have HE2:=zH (@Zd a l);obtain⟨E,hE⟩:=Ki (qp a l);rw[hE] at HE1 HE2 ⊢;clear hA hE
 by_cases hz:l.length=0
 . have hR:=zH (HE1.out hz)
   have e0:((l.length:Int)==0)=true:=by simp[hz]
   clear HE1 HE2 hz;go_enter Tryz.func163,Tryz.ntmps163;go_wp2_with fail;go_ret;exact⟨zk hR.out.symm,zW w _⟩
 have HE:=zH (HE2.out hz);have e0:((l.length:Int)==0)=false:=Rt.2 (by omega);clear HE1 HE2 hz;go_enter Tryz.func163,Tryz.ntmps163;go_wp2_with fail
 obtain⟨W0,hW0,b0,hsz,hB0⟩:∃W0,w.alloc (.cells #[.int .i64 a.n,.slice SV a.sts.length ks] 27)=W0/\W0.heap[w.heap.size]?=some (.cells #[.int .i64 a.n,.slice SV a.sts.length ks] 27 (0,0))/\w.heap.size+1<=W0.heap.size/\Below w.heap.size w W0:=
  ⟨_,rfl,zw _ _,by simp,zW w _⟩
 rw[hW0];have HB0:=zH hB0;have HX0:=zH b0;clear hW0 hB0 b0 e0
 go_loopw [13] (fun i wr=>∃k:Nat,k<=l.length/\i=.int .i64 (k:Int)/\Hid (E=xV a l k)/\Below W0.heap.size W0 wr) (fun i _=>l.length-(intOf i).toNat)
 case atStart=>exact⟨0,by omega,rfl,HE,Lo _ _⟩
 case round=>
  obtain⟨k,hk,rfl,hrk,hbl⟩:=hrel;clear HE;have HBL:=zH (Lc HB0.out hbl);have HW:=zH hbl;clear hbl
  by_cases hlt:k<l.length
  . obtain⟨b,o,rfl,hbB,c0,c1,c2,c3,c4,c5,c6,c7⟩:=(HA.out.keep HBL.out).row k hlt
    have hbd:=zH (@wS a l k hlt);have hon:=zH (@ZB a l k hlt);have hb:=HBL.out.size;have hws:w.heap.size<wr.heap.size:=by have:=HW.out.size;omega
    obtain⟨bo,hbo⟩:=Ki (Yr (zD l k) l[k]);have HBO:=zH hbo;have m1:=zH (@wT a (zD l k) l[k]);have m2:=zH (@moveE_n a (zD l k) l[k]);have m3:=zH (@wU a (zD l k) l[k]);have m4:=zH (@Qy a (zD l k) l[k]);have m5:=zH (@Qz a (zD l k) l[k]);rw[hbo] at m3 m4 m5;obtain⟨m,hm⟩:=Ki (l[k]);have HX:=zH hm;obtain⟨mE,hmE⟩:=Ki (qb a (zD l k) l[k]);rw[hmE] at hbd hon m1 m2 m3 m4 m5;rw[hm] at c0 c1 c2 c3 c4 c5 c6 c7 m1 m2 m3 m4 m5;have HR:=zH (fun w'=>Zn m.r w');obtain⟨rE,hrE⟩:=Ki (yi m.r);rw[hrE] at m1 m2 m3 m4 m5 HR;unfold Rd.cells at HR;clear hbo hm hmE hrE;go_wp2_with fail
    obtain⟨W1,hW1,b1,hs1,hB1⟩:∃W1,wr.alloc (.cells #[.int .i64 m.r.n,.int .i64 m.r.h0,.int .i64 m.r.h1,.int .i64 m.r.h2,.int .i64 m.r.h3,.int .i64 m.r.h4,.int .i64 m.r.f,.int .i64 m.to] 94)=W1/\W1.heap[wr.heap.size]?=some (.cells #[.int .i64 m.r.n,.int .i64 m.r.h0,.int .i64 m.r.h1,.int .i64 m.r.h2,.int .i64 m.r.h3,.int .i64 m.r.h4,.int .i64 m.r.f,.int .i64 m.to] 94 (0,0))/\wr.heap.size+1<=W1.heap.size/\Below wr.heap.size wr W1:=
     ⟨_,rfl,zw _ _,by simp,zW wr _⟩
    rw[hW1];refine(HR.out W1).mono ?_;rintro e w1 ⟨rfl,hb1⟩;have BL1:=zH ((HBL.out.trans (hB1.mono hb)).trans (hb1.mono (by have:=hB1.size;omega)));have BW1:=zH ((Lc HW.out hB1).trans (hb1.mono (by have:=hB1.size;have:=HW.out.size;omega)));have d0:=Lb BW1.out (by omega) HX0.out;have d1:=Lb hb1 (by omega) b1;have HD1:=zH d1;have HD0:=zH d0;obtain⟨q0,q1,_⟩:=Ka d0;obtain⟨p0,p1,p2,p3,p4,p5,p6,p7,_⟩:=Ke d1;have hsw:=zj d1;clear hW1 b1 hB1 hb1 d0 d1 c0 c1 c2 c3 c4 c5 c6 c7 HR
    by_cases hr:rE=0
    case neg=>
     have he:=m1.out hr;have hR:=zH (hrk.out.trans ((hbd.out (by rw[he];exact hr)).trans he));have e0:(rE != 0)=true:=by simpa using hr
     clear hbd hon m1 m2 m3 m4 m5 he hr hrk HBO HX;go_wp2_with fail;go_ret;exact⟨zk hR.out.symm,BL1.out⟩
    case pos=>
    subst hr;clear m1
    by_cases hn:m.r.n=a.n
    case neg=>
     have he:=m2.out (by simp) hn;have hR:=zH (hrk.out.trans ((hbd.out (by rw[he];decide)).trans he));have e0:(m.r.n != a.n)=true:=by simpa using hn
     clear hbd hon m2 m3 m4 m5 he hn hrk HBO HX;go_wp2_with fail;go_ret;exact⟨zk hR.out.symm,BL1.out⟩
    case pos=>
    have e0:(m.r.n != a.n)=false:=by simpa using hn
    have n3:=zH (m3.out (by simp) hn);have n4:=zH (m4.out (by simp) hn);have n5:=zH (m5.out (by simp) hn);clear m2 hn m3 m4 m5
    cases k with
    | zero=>
     obtain rfl:bo=false:=by rw[<-HBO.out];rfl
     have g0:decide ((0:Int)<0)=false:=by decide
     clear HBO HX n3;go_wp2_with fail;go_quiet (fail)
     by_cases ht:m.to<0\/(a.sts.length:Int)<=m.to
     . have he:=n4.out (by simp) ht
       have hR:=zH (hrk.out.trans ((hbd.out (by rw[he];decide)).trans he));clear hbd hon n4 n5 he hrk
       by_cases ht0:m.to<0
       . clear ht
         go_wp2_with fail;go_ret;exact⟨zk hR.out.symm,zT BL1.out _⟩
       . have ht1:(a.sts.length:Int)<=m.to:=by omega
         clear ht;go_wp2_with fail
         all_goals first | (exfalso;omega) | skip
         go_ret;exact⟨zk hR.out.symm,zT BL1.out _⟩
     . have hR:=zH (hrk.out.trans (hon.out (n5.out (by simp) ht)))
       have ht0:¬m.to<0:=by omega
       have ht1:¬(a.sts.length:Int)<=m.to:=by omega
       clear hbd hon n4 n5 hrk ht;go_wp2_with fail
       all_goals first | (exfalso;omega) | skip
       go_roundw
       case rel=>exact⟨0+1,by omega,by go_num,hR,zT BW1.out _⟩
       case measure=>simp[intOf];omega
    | succ j=>
     have hj:j<l.length:=by omega
     have hbj:Yr (zD l (j+1)) l[j+1]=decide (0<=zy l[j].r.l l[j+1].r.l):=by rw[yq l j hj];rfl
     rw[HX.out] at hbj;rw[show Yr (zD l (j+1)) m=bo by have:=HBO.out;rwa[HX.out] at this] at hbj;obtain⟨b',o',e',_,u0,u1,u2,u3,u4,u5,u6,u7⟩:=(HA.out.keep BL1.out).row j hj
     cases e'
     have hc:=fun w'=>Yd l[j].r m.r w'
     obtain⟨mj,hmj⟩:=Ki (l[j]);rw[hmj] at hbj hc u0 u1 u2 u3 u4 u5 u6 u7;obtain⟨r,hr⟩:=Ki (zy mj.r.l m.r.l);rw[hr] at hbj hc;unfold Rd.cells at hc;have HBJ:=zH hbj;have HC:=zH hc;have g1:((j:Int)+1).toNat=j+1:=by omega
     have g3:IntKind.i64.wrap ((j:Int)+1-1)=(j:Int):=by rw[Lp];omega
     have g5:IntKind.i64.wrap ((j:Int)+1)=(j:Int)+1:=by rw[Lp];omega
     have g6:decide ((0:Int)<(j:Int)+1)=true:=Lk (by omega);have g7:IntKind.i64.wrap (j:Int)=(j:Int):=by rw[Lp];omega
     have g8:(0:Int)<=(j:Int):=by omega
     have g9:(j:Int)<(l.length:Int):=by omega
     clear hbj hc hr hmj HBO HX;go_wp2_with fail
     go_still_tail 11,(by kernel_rfl)
     change wpList _ _ _ _ _ w1.drew;obtain⟨w2,hw2⟩:∃w2,w2=w1.drew:=⟨_,rfl⟩;have BL2:Hid (Below w.heap.size w w2):=by rw[hw2];exact BL1.out.drew
     have BW2:Hid (Below W0.heap.size W0 w2):=by rw[hw2];exact BW1.out.drew
     have HE1:Hid (w2.heap[wr.heap.size]?=some (.cells #[.int .i64 m.r.n,.int .i64 m.r.h0,.int .i64 m.r.h1,.int .i64 m.r.h2,.int .i64 m.r.h3,.int .i64 m.r.h4,.int .i64 m.r.f,.int .i64 m.to] 94 (0,0))):=by rw[hw2];exact HD1.out
     have HE0:Hid (w2.heap[w.heap.size]?=some (.cells #[.int .i64 a.n,.slice SV a.sts.length ks] 27 (0,0))):=by rw[hw2];exact HD0.out
     rw[<-hw2];clear HD0 HD1 hw2 q0 q1 p0 p1 p2 p3 p4 p5 p6 p7 u0 u1 u2 u3 u4 u5 u6 u7 g1 g3 g5 g7 g8 g9;go_wp2_with fail;refine(HC.out w2).mono ?_;rintro e w3 ⟨rfl,hb3⟩;have BL3:=zH (Lc BL2.out hb3);have BW3:=zH (Lc BW2.out hb3);have d0:=La hb3 HE0.out;have d1:=La hb3 HE1.out;obtain⟨q0,q1,_⟩:=Ka d0;have p0:=zh d1 0 rfl;have p7:=zh d1 7 rfl;clear d0 d1 hb3 HC
     cases bo with
     | true=>
      have g0':0<=r:=LF HBJ.out.symm;have he:=n3.out (by simp);have hR:=zH (hrk.out.trans ((hbd.out (by rw[he];decide)).trans he));clear hbd hon n3 n4 n5 he hrk HBJ;go_wp2_with fail
      all_goals first | (exfalso;omega) | skip
      go_ret;exact⟨zk hR.out.symm,BL3.out⟩
     | false=>
      have g0':¬0<=r:=NO HBJ.out.symm;clear n3 HBJ
      by_cases ht:m.to<0\/(a.sts.length:Int)<=m.to
      . have he:=n4.out (by simp) ht
        have hR:=zH (hrk.out.trans ((hbd.out (by rw[he];decide)).trans he));clear hbd hon n4 n5 he hrk
        by_cases ht0:m.to<0
        . clear ht
          go_wp2_with fail
          all_goals first | (exfalso;omega) | skip
          go_ret;exact⟨zk hR.out.symm,BL3.out⟩
        . have ht1:(a.sts.length:Int)<=m.to:=by omega
          clear ht;go_wp2_with fail
          all_goals first | (exfalso;omega) | skip
          go_ret;exact⟨zk hR.out.symm,BL3.out⟩
      . have hR:=zH (hrk.out.trans (hon.out (n5.out (by simp) ht)))
        have ht0:¬m.to<0:=by omega
        have ht1:¬(a.sts.length:Int)<=m.to:=by omega
        clear hbd hon n4 n5 hrk ht;go_wp2_with fail
        all_goals first | (exfalso;omega) | skip
        go_roundw
        case rel=>exact⟨j+1+1,by omega,by go_num,hR,BW3.out⟩
        case measure=>simp[intOf];omega
  . obtain rfl:k=l.length:=by omega
    have hR:=zH (hrk.out.trans wR);clear hrk;go_wp2_with fail;go_ret;exact⟨zk hR.out.symm,HBL.out⟩
end
section
open Go.RowKit Go.Shelf
structure KeepB(K:Nat->Prop)(W W':Ba):Prop where
 size:W.heap.size<=W'.heap.size
 same:∀k,K k->k<W.heap.size->W'.heap[k]?=W.heap[k]?
theorem KeepB.trans{K:Nat->Prop}{A B C:Ba}(h:KeepB K A B)(k:KeepB K B C):KeepB K A C:=
 ⟨Lz h.size k.size,fun i hi hl=>(k.same i hi (LC hl h.size)).trans (h.same i hi hl)⟩
theorem KeepB.drew(K:Nat->Prop)(W:Ba):KeepB K W W.drew:=⟨Le _,fun _ _ _=>rfl⟩
theorem KeepB.alloc(K:Nat->Prop)(W:Ba)(o:Obj):KeepB K W (W.alloc o):=⟨by simp,fun k _ hk=>NS W o k hk⟩
theorem KeepB.setCell{K:Nat->Prop}{W:Ba}{a:Addr}(h:¬K a.block)(v:Value):KeepB K W (W.setCell a v):=
 ⟨by simp[World.setCell],fun k hk _=>Lf W a v k (fun e=>h (e▸hk))⟩
theorem KeepB.of_below{K:Nat->Prop}{W W':Ba}{B:Nat}(h:Below B W W')(hK:∀k,K k->k<B):KeepB K W W':=
 ⟨h.size,fun k hk _=>h.block k (hK k hk)⟩
theorem KeepB.of_grown{K:Nat->Prop}{W W':Ba}{row:Option Nat}(h:W.grownBy W' row)(hK:∀k,row=some k->¬K k):KeepB K W W':=
 ⟨h.size,fun k hk hl=>h.block k hl (fun e=>hK k e.symm hk)⟩
theorem KeepB.mono{K K':Nat->Prop}{W W':Ba}(h:KeepB K W W')(hK:∀k,K' k->K k):KeepB K' W W':=⟨h.size,fun k hk=>h.same k (hK k hk)⟩
theorem KeepB.putObj{K:Nat->Prop}{W:Ba}{l:Nat}(h:¬K l)(o:Obj):KeepB K W (W.putObj l o):=
 ⟨by simp,fun k hk _=>Pi (fun e=>h (e▸hk))⟩
def Iter{β:Type}(P:Program)(g:Nat)(lb:Array Value)(encs:β->Array Value)(K:Nat->Prop)(xs:List β)(w:Ba):Prop:=
 ∀n,1<=n->SeqStopsK Fence.wide n P g lb (fun x:{ x:β // x∈xs }=>encs x.1) (KeepB K) (fun ys=>ys.map (·.1)=xs) (fun pre=>pre.map (·.1) <+: xs) xs.length w
section
variable {P:Program}
theorem XT{β:Type}{g:Operand}{ps:Array Tmp}{assign body:Code}{Q:Exit->Act->Ba->Prop}{a:Act}{w:Ba}
  {gf:Nat} {lb:Array Value} (hg:a.eval g=.func (.func gf) #[] lb) (eg:Enters P gf)
  {encs:β->Array Value} {K:Nat->Prop} {xs:List β} (hseq:Iter P gf lb encs K xs w) (hK:∀k,K k->k<w.heap.size) (hps:∀x,(encs x).size=ps.size)
  (I:List { x:β // x∈xs }->Ba->Prop) (Ix:Code->List { x:β // x∈xs }->Ba->Prop) (hI:OwnFrom w.heap.size I) (hIx:∀c,OwnFrom w.heap.size (Ix c)) (h0:I [] w) (a₁:{ x:β // x∈xs }->Act)
  (hassign:∀(l:Nat) (x:{ x:β // x∈xs }) (W:Ba) (K:Act->Ba->Prop),K (a₁ x) W ->
   assign.wpIn (Fence.wide.inRound l) 7 P (Exit.then K (fun _ _ _=>False)) { tmps:=(ps.zip (encs x.1)).foldl (fun t (p,v)=>t.setIfInBounds p v) a.tmps,defers:=[] } W)
  (hbody:∀(l:Nat) (pre:List { x:β // x∈xs }) (x:{ x:β // x∈xs }) (W:Ba),I pre W->pre.length<xs.length->body.wpIn (Fence.wide.inRound l) 7 P (ownPostG w.heap.size (KeepB K) I Ix (pre++[x]) W) (a₁ x) W)
  (hdone:∀(D:Nat) (ys:List { x:β // x∈xs }) (W:Ba),w.heap.size<=D->ys.map (·.1)=xs->I ys W->W.heap[D]?=some (.deferred (some []))->Q .normal { a with defers:={ target:=.collected D,args:=#[] }::a.defers } W)
  (hstop:∀(D:Nat) (c:Code) (pre:List { x:β // x∈xs }) (W:Ba),w.heap.size<=D->pre.map (·.1) <+: xs->Ix c pre W->W.heap[D]?=some (.deferred (some []))->c.wp P Q { a with defers:={ target:=.collected D,args:=#[] }::a.defers } W) :
  (Code.rangeFunc g ps assign body).wp P Q a w:=
 (RT (n:=9)).1 (wpIn_rangeFunc_ownG (F:=Fence.wide) (n:=9) rfl (by omega) hg trivial eg (hseq 8 (by omega)) KeepB.trans
  (fun W l o o' hl _ _ _=>KeepB.putObj (fun hk=>by have:=hK l hk;omega) o') (Lo _ _) (fun x=>hps x.1) I Ix hI hIx h0 a₁ hassign hbody hdone
  (fun D c pre W hD hS hc hk=>RT.2 (hstop D c pre W hD hS hc hk)))
def Marks(B:Nat)(ds:List Deferred)(w:Ba):Prop:=
 ∃rs:List Nat,ds=rs.map (fun r=>{ target:=.collected r,args:=#[] })/\rs.Nodup/\∀r∈rs,B<=r/\w.heap[r]?=some (.deferred (some []))
theorem Marks.nil(B:Nat)(w:Ba):Marks B [] w:=⟨[],rfl,List.nodup_nil,fun _ h=>by cases h⟩
structure Shut(B:Nat)(w w':Ba):Prop where
 below:Below B w w'
 same:∀(k:Nat) (o:Obj),w.heap[k]?=some o->o.isCells=true->w'.heap[k]?=some o
theorem Shut.refl(B:Nat)(w:Ba):Shut B w w:=⟨Lo _ _,fun _ _ h _=>h⟩
theorem Shut.own{B:Nat}{w w':Ba}(h:Shut B w w'){base:Nat}{e:TypeId}{size:Nat}{v:Value}{k:Nat}{xs:List Value}(hr:w.ownsRow base e size v k xs):w'.ownsRow base e size v k xs:=by
 refine⟨hr.1,?_⟩;rcases hr.2 with hn | ⟨g,cap,cur,hv,hb,hg,rest⟩
 . exact .inl hn
 . exact .inr ⟨g,cap,cur,hv,hb,h.same g _ hg rfl,rest⟩
theorem Shut.cell{B:Nat}{w w':Ba}(h:Shut B w w'){a:Addr}{v:Value}(hc:w.cell? a=some v):w'.cell? a=some v:=by
 obtain⟨o,ho,hcells⟩:=Ry hc;rw[LA ((h.same _ _ ho hcells).trans ho.symm)];exact hc
theorem ui{fn:Func}{tmps:Array Value}{R:Ending->Ba->Prop}{B n:Nat}{v:Value}(hres:∀W,(results fn tmps).run P W=.ok v W) :
  ∀(rs:List Nat) (w:Ba),rs.Nodup->(∀r∈rs,B<=r/\w.heap[r]?=some (.deferred (some [])))->(∀W,Shut B w W->R (.returned v) W) ->
   LeavesInM Fence.wide n P fn tmps R (rs.map (fun r=>{ target:=.collected r,args:=#[] })) .returning w
 | [],w,_,_,hR=>⟨v,hres w,hR w (Shut.refl _ _)⟩
 | r::rs,w,hn,hm,hR=>by
  obtain⟨hr,hn'⟩:=Pv.1 hn;obtain⟨hB,hk⟩:=hm r (by simp);refine⟨by simp,.inl ⟨r,_,rfl,run_takeDeferred hk,?_⟩⟩;refine ui hres rs _ hn' (fun r' hr'=>⟨(hm r' (by simp[hr'])).1,?_⟩) (fun W hW=>hR W ?_)
  . rw[Pi (by rintro rfl;exact hr hr')]
    exact(hm r' (by simp[hr'])).2
  . refine⟨((Lo B w).grown (grownBy_putObj' w r (.deferred none)) (by have:=(Ln.1 hk).1;omega) (fun k e=>by cases e;exact hB)).trans hW.below,fun k o ho hc=>?_⟩
    refine hW.same k o ?_ hc
    by_cases e:k=r
    . subst e;rw[hk] at ho;cases ho;cases hc
    . exact(Pi e).trans ho
theorem yK{f:FuncId}{fn:Func}{c:Code}{args:Array Value}{w:Ba}{R:Ending->Ba->Prop}
  (hf:P.funcs[f]?=some fn) (hb:fn.body=some c)
  (h:c.wp P (bodyPostM Fence.wide 9 P fn R) { tmps:=args++Array.replicate (fn.ntmps-args.size) undef,defers:=[] } w):Calls P f args w R:=
 (RH (n:=9)).1 (callsIn_of_wp_marks hf hb trivial (RT.2 h))
theorem xu{fn:Func}{R:Ending->Ba->Prop}{a:Act}{w:Ba}{B:Nat}{v:Value}(hm:Marks B a.defers w)(hres:∀W,(results fn a.tmps).run P W=.ok v W)
  (hR:∀W,Shut B w W->R (.returned v) W):bodyPostM Fence.wide 9 P fn R .ret a w:=by
 obtain⟨rs,hd,hn,hk⟩:=hm;show LeavesInM Fence.wide 9 P fn a.tmps R a.defers .returning w;rw[hd];exact ui hres rs w hn hk hR
theorem Marks.cons{B D:Nat}{ds:List Deferred}{w w':Ba}(h:Marks B ds w)(hs:∀(k:Nat),w.heap[k]?=some (Obj.deferred (some []))->w'.heap[k]?=some (Obj.deferred (some [])))
  (hB:B<=w.heap.size) (hD:w.heap.size<=D) (hk:w'.heap[D]?=some (.deferred (some []))):Marks B ({ target:=.collected D,args:=#[] }::ds) w':=by
 obtain⟨rs,rfl,hn,hr⟩:=h;refine⟨D::rs,rfl,Pv.2 ⟨fun hD'=>?_,hn⟩,fun r hr'=>?_⟩
 . have:=(Ln.1 (hr D hD').2).1;omega
 . rcases L5.1 hr' with rfl | hr'
   . exact⟨by omega,hk⟩
   . exact⟨(hr r hr').1,hs r (hr r hr').2⟩
end
end
section
open Go.RowKit Go.Shelf
attribute [local go_sem] Oper.semAt_some
def zM:Nat->List (List Mv)->List (Int×Mv)
 | _,[]=>[]
 | s,l::r=>l.map (fun m=>((s:Int),m))++zM (s+1) r
theorem Xx{xss:List (List Mv)}{s:Nat}(h:s<xss.length):zM s (xss.drop s)=(xss[s]).map (fun m=>((s:Int),m))++zM (s+1) (xss.drop (s+1)):=by
 rw[Ly h];rfl
theorem kj:∀(s:Nat) (xss:List (List Mv)),(zM s xss).map Prod.snd=xss.flatten
 | _,[]=>rfl
 | s,l::r=>by
  rw[zM,LI,kj (s+1) r,PU,Rc]
  congr 1
  exact List.map_id' l
theorem Qw(a:Ad):(zM 0 a.sts).length=a.mvs.length:=by
 rw[<-LR (f:=Prod.snd),kj];rfl
theorem Z4{B:Nat}{w w':Ba}(hs:w.heap.size<=w'.heap.size)(h:∀k,k<B->w'.heap[k]?=w.heap[k]?):Below B w { w' with os:=w.os,tape:=w.tape,output:=w.output }:=⟨rfl,rfl,rfl,hs,h⟩
theorem SAt.same{w w':Ba}{B:Nat}{A:Bb}{xss:List (List Mv)}(h:SAt w B A xss)(hs:w.heap.size<=w'.heap.size)(hk:∀k,k<B->w'.heap[k]?=w.heap[k]?):SAt w' B A xss:=by
 have h2:=h.keep (Z4 hs hk);exact h2
theorem MAt.same{w w':Ba}{B:Nat}{A:Bb}{xs:List Mv}(h:MAt w B A xs)(hs:w.heap.size<=w'.heap.size)(hk:∀k,k<B->w'.heap[k]?=w.heap[k]?):MAt w' B A xs:=by
 have h2:=h.keep (Z4 hs hk);exact h2
theorem uL(n:Int)(SV:Value)(w:Ba):Calls Tryz.prog 164 #[.agg #[.int .i64 n,SV]] w fun e w'=>
  e=.returned (.func (.func 173) #[] #[.pointer (some ⟨w.heap.size,0,none⟩)])/\w.alloc (.cells #[.int .i64 n,SV] 27)=w':=by
 go_enter Tryz.func164,Tryz.ntmps164;go_wp2;go_ret;exact⟨rfl,rfl⟩
theorem jv(a:Ad)(hf:FewA a)(SV:Bb)(ks B bx:Nat)(w:Ba)(hb:w.heap[bx]?=some (.cells #[.int .i64 a.n,.slice SV a.sts.length ks] 27))(hS:SAt w B SV a.sts)(hB:B<=w.heap.size) :
  Iter Tryz.prog 173 #[.pointer (some ⟨bx,0,none⟩)] (fun x:Int×Mv=>#[.int .i64 x.1,.agg x.2.cells]) (fun k=>k<B\/k=bx) (zM 0 a.sts) w:=fun n hn l J Jx W hW hJ hJx hY h0=>by
 have hbx:bx<w.heap.size:=(Ln.1 hb).1;have hb0:W.heap[bx]?=some (.cells #[.int .i64 a.n,.slice SV a.sts.length ks] 27):=(hW.block bx hbx).trans hb;have hS0:SAt W B SV a.sts:=hS.keep (hW.mono hB);have HF:=zH (fun l hl=>hf.each (l:=l) hl);have hfl:=hf.1;have HY:=zH hY;have HJA:Hid (∀s X o,J s X->J s (X.alloc o)):=fun s X o hs=>hJ s X (X.alloc o) none hs (World.grownBy_alloc X o none) (fun r e=>by cases e)
 have c1:=zh hb0 1 rfl;have HS0:=zH hS0;have H0:=zH h0;have HB0:=zH hb0;have hBs:B<=W.heap.size:=Lz hB hW.size;have hbW:bx<W.heap.size:=LC hbx hW.size;clear hY hS hS0 hf hJ hJx h0 hb0 hb hW hB hbx;obtain⟨n0,sts⟩:=a;dsimp only at HB0 c1 HS0 HF hfl HY ⊢;refine callsIn_of_wp RK rfl trivial ?_ rfl;simp only[Tryz.ntmps173,List.size_toArray,List.length_cons,List.length_nil,Nat.reduceAdd,Nat.reduceSub,Array.replicate_succ,Array.replicate_zero,List.push_toArray,List.append_toArray,List.nil_append,List.cons_append];gi_wp2
 gi_loopw [10] (fun p wr=>∃s:Nat,s<=sts.length/\p=.int .i64 (s:Int)/\∃pre:List { x:Int×Mv // x∈zM 0 sts },Hid (pre.map (·.1)++zM s (sts.drop s)=zM 0 sts)/\Hid (J pre wr)/\Hid (SAt wr B SV sts)/\Hid (wr.heap[bx]?=some (.cells #[.int .i64 n0,.slice SV sts.length ks] 27))/\W.heap.size<=wr.heap.size) (fun p _=>sts.length-(intOf p).toNat)
 case atStart=>exact⟨0,by omega,rfl,[],by simp[Hid],H0,HS0,HB0,Le _⟩
 case round=>
  obtain⟨s,hs,rfl,pre,hp,hJ0,hSr,hbr,hsz⟩:=hrel;clear c1
  by_cases hlt:s<sts.length
  . obtain⟨b,o,A',k',rfl,hbB,q1,hM⟩:=hSr.out.at_ s hlt
    have hl40:=HF.out _ (Ld hlt);have hdr:=Xx hlt;obtain⟨L,hL⟩:=Ki (sts[s]);have HL:=zH hL;rw[hL] at q1 hM hl40 hdr;have HP:Hid (pre.map (·.1)++((L.drop 0).map (fun m=>((s:Int),m))++zM (s+1) (sts.drop (s+1)))=zM 0 sts):=by rw[L4,<-hdr];exact hp.out
    have HM0:=zH hM;clear hL hdr hp hM;gi_wp2_with fail
    gi_loopw [17] (fun p wr=>∃j:Nat,j<=L.length/\p=.int .i64 (j:Int)/\∃pre:List { x:Int×Mv // x∈zM 0 sts },Hid (pre.map (·.1)++((L.drop j).map (fun m=>((s:Int),m))++zM (s+1) (sts.drop (s+1)))=zM 0 sts)/\Hid (J pre wr)/\Hid (SAt wr B (some ⟨b,o,none⟩) sts)/\Hid (wr.heap[bx]?=some (.cells #[.int .i64 n0,.slice (some ⟨b,o,none⟩) sts.length ks] 27))/\Hid (MAt wr B A' L)/\W.heap.size<=wr.heap.size) (fun p _=>L.length-(intOf p).toNat)
    case atStart=>exact⟨0,by omega,rfl,pre,HP,hJ0,hSr,hbr,HM0,hsz⟩
    case round=>
     obtain⟨j,hj,rfl,pre,hp,hJ0,hSr,hbr,hMr,hsz⟩:=hrel;clear HP q1 HM0
     by_cases hjl:j<L.length
     . obtain⟨b2,o2,rfl,hb2,m0,m1,m2,m3,m4,m5,m6,m7⟩:=hMr.out.row j hjl
       have hdj:L.drop j=L[j]::L.drop (j+1):=Ly hjl;obtain⟨m,hm⟩:=Ki (L[j]);rw[hm] at m0 m1 m2 m3 m4 m5 m6 m7 hdj
       have hp2:pre.map (·.1)++(((s:Int),m)::((L.drop (j+1)).map (fun m=>((s:Int),m))++zM (s+1) (sts.drop (s+1))))=zM 0 sts:=by
        have:=hp.out;rw[hdj,LT,Ng] at this;exact this
       have hmem:((s:Int),m)∈zM 0 sts:=by rw[<-hp2];simp
       have hlen:pre.length<(zM 0 sts).length:=by
        have:=congrArg List.length hp2;simp only[List.length_append,List.length_map,List.length_cons] at this;omega
       obtain⟨fn,tmps,assign,body,hy,hR⟩:=HY.out pre ⟨((s:Int),m),hmem⟩ _ (HJA.out _ _ (.cells #[.int .i64 m.r.n,.int .i64 m.r.h0,.int .i64 m.r.h1,.int .i64 m.r.h2,.int .i64 m.r.h3,.int .i64 m.r.h4,.int .i64 m.r.f,.int .i64 m.to] 94) hJ0.out) hlen;unfold Mv.cells at hy;dsimp only at hy
       have HP2:Hid ((pre++[(⟨((s:Int),m),hmem⟩:{ x:Int×Mv // x∈zM 0 sts })]).map (·.1)++((L.drop (j+1)).map (fun m=>((s:Int),m))++zM (s+1) (sts.drop (s+1)))=zM 0 sts):=by
        rw[LI,Na];exact hp2
       have HR:=zH hR;clear hm hdj hp2 hp hR;gi_wp2_with fail;refine HR.out.mono ?_;rintro e W3 (⟨rfl,hJ3,hk3⟩ | ⟨rfl,hJx3⟩)
       . have hs1:wr.heap.size<=W3.heap.size:=by have:=hk3.size;simp at this;omega
         have hk1:∀k,(k<B\/k=bx)->k<wr.heap.size->W3.heap[k]?=wr.heap[k]?:=fun k hk hlt=>(hk3.same k hk (by simp;omega)).trans (yM (Si hlt) _ |>.trans (Si hlt).symm)
         have S3:=zH (hSr.out.same hs1 (fun k hk=>hk1 k (.inl hk) (by omega)));have M3:=zH (hMr.out.same hs1 (fun k hk=>hk1 k (.inl hk) (by omega)));have B3:=zH ((hk1 bx (.inr rfl) (by omega)).trans hbr.out);have J3:=zH hJ3;have hsz3:W.heap.size<=W3.heap.size:=by omega
         clear hk3 hJ3 hk1 hs1 m0 m1 m2 m3 m4 m5 m6 m7;gi_wp2_with fail
         go_roundw
         case rel=>exact⟨j+1,by omega,by go_num,_,HP2,J3,S3,B3,M3,hsz3⟩
         case measure=>simp[intOf];omega
       . gi_wp2_with fail
         refine L1 (RG rfl _ _ _) rfl ?_;refine⟨⟨_,rfl⟩,.inr ⟨_,?_,hJx3⟩⟩;exact⟨_,HP2.out⟩
     . obtain rfl:j=L.length:=by omega
       have HP:Hid (pre.map (·.1)++zM (s+1) (sts.drop (s+1))=zM 0 sts):=by have:=hp.out;rwa[Nm,Ns,Nc] at this
       clear hp;gi_wp2_with fail
       go_roundw
       case rel=>exact⟨s+1,by omega,by go_num,pre,HP,hJ0,hSr,hbr,hsz⟩
       case measure=>simp[intOf];omega
  . obtain rfl:s=sts.length:=by omega
    have HP:Hid (pre.map (·.1)=zM 0 sts):=by have:=hp.out;rwa[Nm,zM,Nf] at this
    clear hp;gi_wp2_with fail
    go_end0
    exact⟨⟨_,rfl⟩,.inl ⟨pre,HP.out,hJ0.out⟩⟩
theorem qI{w:Ba}{g:Nat}{v:Value}{t:TypeId}(h:w.heap[g]?=some (.cells #[v] t (0,0)))(v':Value) :
  (w.setCell ⟨g,0,none⟩ v').heap[g]?=some (.cells #[v'] t (0,0))/\(w.setCell ⟨g,0,none⟩ v').heap.size=w.heap.size/\∀k,k≠g->(w.setCell ⟨g,0,none⟩ v').heap[k]?=w.heap[k]?:=by
 have hg:=(Ln.1 h).1;refine⟨?_,by simp[World.setCell],fun k hk=>Lf w ⟨g,0,none⟩ v' k hk⟩;have hgg:=(Ln.1 h).2;rw[World.setCell,Pq,Lh rfl,h]
 rfl
theorem jx{B D:Nat}{w:Ba}(hB:B<=D)(hk:w.heap[D]?=some (.deferred (some []))):Marks B [{ target:=.collected D,args:=#[] }] w:=
 ⟨[D],rfl,by simp,fun r hr=>by simp only[List.mem_singleton] at hr;subst hr;exact⟨hB,hk⟩⟩
structure SzIn(B:Nat)(C:Array Value)(T:TypeId)(cnt:Int)(w W:Ba):Prop where
 below:Below B w W
 b0:W.heap[B]?=some (.cells C T (0,0))
 b1:W.heap[B+1]?=some (.cells #[.int .i64 cnt] 3 (0,0))
theorem SzIn.turn{B:Nat}{C:Array Value}{T:TypeId}{cnt:Int}{w W W':Ba}{row:Option Nat}(h:SzIn B C T cnt w W)(hg:W.grownBy W' row)(hr:∀r,row=some r->B<=r/\∃o:Obj,W.heap[r]?=some o/\o.isCells=false):SzIn B C T cnt w W':=
 ⟨h.below.grown hg (by have:=(Ln.1 h.b0).1;omega) (fun k hk=>(hr k hk).1),(L9 hg (fun r e=>(hr r e).2) h.b0 rfl).trans h.b0,(L9 hg (fun r e=>(hr r e).2) h.b1 rfl).trans h.b1⟩
theorem SzIn.set{B:Nat}{C:Array Value}{T:TypeId}{cnt:Int}{w W:Ba}(h:SzIn B C T cnt w W)(c':Int):SzIn B C T c' w (W.setCell ⟨B+1,0,none⟩ (.int .i64 c')):=by
 obtain⟨x1,x2,x3⟩:=qI h.b1 (.int .i64 c');exact⟨h.below.setCell (by simp) _,(x3 B (by omega)).trans h.b0,x1⟩
theorem SzIn.keeps{B D:Nat}{C:Array Value}{T:TypeId}{cnt:Int}{w W:Ba}(h:SzIn B C T cnt w W)(c':Int)(K:Nat->Prop)(hK:¬K (B+1)):KeepsFrom D W (W.setCell ⟨B+1,0,none⟩ (.int .i64 c'))/\KeepB K W (W.setCell ⟨B+1,0,none⟩ (.int .i64 c')):=by
 obtain⟨x1,x2,x3⟩:=qI h.b1 (.int .i64 c');refine⟨⟨by omega,fun k o _ hk ho=>?_⟩,KeepB.setCell hK _⟩;have k1:k≠B+1:=by rintro rfl;rw[h.b1] at hk;cases hk;cases ho
 exact(x3 k k1).trans hk
theorem sized_any(a:Ad)(hf:FewA a)(SV:Bb)(ks:Nat)(w:Ba)(hS:SAt w w.heap.size SV a.sts) :
  Calls Tryz.prog 162 #[.agg #[.int .i64 a.n,.slice SV a.sts.length ks]] w fun e w'=>e=.returned (.int .i64 (if a.sts.length<1 then 5 else 0))/\Below w.heap.size w w':=by
 have hf1:=hf.1;have hf2:=hf.2;have hml:=Qw a;have HI:=zH (fun (bx:Nat) (w':Ba) (hb:w'.heap[bx]?=some (.cells #[.int .i64 a.n,.slice SV a.sts.length ks] 27)) (h:SAt w' w.heap.size SV a.sts) (hB:w.heap.size<=w'.heap.size)=>jv a hf SV ks w.heap.size bx w' hb h hB);have HS:=zH hS;obtain⟨nl,hnl⟩:=Ki ((zM 0 a.sts).length);have HNL:=zH hnl;clear hS;refine yK Tryz.func162 rfl ?_;simp only[Tryz.ntmps162,List.size_toArray,List.length_cons,List.length_nil,Nat.reduceAdd,Nat.reduceSub,Array.replicate_succ,Array.replicate_zero,List.push_toArray,List.append_toArray,List.nil_append,List.cons_append];go_wp2_with fail;obtain⟨w2,hw2,b0,b1,hsz,hB⟩:=yB w #[.int .i64 a.n,.slice SV a.sts.length ks] #[.int .i64 0] 27 3;rw[hw2];have hz0:w2.heap.size=w.heap.size+2:=by rw[<-hw2];simp
 refine(uL a.n (.slice SV a.sts.length ks) w2).mono ?_;rintro e W ⟨rfl,hW⟩;have bb:=zw w2 (.cells #[.int .i64 a.n,.slice SV a.sts.length ks] 27);have hB2:Below w2.heap.size w2 W:=by rw[<-hW];exact zW _ _
 have hs1:w2.heap.size<W.heap.size:=by rw[<-hW];simp
 rw[hW] at bb;have hI0:SzIn w.heap.size #[.int .i64 a.n,.slice SV a.sts.length ks] 27 0 w W:=⟨hB.trans (hB2.mono (by omega)),Xb b0 hB2 (by omega),Xb b1 hB2 (by omega)⟩;have hit:=HI.out w2.heap.size W bb ((HS.out.keep hB).keep (hB2.mono (by omega))) (by omega);have H0:=zH hI0;have HIT:=zH hit;have HZ:=zH hz0;have hz1:w.heap.size+2<=w2.heap.size:=hsz;clear hw2 hW bb b0 b1 hB hB2 hI0 hit hz0 hsz HI HS hnl;go_wp2_with fail
 refine XT rfl (N0 RK (by kernel_rfl) rfl) HIT.out (by rintro k (h | rfl)<;>omega) (fun _=>rfl)
  (fun (pre:List { x:Int×Mv // x∈zM 0 a.sts }) W=>SzIn w.heap.size #[.int .i64 a.n,.slice SV a.sts.length ks] 27 ((pre.length:Nat):Int) w W) (fun _ _ _=>False) (fun _ _ _ _ h hg hr=>h.turn hg (fun r e=>⟨by have:=(hr r e).1;omega,(hr r e).2⟩)) (fun _ _ _ _ _ h _ _=>h)
  H0.out ?a1 ?assign ?body ?done ?stop
 case assign=>
  intro l x W K hK;gi_wp2;exact hK
 case body=>
  intro l pre x W hI hlt;have hpl:pre.length<100:=by have:=HNL.out;omega
  have c1:=zh hI.b1 0 rfl;have f1:=zi hI.b1 0;have HI:=zH hI;clear hI hlt;gi_wp2_with fail;have hK:¬(w.heap.size+1<w.heap.size\/w.heap.size+1=w2.heap.size):=by have:=HZ.out;omega
  refine⟨(HI.out.keeps _ (fun k=>k<w.heap.size\/k=w2.heap.size) hK).1,(HI.out.keeps (D:=0) _ (fun k=>k<w.heap.size\/k=w2.heap.size) hK).2,?_⟩;have:=HI.out.set ((pre.length:Int)+1);dsimp only;rw[show(((pre++[x]).length:Nat):Int)=(pre.length:Int)+1 by simp];exact this
 case done=>
  intro D ys W hD hys hI hDk;have hlen:ys.length=(zM 0 a.sts).length:=by have:=congrArg List.length hys;rwa[LR] at this
  have hyl:ys.length<=40:=by omega
  obtain⟨q0,q1,_⟩:=Ka hI.b0;have c1:=zh hI.b1 0 rfl;have HI:=zH hI;have HD:=zH hDk
  by_cases hz:a.sts.length<1
  . clear hI hDk hlen hys
    go_wp2_with fail
    all_goals first | (exfalso;omega) | skip
    refine xu (B:=w.heap.size) (jx (by omega) HD.out) (v:=.int .i64 5) (fun W=>by kernel_rfl) ?_;intro W hS;exact⟨by first | rfl | rw[Lh hz],HI.out.below.trans hS.below⟩
  . have hz1:¬((a.sts.length:Int)<1):=by omega
    clear hI hDk hlen hys;go_wp2_with fail
    all_goals first | (exfalso;omega) | skip
    refine xu (B:=w.heap.size) (jx (by omega) HD.out) (v:=.int .i64 0) (fun W=>by kernel_rfl) ?_;intro W hS;exact⟨by first | rfl | rw[Lg hz],HI.out.below.trans hS.below⟩
 case stop=>
  intro D c pre W _ _ h;exact h.elim
theorem vL{a:Ad}(h:a.n<1\/5<a.n):qk a=2:=Lh h
theorem wk{a:Ad}(h:¬(a.n<1\/5<a.n))(h2:a.sts.length<1):qk a=5:=by unfold qk;rw[Lg h,Lh (.inl h2)]
theorem vK{a:Ad}(h:¬(a.n<1\/5<a.n))(h2:1<=a.sts.length)(hf:FewA a)(h3:zI a a.sts≠0):qk a=zI a a.sts:=by
 unfold qk;rw[Lg h,Lg (by have:=hf.1;have:=hf.2;omega),Lh h3]
theorem vM{a:Ad}(h:¬(a.n<1\/5<a.n))(h2:1<=a.sts.length)(hf:FewA a)(h3:zI a a.sts=0):qk a=if xO a=true then 0 else 21:=by
 unfold qk;rw[Lg h,Lg (by have:=hf.1;have:=hf.2;omega),Lg (by simpa using h3)]
theorem vi{a:Ad}:∀ {p:Option Mv} {l:List Mv},kL a p l=0->∀m∈l,yi m.r=0/\m.r.n=a.n/\0<=m.to/\m.to<a.sts.length
 | _,[],_,m,hm=>by cases hm
 | p,x::r,h,m,hm=>by
  rw[kL] at h
  split at h
  . rename_i h1;exact absurd h h1
  . rename_i h1
    have h1:qb a p x=0:=by simpa using h1
    rcases L5.1 hm with rfl | hm
    . unfold qb at h1
      split at h1
      . rename_i h2;exact absurd h1 h2
      . split at h1
        . cases h1
        . split at h1
          . cases h1
          . split at h1
            . cases h1
            . rename_i h2 h3 h4 h5
              exact⟨by simpa using h2,by simpa using h3,by omega,by omega⟩
    . exact vi h m hm
theorem jl{a:Ad}:∀ {xs:List (List Mv)},zI a xs=0->∀l∈xs,l.length≠0/\∀m∈l,yi m.r=0/\m.r.n=a.n/\0<=m.to/\m.to<a.sts.length
 | [],_,l,hl=>by cases hl
 | x::r,h,l,hl=>by
  rw[zI] at h
  split at h
  . rename_i h1;exact absurd h h1
  . rename_i h1
    have h1:qp a x=0:=by simpa using h1
    rcases L5.1 hl with rfl | hl
    . unfold qp at h1
      split at h1
      . cases h1
      . rename_i h2
        exact⟨h2,fun m hm=>vi (p:=zD l 0) (l:=l) (by have:=h1;unfold xV at this;rwa[L4] at this) m hm⟩
    . exact jl h l hl
theorem qR{r:Rd}(h:yi r=0):1<=r.n/\r.n<=5/\yJ r=0/\yY r.n r.f=0:=by
 unfold yi at h
 split at h
 . rename_i h1;exact absurd h h1
 . rename_i h1
   have h1:yJ r=0:=by simpa using h1
   refine⟨?_,?_,h1,h⟩
   . unfold yJ at h1
     split at h1
     . cases h1
     . omega
   . unfold yJ at h1
     split at h1
     . cases h1
     . omega
theorem xT{a:Ad}(h:zI a a.sts=0):∀m∈a.mvs,yi m.r=0/\m.r.n=a.n/\0<=m.to/\m.to<a.sts.length:=fun m hm=>by
 obtain⟨l,hl,hml⟩:=NA.1 hm;exact(jl h l hl).2 m hml
theorem qM{m:Mv}(h:yi m.r=0):∃f:Nat,m.r.f=(f:Int)/\f<32:=by
 obtain⟨_,k,_,e,_,_,_,hk⟩:=check_ok (qR h).2.2.2;exact⟨k,e,hk⟩
theorem Jb{s x:Nat}(hs:s<32)(hx:x<32):(bits BinOp.andNot IntKind.i64 (x:Int) (s:Int)=0)↔(x &&& s=x):=by
 have h1:=jk (p:=fun s=>uq fun x=>decide ((bits BinOp.andNot IntKind.i64 (x:Int) (s:Int)=0)↔(x &&& s=x))) (by decide +kernel) hs;have h2:=jk h1 hx;simpa using h2
theorem Xw{a:Ad}{x:Int×Mv}(h:x∈zM 0 a.sts):x.2∈a.mvs:=by
 have:x.2∈(zM 0 a.sts).map Prod.snd:=LX.2 ⟨x,h,rfl⟩;rwa[kj] at this
end
section
open Go.RowKit
theorem flat_step{xss:List (List Mv)}{k:Nat}(h:k<xss.length):((xss.take (k+1)).flatten).length=((xss.take k).flatten).length+xss[k].length:=by
 rw[Lu h,List.flatten_append,Lv];simp
theorem flat_le{xss:List (List Mv)}{k:Nat}:((xss.take k).flatten).length<=xss.flatten.length:=by
 conv=>rhs;rw[<-PG k xss]
 rw[List.flatten_append,Lv];omega
theorem Zp(a:Ad)(SV:Bb)(ks:Nat)(hl:a.sts.length<=17592186044416)(hm:a.mvs.length<=4611686018427387904)(hll:∀l∈a.sts,l.length<=17592186044416)(w:Ba)(hS:SAt w w.heap.size SV a.sts) :
  Calls Tryz.prog 51 #[.agg #[.int .i64 a.n,.slice SV a.sts.length ks]] w fun e w'=>e=.returned (.int .i64 (a.mvs.length:Nat))/\w'=w.alloc (.cells #[.int .i64 a.n,.slice SV a.sts.length ks] 27):=by
 have HS:=zH (hS.keep (zW w (.cells #[.int .i64 a.n,.slice SV a.sts.length ks] 27)));have HLL:=zH hll;obtain⟨n0,sts⟩:=a;unfold Ad.mvs at hm ⊢;dsimp only at hl hm HLL HS ⊢;clear hS hll;go_enter Tryz.func51,Tryz.ntmps51;go_wp2_with fail
 go_loop [3,4] (fun v i=>∃k c:Nat,k<=sts.length/\i=.int .i64 (k:Int)/\v=.int .i64 (c:Int)/\Hid (c=((sts.take k).flatten).length)) (fun _ i=>sts.length-(intOf i).toNat)
 case atStart=>exact⟨0,0,by omega,rfl,rfl,rfl⟩
 case round=>
  obtain⟨k,c,hk,rfl,rfl,hc⟩:=hrel
  by_cases hlt:k<sts.length
  . obtain⟨b,o,A',k',rfl,hbB,c1,_⟩:=HS.out.at_ k hlt
    have hlk:=HLL.out _ (Ld hlt);have hst:=flat_step hlt;have hle:=flat_le (xss:=sts) (k:=k+1);obtain⟨ll,hll⟩:=Ki (sts[k].length);rw[hll] at c1 hlk hst;have hcc:c+ll=((sts.take (k+1)).flatten).length:=by rw[hst,hc.out]
    have hb:c+ll<=4611686018427387904:=by omega
    have HC:=zH hcc;clear hll hst hle hcc;go_wp2_with fail
    go_round
    case rel=>exact⟨k+1,c+ll,by omega,by go_num,by go_num,HC.out⟩
    case measure=>simp[intOf];omega
  . obtain rfl:k=sts.length:=by omega
    have hcc:c=sts.flatten.length:=by rw[hc.out,LG]
    subst hcc;go_wp2_with fail;go_ret;exact⟨rfl,rfl⟩
theorem mvs_le{a:Ad}(h8:a.sts.length<=8)(hll:∀l∈a.sts,l.length<=17592186044416):a.mvs.length<=4611686018427387904:=by
 have h:∀(xs:List (List Mv)),(∀l∈xs,l.length<=17592186044416)->xs.flatten.length<=xs.length*17592186044416:=by
  intro xs
  induction xs with
  | nil=>intro _;simp
  | cons x xs ih=>
   intro hx;have h1:=ih fun l hl=>hx l (Rs _ hl)
   have h2:=hx x (RF ..);rw[Rc,Lv,LE,Nat.succ_mul];omega
 have h1:=h a.sts hll;have h2:=PK 17592186044416 h8;unfold Ad.mvs;omega
theorem rfewA_any(a:Ad)(SV:Bb)(ks:Nat)(hl:a.sts.length<=17592186044416)(hll:∀l∈a.sts,l.length<=17592186044416)(w:Ba)(hS:SAt w w.heap.size SV a.sts) :
  Calls Tryz.prog 30 #[.agg #[.int .i64 a.n,.slice SV a.sts.length ks]] w fun e w'=>e=.returned (.bool (decide (a.sts.length<=8)&&decide (a.mvs.length<=40)))/\Below w.heap.size w w':=by
 have HC:=zH (fun (hm:a.mvs.length<=4611686018427387904)=>Zp a SV ks hl hm hll (w.alloc (.cells #[.int .i64 a.n,.slice SV a.sts.length ks] 27)) ((hS.keep (zW w _)).more (by simp)));have hm8:=zH (fun (h8:a.sts.length<=8)=>mvs_le h8 hll);obtain⟨q,hq⟩:=Ki a.mvs.length;rw[hq] at HC hm8 ⊢;obtain⟨sl,hsl⟩:=Ki a.sts.length;rw[hsl] at HC hm8 hl ⊢;clear hS hq hsl hll;go_enter Tryz.func30,Tryz.ntmps30
 by_cases h1:sl<=8
 . have hm:=hm8.out h1
   go_wp2_with fail
   all_goals first | (exfalso;omega) | skip
   refine(HC.out hm).mono ?_;rintro e w1 ⟨rfl,rfl⟩;clear HC;go_wp2_with fail;go_ret;exact⟨zm (by first | (rw[Lk h1,Nv];exact dec_eq (by omega)) | exact dec_eq (by omega)),kh w _ _⟩
 . go_wp2_with fail
   all_goals first | (exfalso;omega) | skip
   go_ret;exact⟨zm (by first | rfl | rw[Li h1,NZ]),zW w _⟩
theorem Qx{a:Ad}(hf:FewA a):(∀l∈a.sts,l.length<=17592186044416)/\a.sts.length<=17592186044416/\a.mvs.length<=4611686018427387904:=
 ⟨fun l hl=>by have:=hf.each hl;omega,by have:=hf.1;omega,by have:=hf.2;omega⟩
theorem rmove_any(a:Ad)(SV:Bb)(ks:Nat)(_hsl:a.sts.length<=8)(A:Bb)(k0:Nat)(l:List Mv)(hl:l.length<=40)(k:Nat)(hlt:k<l.length)(w:Ba)(hA:MAt w w.heap.size A l) :
  Calls Tryz.prog 82 #[.agg #[.int .i64 a.n,.slice SV a.sts.length ks],.slice A l.length k0,.int .i64 k] w fun e w'=>e=.returned (.int .i64 (qb a (zD l k) l[k]))/\Below w.heap.size w w':=by
 have HA:=zH hA;obtain⟨b,o,rfl,hbB,c0,c1,c2,c3,c4,c5,c6,c7⟩:=hA.row k hlt;obtain⟨bo,hbo⟩:=Ki (Yr (zD l k) l[k]);have HBO:=zH hbo;have m1:=zH (@wT a (zD l k) l[k]);have m2:=zH (@moveE_n a (zD l k) l[k]);have m3:=zH (@wU a (zD l k) l[k]);have m4:=zH (@Qy a (zD l k) l[k]);have m5:=zH (@Qz a (zD l k) l[k]);rw[hbo] at m3 m4 m5;obtain⟨m,hm⟩:=Ki (l[k]);have HX:=zH hm;obtain⟨mE,hmE⟩:=Ki (qb a (zD l k) l[k]);rw[hmE] at m1 m2 m3 m4 m5 ⊢;rw[hm] at c0 c1 c2 c3 c4 c5 c6 c7 m1 m2 m3 m4 m5;have HR:=zH (fun w'=>gD m.r w');obtain⟨rE,hrE⟩:=Ki (yi m.r);rw[hrE] at m1 m2 m3 m4 m5 HR;unfold Rd.cells at HR;clear hbo hm hmE hrE hA;go_enter Tryz.func82,Tryz.ntmps82;go_wp2_with fail;obtain⟨W1,hW1,b0,b1,hs1,hB1⟩:=yB w #[.int .i64 a.n,.slice SV a.sts.length ks] #[.int .i64 m.r.n,.int .i64 m.r.h0,.int .i64 m.r.h1,.int .i64 m.r.h2,.int .i64 m.r.h3,.int .i64 m.r.h4,.int .i64 m.r.f] 27 92;rw[hW1];refine(HR.out W1).mono ?_;rintro e w1 ⟨rfl,hb1⟩;have BL1:=zH (hB1.trans (hb1.mono (by omega)));have d0:=Lb hb1 (by omega) b0;have d1:=Lb hb1 (by omega) b1;have HD1:=zH d1;have HD0:=zH d0;obtain⟨q0,q1,_⟩:=Ka d0;obtain⟨p0,p1,p2,p3,p4,p5,p6,_⟩:=Kf d1;have hsw:=zj d1;obtain⟨_,_,e7,_,_,_,_,_,_,_,_,p7⟩:=(HA.out.keep BL1.out).row k hlt
 cases e7
 rw[HX.out] at p7;clear hW1 b0 b1 hB1 hb1 d0 d1 c0 c1 c2 c3 c4 c5 c6 c7 HR
 by_cases hr:rE=0
 case neg=>
  have he:=zH (m1.out hr);have e0:(rE != 0)=true:=by simpa using hr
  clear m1 m2 m3 m4 m5 hr HBO HX;go_wp2_with fail;go_ret;exact⟨zk he.out.symm,BL1.out⟩
 case pos=>
 subst hr;clear m1
 by_cases hn:m.r.n=a.n
 case neg=>
  have he:=zH (m2.out (by simp) hn);have e0:(m.r.n != a.n)=true:=by simpa using hn
  clear m2 m3 m4 m5 hn HBO HX;go_wp2_with fail;go_ret;exact⟨zk he.out.symm,BL1.out⟩
 case pos=>
 have e0:(m.r.n != a.n)=false:=by simpa using hn
 have n3:=zH (m3.out (by simp) hn);have n4:=zH (m4.out (by simp) hn);have n5:=zH (m5.out (by simp) hn);clear m2 hn m3 m4 m5
 cases k with
 | zero=>
  obtain rfl:bo=false:=by rw[<-HBO.out];rfl
  have g0:decide ((0:Int)<0)=false:=by decide
  rw[PS,Pg] at p7;clear HBO HX n3;go_wp2_with fail;go_quiet (fail)
  by_cases ht:m.to<0\/(a.sts.length:Int)<=m.to
  . have he:=zH (n4.out (by simp) ht)
    clear n4 n5
    by_cases ht0:m.to<0
    . clear ht
      go_wp2_with fail;go_quiet (fail);go_wp2_with fail;go_ret;exact⟨zk he.out.symm,by repeat (first | exact BL1.out | refine zT ?_ _)⟩
    . have ht1:(a.sts.length:Int)<=m.to:=by omega
      clear ht;go_wp2_with fail;go_quiet (fail);go_wp2_with fail;go_ret;exact⟨zk he.out.symm,by repeat (first | exact BL1.out | refine zT ?_ _)⟩
  . have he:=zH (n5.out (by simp) ht)
    have ht0:¬m.to<0:=by omega
    have ht1:¬(a.sts.length:Int)<=m.to:=by omega
    clear n4 n5 ht;go_wp2_with fail;go_quiet (fail);go_wp2_with fail;go_ret;exact⟨zk he.out.symm,by repeat (first | exact BL1.out | refine zT ?_ _)⟩
 | succ j=>
  have hj:j<l.length:=by omega
  have hbj:Yr (zD l (j+1)) l[j+1]=decide (0<=zy l[j].r.l l[j+1].r.l):=by rw[yq l j hj];rfl
  rw[HX.out] at hbj;rw[show Yr (zD l (j+1)) m=bo by have:=HBO.out;rwa[HX.out] at this] at hbj;obtain⟨b',o',e',_,u0,u1,u2,u3,u4,u5,u6,u7⟩:=(HA.out.keep BL1.out).row j hj
  cases e'
  have hc:=fun w'=>Zj l[j].r m.r w'
  obtain⟨mj,hmj⟩:=Ki (l[j]);rw[hmj] at hbj hc u0 u1 u2 u3 u4 u5 u6 u7;obtain⟨r,hr⟩:=Ki (zy mj.r.l m.r.l);rw[hr] at hbj hc;unfold Rd.cells at hc;have HBJ:=zH hbj;have HC:=zH hc;have g1:((j:Int)+1).toNat=j+1:=by omega
  have g3:IntKind.i64.wrap ((j:Int)+1-1)=(j:Int):=by rw[Lp];omega
  have g5:IntKind.i64.wrap ((j:Int)+1)=(j:Int)+1:=by rw[Lp];omega
  have g6:decide ((0:Int)<(j:Int)+1)=true:=Lk (by omega);have g7:IntKind.i64.wrap (j:Int)=(j:Int):=by rw[Lp];omega
  have g8:(0:Int)<=(j:Int):=by omega
  have g9:(j:Int)<(l.length:Int):=by omega
  clear hbj hc hr hmj HBO;go_wp2_with fail
  go_still_tail 10,(by kernel_rfl)
  change wpList _ _ _ _ _ w1.drew;obtain⟨w2,hw2⟩:∃w2,w2=w1.drew:=⟨_,rfl⟩;have BL2:Hid (Below w.heap.size w w2):=by rw[hw2];exact BL1.out.drew
  have HE1:Hid (w2.heap[w.heap.size]?=some (.cells #[.int .i64 a.n,.slice SV a.sts.length ks] 27 (0,0))):=by rw[hw2];exact HD0.out
  rw[<-hw2];clear HD0 HD1 hw2 q0 q1 p0 p1 p2 p3 p4 p5 p6 p7 u0 u1 u2 u3 u4 u5 u6 u7 g3 g7 g8 g9;go_wp2_with fail;refine(HC.out w2).mono ?_;rintro e w3 ⟨rfl,hb3⟩;have BL3:=zH (Lc BL2.out hb3);have d0:=La hb3 HE1.out;obtain⟨q0,q1,_⟩:=Ka d0;obtain⟨_,_,e7,_,_,_,_,_,_,_,_,p7⟩:=(HA.out.keep BL3.out).row (j+1) hlt
  cases e7
  rw[HX.out] at p7;have i1:(0:Int)<=(j:Int)+1:=by omega
  have i2:(j:Int)+1<(l.length:Int):=by omega
  clear d0 hb3 HC HX
  cases bo with
  | true=>
   have g0':0<=r:=LF HBJ.out.symm;have he:=zH (n3.out (by simp));clear n3 n4 n5 HBJ;go_wp2_with fail
   all_goals first | (exfalso;omega) | skip
   go_ret;exact⟨zk he.out.symm,BL3.out⟩
  | false=>
   have g0':¬0<=r:=NO HBJ.out.symm;clear n3 HBJ
   by_cases ht:m.to<0\/(a.sts.length:Int)<=m.to
   . have he:=zH (n4.out (by simp) ht)
     clear n4 n5
     by_cases ht0:m.to<0
     . clear ht
       go_wp2_with fail
       all_goals first | (exfalso;omega) | skip
       go_quiet (fail);go_wp2_with fail;go_ret;exact⟨zk he.out.symm,by repeat (first | exact BL3.out | refine zT ?_ _)⟩
     . have ht1:(a.sts.length:Int)<=m.to:=by omega
       clear ht;go_wp2_with fail
       all_goals first | (exfalso;omega) | skip
       go_quiet (fail);go_wp2_with fail;go_ret;exact⟨zk he.out.symm,by repeat (first | exact BL3.out | refine zT ?_ _)⟩
   . have he:=zH (n5.out (by simp) ht)
     have ht0:¬m.to<0:=by omega
     have ht1:¬(a.sts.length:Int)<=m.to:=by omega
     clear n4 n5 ht;go_wp2_with fail
     all_goals first | (exfalso;omega) | skip
     go_quiet (fail);go_wp2_with fail;go_ret;exact⟨zk he.out.symm,by repeat (first | exact BL3.out | refine zT ?_ _)⟩
end
section
open Go.RowKit
attribute [local go_sem] Oper.semAt_some
def okB(a:Ad)(m:Mv):Bool:=(a.at_ m.to).all fun k=>qV m k
theorem grows_all{a:Ad}(h:∀t (ht:t<a.sts.length),∀m∈a.sts[t],okB a m=true):xO a=true:=by
 unfold xO;rw[LK];intro m hm;obtain⟨l,hl,hml⟩:=NA.1 hm;obtain⟨t,ht,rfl⟩:=NY.1 hl;exact h t ht m hml
theorem grows_none{a:Ad}{m k:Mv}(hm:m∈a.mvs)(hk:k∈a.at_ m.to)(h:qV m k=false):xO a=false:=by
 rw[Bool.eq_false_iff];intro hg;unfold xO at hg;have:=LK.1 (LK.1 hg m hm) k hk;rw[this] at h
 cases h
theorem at_get{a:Ad}{t:Nat}(h:t<a.sts.length){x:Int}(hx:x=(t:Int)):a.at_ x=a.sts[t]:=by
 subst hx;unfold Ad.at_;rw[Ls,Lj,Lm h];rfl
theorem JA(a:Ad)(hf:FewA a)(hz:zI a a.sts=0)(SV:Bb)(ks:Nat)(w:Ba)(hS:SAt w w.heap.size SV a.sts) :
  Calls Tryz.prog 83 #[.agg #[.int .i64 a.n,.slice SV a.sts.length ks]] w fun e w'=>e=.returned (.bool (xO a))/\Below w.heap.size w w':=by
 have hf1:=hf.1;have HFE:=zH (fun l hl=>hf.each (l:=l) hl);have HZ:=zH (@xT a hz);have HGA:=zH (@grows_all a);have HGN:=zH (fun m k hm hk h=>@grows_none a m k hm hk h);obtain⟨G,hG⟩:=Ki (xO a);rw[hG] at HGA ⊢;simp only[hG] at HGN;clear hf hz hG;go_enter Tryz.func83,Tryz.ntmps83;go_wp2_with fail;obtain⟨w1,hw1⟩:=Ki (w.alloc (.cells #[.int .i64 a.n,.slice SV a.sts.length ks] 27));have hbb:=zw w (.cells #[.int .i64 a.n,.slice SV a.sts.length ks] 27);have hb01:Below w.heap.size w w1:=by rw[<-hw1];exact zW w _
 have hsz1:w1.heap.size=w.heap.size+1:=by rw[<-hw1];simp
 rw[hw1] at hbb ⊢;have HBB:=zH hbb;have HB01:=zH hb01;have HS:=zH ((hS.keep hb01).more (by omega:w.heap.size<=w1.heap.size));clear hS hw1 hbb hb01
 go_loopw [3] (fun i wr=>∃s:Nat,s<=a.sts.length/\i=.int .i64 (s:Int)/\Hid (∀t (ht:t<a.sts.length),t<s->∀m∈a.sts[t],okB a m=true)/\Hid (Below w1.heap.size w1 wr)) (fun i _=>a.sts.length-(intOf i).toNat)
 case atStart=>exact⟨0,by omega,rfl,(fun t ht h0=>by omega),Lo _ _⟩
 case round=>
  obtain⟨s,hs,rfl,hps,hbs⟩:=hrel;have hbk:=La hbs.out HBB.out;obtain⟨q0,q1,_⟩:=Ka hbk;clear hbk
  by_cases hlt:s<a.sts.length
  case neg=>
   obtain rfl:s=a.sts.length:=by omega
   have hg:=zH (HGA.out (fun t ht=>hps.out t ht ht));clear hps HGA HGN HZ HFE;go_wp2_with fail;go_ret;exact⟨zm hg.out.symm,HB01.out.trans (hbs.out.mono (by omega))⟩
  case pos=>
  obtain⟨b,o,A',k',rfl,hbB,c1,hM⟩:=(HS.out.keep hbs.out).at_ s hlt;have hl40:=HFE.out _ (Ld hlt);have HLm:Hid (∀m∈a.sts[s],m∈a.mvs):=fun m hm=>NA.2 ⟨_,Ld hlt,hm⟩
  have HL2:Hid ((∀m∈a.sts[s],okB a m=true)->∀t (ht:t<a.sts.length),t<s+1->∀m∈a.sts[t],okB a m=true):=fun h t ht h2 m hm=>by
   by_cases e:t=s
   . subst e;exact h m hm
   . exact hps.out t ht (by omega) m hm
  have HAT:Hid (∀wr:Ba,Below w1.heap.size w1 wr->wr.cell? ⟨b,o+s,none⟩=some (.slice A' (a.sts[s]).length k')/\MAt wr w1.heap.size A' a.sts[s]):=fun wr' hb'=>
   ⟨((hb'.cell (p:=⟨b,_,none⟩) hbB).trans ((hbs.out.cell (p:=⟨b,_,none⟩) hbB).symm)).trans c1,(by
    obtain⟨b2,o2,A2,k2,e2,hB2,c2,hM2⟩:=(HS.out.keep hb').at_ s hlt
    cases e2
    have:=(((hb'.cell (p:=⟨b,o+s,none⟩) hbB).trans ((hbs.out.cell (p:=⟨b,o+s,none⟩) hbB).symm)).trans c1).symm.trans c2
    cases this
    exact hM2)⟩
  obtain⟨L,hL⟩:=Ki (a.sts[s]);rw[hL] at c1 hl40 HLm HL2 HAT;clear hM hL hps;go_wp2_with fail;clear q0 q1 c1
  go_loopw [4] (fun i wr=>∃j:Nat,j<=L.length/\i=.int .i64 (j:Int)/\Hid (∀u (hu:u<L.length),u<j->okB a L[u]=true)/\Hid (Below w1.heap.size w1 wr)) (fun i _=>L.length-(intOf i).toNat)
  case atStart=>exact⟨0,by omega,rfl,(fun u hu h0=>by omega),hbs⟩
  case round=>
   clear hbs;obtain⟨j,hj,rfl,hpj,hbs⟩:=hrel;have hbk:=La hbs.out HBB.out;obtain⟨q0,q1,_⟩:=Ka hbk;obtain⟨c1,hM⟩:=HAT.out _ hbs.out;clear hbk
   by_cases hjl:j<L.length
   case neg=>
    obtain rfl:j=L.length:=by omega
    have hg:=zH (HL2.out (fun m hm=>by
     obtain⟨u,hu,rfl⟩:=NY.1 hm
     exact hpj.out u hu hu))
    clear hpj hM HL2 HAT HLm;go_wp2_with fail
    go_roundw
    case rel=>exact⟨s+1,by omega,by go_num,hg,hbs⟩
    case measure=>simp[intOf];omega
   case pos=>
   obtain⟨b',o',e',hbB',d0,d1,d2,d3,d4,d5,d6,d7⟩:=hM.row j hjl
   cases e'
   have HLj:Hid (L[j]∈a.mvs):=HLm.out _ (Ld hjl)
   have HJ2:Hid (okB a L[j]=true->∀u (hu:u<L.length),u<j+1->okB a L[u]=true):=fun h u hu h2=>by
    by_cases e:u=j
    . subst e;exact h
    . exact hpj.out u hu (by omega)
   obtain⟨m,hm⟩:=Ki (L[j]);rw[hm] at d0 d1 d2 d3 d4 d5 d6 d7 HLj HJ2;obtain⟨z1,z2,z3,z4⟩:=HZ.out m HLj.out;obtain⟨f1,ef1,lf1⟩:=qM z1;obtain⟨t,et⟩:=Lr z3;have htl:t<a.sts.length:=by omega
   have hat:=at_get htl et;have HKt:Hid (∀y∈a.at_ m.to,y∈a.mvs):=by rw[hat];exact fun y hy=>NA.2 ⟨_,Ld htl,hy⟩
   have hl41:=HFE.out _ (Ld htl)
   have HTT:Hid (∀wr:Ba,Below w1.heap.size w1 wr->∃A' c,wr.cell? ⟨b,o+t,none⟩=some (.slice A' (a.at_ m.to).length c)/\MAt wr w1.heap.size A' (a.at_ m.to)):=fun wr' hb'=>by
    rw[hat];obtain⟨b2,o2,A2,k2,e2,hB2,c2,hM2⟩:=(HS.out.keep hb').at_ t htl
    cases e2
    exact⟨A2,k2,c2,hM2⟩
   rw[<-hat] at hl41;have HOK:Hid ((∀y∈a.at_ m.to,qV m y=true)->okB a m=true):=fun h=>LK.2 h
   obtain⟨L2,hL2⟩:=Ki (a.at_ m.to)
   have HN2:Hid (∀y∈L2,qV m y=false->G=false):=by
    rw[<-hL2];exact fun y hy h=>HGN.out m y HLj.out hy h
   rw[hL2] at HKt hl41 HTT HOK;have HE1:=zH ef1;have HET:=zH et;rw[et] at d7;clear hM hm z1 z2 z3 z4 et ef1 hat hL2 hpj;go_wp2_with fail;obtain⟨wm,hwm⟩:=Ki (wr.alloc (.cells m.cells 94));have hmb:=zw wr (.cells m.cells 94);have hmB:Below w1.heap.size w1 wm:=by rw[<-hwm];exact hbs.out.trans ((zW wr _).mono hbs.out.size)
   have hsm:wm.heap.size=wr.heap.size+1:=by rw[<-hwm];simp
   have hsr:=hbs.out.size;rw[hwm] at hmb;unfold Mv.cells at hwm hmb;rw[HET.out] at hwm hmb;rw[hwm];obtain⟨g,hg⟩:=Ki wr.heap.size;rw[hg] at hmb hsm hsr ⊢;have HMB:=zH hmb;have HMW:=zH hmB;clear hwm hmb hg q0 q1 c1 d0 d1 d2 d3 d4 d5 d6 d7 hbs
   go_loopw [6] (fun i wx=>∃q:Nat,q<=L2.length/\i=.int .i64 (q:Int)/\Hid (∀u (hu:u<L2.length),u<q->qV m L2[u]=true)/\Hid (Below wm.heap.size wm wx)) (fun i _=>L2.length-(intOf i).toNat)
   case atStart=>exact⟨0,by omega,rfl,(fun u hu h0=>by omega),Lo _ _⟩
   case round=>
    obtain⟨q,hq,rfl,hpq,hbx⟩:=hrel;have hbw:=HMW.out.trans (hbx.out.mono (by omega));have hbk:=La hbw HBB.out;obtain⟨q0,q1,_⟩:=Ka hbk;have hmk:=Lb hbx.out (by omega) HMB.out;have p6:=zh hmk 6 rfl;have p7:=zh hmk 7 rfl;obtain⟨A2,k2,c2,hM2⟩:=HTT.out _ hbw;have HBW:=zH hbw;clear hbw hbk hmk
    by_cases hql:q<L2.length
    case neg=>
     obtain rfl:q=L2.length:=by omega
     have hg:=zH (HJ2.out (HOK.out (fun y hy=>by
      obtain⟨u,hu,rfl⟩:=NY.1 hy
      exact hpq.out u hu hu)))
     clear hpq hM2 HJ2 HOK HTT HKt HN2;go_wp2_with fail
     go_roundw
     case rel=>exact⟨j+1,by omega,by go_num,hg,HBW⟩
     case measure=>simp[intOf];omega
    case pos=>
    obtain⟨b3,o3,e3,hB3,_,_,_,_,_,_,c6,_⟩:=hM2.row q hql;subst e3;have hmem:=Ld hql;obtain⟨f2,ef2,lf2⟩:=qM (HZ.out _ (HKt.out _ hmem)).1;have HN3:=zH (HN2.out _ hmem)
    have HQ2:Hid (qV m L2[q]=true->∀u (hu:u<L2.length),u<q+1->qV m L2[u]=true):=fun h u hu h2=>by
     by_cases e:u=q
     . subst e;exact h
     . exact hpq.out u hu (by omega)
    have hkb:qV m L2[q]=(f1 &&& f2==f1):=by unfold qV;rw[HE1.out,ef2,Ls,Ls]
    have HC:=zH (fun w'=>inside_any f1 f2 lf1 lf2 w');obtain⟨y,hy⟩:=Ki (L2[q]);rw[hy] at c6 HN3 HQ2 hkb ef2;obtain⟨bo,hbo⟩:∃bo,(f1 &&& f2==f1)=bo:=⟨_,rfl⟩;rw[hbo] at hkb HC;have HKB:=zH hkb;have he1:=HE1.out;rw[he1] at p6;rw[ef2] at c6;clear hkb hbo hy hM2 hmem ef2 hpq he1
    cases bo with
    | true=>
     have hg:=zH (HQ2.out HKB.out);clear HN3 HQ2 HKB;go_wp2_with fail;go_quiet ((go_at_call 125;exact(HC.out _).mono fun e w' h=>⟨h.1,_,h.2.symm⟩));go_wp2_with fail
     go_roundw
     case rel=>exact⟨q+1,by omega,by go_num,hg,zT hbx.out _⟩
     case measure=>simp[intOf];omega
    | false=>
     have hg:=zH (HN3.out HKB.out);clear HN3 HQ2 HKB;go_wp2_with fail;go_quiet ((go_at_call 125;exact(HC.out _).mono fun e w' h=>⟨h.1,_,h.2.symm⟩));go_wp2_with fail;go_ret;exact⟨zm hg.out.symm,zT (HB01.out.trans (HBW.out.mono (by omega))) _⟩
theorem Qh(a:Ad)(hf:FewA a)(SV:Bb)(ks:Nat)(w:Ba)(hS:SAt w w.heap.size SV a.sts) :
  Calls Tryz.prog 53 #[.agg #[.int .i64 a.n,.slice SV a.sts.length ks]] w fun e w'=>e=.returned (.int .i64 (qk a))/\Below w.heap.size w w':=by
 have hf1:=hf.1;have hf2:=hf.2;obtain⟨hml,hmt,hmm⟩:=Qx hf;have HMV:=zH (fun (w':Ba) (h:SAt w' w'.heap.size SV a.sts)=>Zp a SV ks hmt hmm hml w' h);have HGR:=zH (fun hz (w':Ba) (h:SAt w' w'.heap.size SV a.sts)=>JA a hf hz SV ks w' h);have HMO:=zH (fun (A:Bb) (k0:Nat) (l:List Mv) (hl:l.length<=40) (k:Nat) (hlt:k<l.length) (w':Ba) (h:MAt w' w'.heap.size A l)=>rmove_any a SV ks hf1 A k0 l hl k hlt w' h);have HFE:=zH (fun l hl=>hf.each (l:=l) hl);have HE1:=zH (@vL a);have HE2:=zH (@wk a);have HE3:=zH (fun h h2=>@vK a h h2 hf);have HE4:=zH (fun h h2=>@vM a h h2 hf);obtain⟨E,hE⟩:=Ki (qk a);rw[hE] at HE1 HE2 HE3 HE4 ⊢;obtain⟨ml,hmlen⟩:=Ki a.mvs.length;rw[hmlen] at HMV hf2;clear hE hf hml hmt hmm hmlen;go_enter Tryz.func53,Tryz.ntmps53
 by_cases hr:a.n<1\/5<a.n
 . have hR:=zH (HE1.out hr)
   have HN:=zH hr;clear HE1 HE2 HE3 HE4 hr HMV HGR HMO HFE hS;go_wp2_with fail
   all_goals first | (exfalso;have:=HN.out;omega) | skip
   all_goals
    go_ret;exact⟨zk hR.out.symm,zW w _⟩
 have r1:¬a.n<1:=by omega
 have r2:¬5<a.n:=by omega
 have HE2:=zH (HE2.out hr);have HE3:=zH (HE3.out hr);have HE4:=zH (HE4.out hr);clear hr HE1;obtain⟨w1,hw1⟩:=Ki (w.alloc (.cells #[.int .i64 a.n,.slice SV a.sts.length ks] 27));have hbb:=zw w (.cells #[.int .i64 a.n,.slice SV a.sts.length ks] 27);have hb01:Below w.heap.size w w1:=by rw[<-hw1];exact zW w _
 have hsz1:w1.heap.size=w.heap.size+1:=by rw[<-hw1];simp
 rw[hw1] at hbb;have HBB:=zH hbb;have HB01:=zH hb01;have HS:=zH ((hS.keep hb01).more (by omega:w.heap.size<=w1.heap.size));have HW1:=zH hw1;clear hS hw1 hb01;obtain⟨q0,q1,_⟩:=Ka hbb
 by_cases hz:a.sts.length<1
 . have hR:=zH (HE2.out hz)
   clear HE2 HE3 HE4 HMV HGR HMO HFE;go_wp2_with fail;rw[HW1.out];go_wp2_with fail;go_ret;exact⟨zk hR.out.symm,HB01.out⟩
 have hz1:1<=a.sts.length:=by omega
 have G3:=zH (HE3.out hz1);have G4:=zH (HE4.out hz1);clear HE2 hz HE3 HE4;obtain⟨F,hF⟩:=Ki (zI a a.sts);have HF:Hid (F=zI a (a.sts.drop 0)):=by rw[L4];exact hF.symm
 rw[hF] at G3 G4 HGR;clear hF;have g1:=zH (fun k h=>@vf a a.sts k h);have g2:=zH (fun k h=>@vQ a a.sts k h);have g3:=zH (fun k h=>@ve a a.sts k h);go_wp2_with fail;rw[HW1.out];refine(HMV.out w1 HS.out).mono ?_;rintro e w2 ⟨rfl,hw2⟩;have hb2:Below w1.heap.size w1 w2:=by rw[hw2];exact zW w1 _
 have HB2:=zH hb2;have hbk:=La hb2 HBB.out;obtain⟨q0,q1,_⟩:=Ka hbk;clear hw2 hb2 hbk hbb HMV HW1;go_wp2_with fail
 all_goals first | (exfalso;omega) | skip
 clear q0 q1
 go_loopw [3] (fun i wr=>∃s:Nat,s<=a.sts.length/\i=.int .i64 (s:Int)/\Hid (F=zI a (a.sts.drop s))/\Hid (Below w1.heap.size w1 wr)) (fun i _=>a.sts.length-(intOf i).toNat)
 case atStart=>exact⟨0,by omega,rfl,HF,HB2⟩
 case round=>
  clear HB2 HF;obtain⟨s,hs,rfl,hrk,hbs⟩:=hrel;have hbk:=La hbs.out HBB.out;obtain⟨q0,q1,_⟩:=Ka hbk
  by_cases hlt:s<a.sts.length
  case neg=>
   obtain rfl:s=a.sts.length:=by omega
   have hF0:F=0:=hrk.out.trans (g3.out _ rfl);have hR:=zH (G4.out hF0);have HG:=zH (HGR.out hF0 wr ((HS.out.keep hbs.out).more hbs.out.size));obtain⟨gb,hgb⟩:=Ki (xO a);rw[hgb] at hR HG;clear G3 G4 g1 g2 g3 hrk hgb hF0 HGR HMO HFE hbk;go_wp2_with fail;refine HG.out.mono ?_;rintro e w3 ⟨rfl,hb3⟩;have HB3:=zH (HB01.out.trans ((Lc hbs.out hb3).mono (by omega)));clear HG hb3 q0 q1
   cases gb with
   | true=>
    go_wp2_with fail;go_ret;exact⟨zk hR.out.symm,HB3.out⟩
   | false=>
    go_wp2_with fail;go_ret;exact⟨zk hR.out.symm,HB3.out⟩
  case pos=>
  have hbd:=zH (g1.out s hlt);have hon:=zH (g2.out s hlt);obtain⟨b,o,A',k',e',hbB,c1,hM⟩:=(HS.out.keep hbs.out).at_ s hlt;subst e';have hl40:=HFE.out _ (Ld hlt)
  have HAT:Hid (∀wr:Ba,Below w1.heap.size w1 wr->wr.cell? ⟨b,o+s,none⟩=some (.slice A' (a.sts[s]).length k')/\MAt wr w1.heap.size A' a.sts[s]):=fun wr' hb'=>
   ⟨((hb'.cell (p:=⟨b,_,none⟩) hbB).trans ((hbs.out.cell (p:=⟨b,_,none⟩) hbB).symm)).trans c1,(by
    obtain⟨b2,o2,A2,k2,e2,hB2,c2,hM2⟩:=(HS.out.keep hb').at_ s hlt
    cases e2
    have:=(((hb'.cell (p:=⟨b,o+s,none⟩) hbB).trans ((hbs.out.cell (p:=⟨b,o+s,none⟩) hbB).symm)).trans c1).symm.trans c2
    cases this
    exact hM2)⟩
  obtain⟨L,hL⟩:=Ki (a.sts[s]);rw[hL] at c1 hl40 HAT hbd hon;clear hM hL g1 g2 g3 hbk HFE HGR
  by_cases hl0:L.length=0
  . have he:=wG (a:=a) hl0
    rw[he] at hbd;have hFv:=hrk.out.trans (hbd.out (by decide));have hR:=zH ((G3.out (by rw[hFv];decide)).trans hFv);rw[hl0] at c1;clear G3 G4 hbd hon hrk he hFv hl0 hl40 HAT HMO;go_wp2_with fail;go_ret;exact⟨zk hR.out.symm,HB01.out.trans (hbs.out.mono (by omega))⟩
  have HSE:=zH (Zd (a:=a) hl0);have e0:(((L.length:Nat):Int)==0)=false:=by simpa using hl0
  have e1:¬((L.length:Nat):Int)=0:=by omega
  have b1:=zH (fun k h=>@wS a L k h);have b2:=zH (fun k h=>@ZB a L k h);have b3:=zH (@wR a L);obtain⟨V,hV⟩:=Ki (qp a L);rw[hV] at HSE hbd hon;clear hV hl0;go_wp2_with fail;clear q0 q1 c1
  go_loopw [4] (fun i wr=>∃j:Nat,j<=L.length/\i=.int .i64 (j:Int)/\Hid (V=xV a L j)/\Hid (Below w1.heap.size w1 wr)) (fun i _=>L.length-(intOf i).toNat)
  case atStart=>exact⟨0,by omega,rfl,HSE,hbs⟩
  case round=>
   clear hbs HSE;obtain⟨j,hj,rfl,hpj,hbs⟩:=hrel;have hbk:=La hbs.out HBB.out;obtain⟨q0,q1,_⟩:=Ka hbk;obtain⟨c1,hM⟩:=HAT.out _ hbs.out
   by_cases hjl:j<L.length
   case neg=>
    obtain rfl:j=L.length:=by omega
    have hV0:V=0:=hpj.out.trans b3.out;have hR:=zH (hrk.out.trans (hon.out hV0));clear hpj hM b1 b2 b3 hbd hon hrk hV0 hbk HAT HMO G3 G4;go_wp2_with fail
    go_roundw
    case rel=>exact⟨s+1,by omega,by go_num,hR,hbs⟩
    case measure=>simp[intOf];omega
   case pos=>
   have hC:=HMO.out A' k' L hl40 j hjl;have x1:=b1.out j hjl;have x2:=b2.out j hjl;obtain⟨ev,hev⟩:=Ki (qb a (zD L j) L[j]);rw[hev] at hC x1 x2;have HC:=zH hC;have X1:=zH x1;have X2:=zH x2;have HMM:=zH hM;have HBK:=zH hbk;have i1:(0:Int)<=(s:Int):=by omega
   have i2:(s:Int)<(a.sts.length:Int):=by omega
   clear hC x1 x2 hev hM hbk b1 b2 b3 HMO;go_wp2_with fail
   go_still_tail 7,(by kernel_rfl)
   change wpList _ _ _ _ _ wr.drew;obtain⟨wd,hwd⟩:∃wd,wd=wr.drew:=⟨_,rfl⟩;have BLd:Hid (Below w1.heap.size w1 wd):=by rw[hwd];exact hbs.out.drew
   have HMd:Hid (MAt wd wd.heap.size A' L):=by rw[hwd];exact(HMM.out.keep (Lo _ wr).drew).more hbs.out.size
   rw[<-hwd];clear hwd HMM q0 q1 c1 HBK;go_wp2_with fail;refine(HC.out wd HMd.out).mono ?_;rintro e w3 ⟨rfl,hb3⟩;have BL3:=zH (Lc BLd.out hb3);clear hb3 HC HMd BLd
   by_cases he:ev=0
   . subst he
     have hR:=zH (hpj.out.trans (X2.out (by simp)));clear X1 X2 hpj;go_wp2_with fail
     go_roundw
     case rel=>exact⟨j+1,by omega,by go_num,hR,BL3⟩
     case measure=>simp[intOf];omega
   . have hVv:=hpj.out.trans (X1.out he)
     have hFv:=(hrk.out.trans (hbd.out (by rw[hVv];exact he))).trans hVv;have hR:=zH ((G3.out (by rw[hFv];exact he)).trans hFv);have e2:(ev != 0)=true:=by simpa using he
     clear X1 X2 hpj hVv hFv hrk hbd hon G3 G4 he;go_wp2_with fail;go_ret;exact⟨zk hR.out.symm,HB01.out.trans (BL3.out.mono (by omega))⟩
end
section
open Go.RowKit Go.Shelf
section
variable {P:Program}
theorem vm{fn:Func}{tmps:Array Value}{R:Ending->Ba->Prop}{B n:Nat} :
  ∀(rs:List Nat) (w:Ba),rs.Nodup->(∀r∈rs,B<=r/\w.heap[r]?=some (.deferred (some [])))->(∀W,Shut B w W->∃v,(results fn tmps).run P W=.ok v W/\R (.returned v) W) ->
   LeavesInM Fence.wide n P fn tmps R (rs.map (fun r=>{ target:=.collected r,args:=#[] })) .returning w
 | [],w,_,_,hR=>hR w (Shut.refl _ _)
 | r::rs,w,hn,hm,hR=>by
  obtain⟨hr,hn'⟩:=Pv.1 hn;obtain⟨hB,hk⟩:=hm r (by simp);refine⟨by simp,.inl ⟨r,_,rfl,run_takeDeferred hk,?_⟩⟩;refine vm rs _ hn' (fun r' hr'=>⟨(hm r' (by simp[hr'])).1,?_⟩) (fun W hW=>hR W ?_)
  . rw[Pi (by rintro rfl;exact hr hr')]
    exact(hm r' (by simp[hr'])).2
  . refine⟨((Lo B w).grown (grownBy_putObj' w r (.deferred none)) (by have:=(Ln.1 hk).1;omega) (fun k e=>by cases e;exact hB)).trans hW.below,fun k o ho hc=>?_⟩
    refine hW.same k o ?_ hc
    by_cases e:k=r
    . subst e;rw[hk] at ho;cases ho;cases hc
    . exact(Pi e).trans ho
theorem xj{fn:Func}{R:Ending->Ba->Prop}{a:Act}{w:Ba}{B:Nat}(hm:Marks B a.defers w)
  (hR:∀W,Shut B w W->∃v,(results fn a.tmps).run P W=.ok v W/\R (.returned v) W):bodyPostM Fence.wide 9 P fn R .ret a w:=by
 obtain⟨rs,hd,hn,hk⟩:=hm;show LeavesInM Fence.wide 9 P fn a.tmps R a.defers .returning w;rw[hd];exact vm rs w hn hk hR
theorem kE{β:Type}{g:Operand}{ps:Array Tmp}{assign body:Code}{Q:Exit->Act->Ba->Prop}{a:Act}{w:Ba}
  {gf:Nat} {lb:Array Value} (hg:a.eval g=.func (.func gf) #[] lb) (eg:Enters P gf)
  {encs:β->Array Value} {K:Nat->Prop} {xs:List β} (hseq:Iter P gf lb encs K xs w) (hK:∀k,K k->k<w.heap.size) (hps:∀x,(encs x).size=ps.size)
  (I:List { x:β // x∈xs }->Ba->Prop) (Ix:Code->List { x:β // x∈xs }->Ba->Prop) (hI:OwnFrom w.heap.size I) (hIx:∀c,OwnFrom w.heap.size (Ix c)) (h0:I [] w)
  (C:β->Array Value) (T:TypeId) (a₁:{ x:β // x∈xs }->Nat->Act)
  (hassign:∀(l:Nat) (pre:List { x:β // x∈xs }) (x:{ x:β // x∈xs }) (W:Ba) (K':Act->Ba->Prop),I pre W->(∀g,g=W.heap.size->I pre (W.alloc (.cells (C x.1) T))->K' (a₁ x g) (W.alloc (.cells (C x.1) T))) ->
   assign.wpIn (Fence.wide.inRound l) 7 P (Exit.then K' (fun _ _ _=>False)) { tmps:=(ps.zip (encs x.1)).foldl (fun t (p,v)=>t.setIfInBounds p v) a.tmps,defers:=[] } W)
  (hbody:∀(l:Nat) (pre:List { x:β // x∈xs }) (x:{ x:β // x∈xs }) (g:Nat) (W:Ba),w.heap.size<=g->W.heap[g]?=some (.cells (C x.1) T (0,0))->I pre W->pre.length<xs.length->body.wpIn (Fence.wide.inRound l) 7 P (ownPostG w.heap.size (KeepB K) I Ix (pre++[x]) W) (a₁ x g) W)
  (hdone:∀(D:Nat) (ys:List { x:β // x∈xs }) (W:Ba),w.heap.size<=D->ys.map (·.1)=xs->I ys W->W.heap[D]?=some (.deferred (some []))->Q .normal { a with defers:={ target:=.collected D,args:=#[] }::a.defers } W)
  (hstop:∀(D:Nat) (c:Code) (pre:List { x:β // x∈xs }) (W:Ba),w.heap.size<=D->pre.map (·.1) <+: xs->Ix c pre W->W.heap[D]?=some (.deferred (some []))->c.wp P Q { a with defers:={ target:=.collected D,args:=#[] }::a.defers } W)
  (hbig:∀pre W,I pre W->w.heap.size<=W.heap.size) :
  (Code.rangeFunc g ps assign body).wp P Q a w:=
 (RT (n:=9)).1 (wpIn_rangeFunc_ownH (F:=Fence.wide) (n:=9) rfl (by omega) hg trivial eg (hseq 8 (by omega)) KeepB.trans
  (fun W l o o' hl _ _ _=>KeepB.putObj (fun hk=>by have:=hK l hk;omega) o') (Lo _ _) (fun x=>hps x.1) I Ix hI hIx h0
  (fun x a' W=>∃g,a'=a₁ x g/\w.heap.size<=g/\W.heap[g]?=some (.cells (C x.1) T (0,0)))
  (fun x a' _ W W' row ⟨g,e,hgg,hc⟩ hgr hr=>⟨g,e,hgg,(L9 hgr (fun r e=>(hr r e).2) hc rfl).trans hc⟩)
  (fun l pre x W K' hi hK'=>hassign l pre x W K' hi fun g hge hi2=>by
   refine hK' _ _ ?_ ?_ hi2 ⟨g,rfl,by rw[hge];exact hbig _ _ hi,by rw[hge];exact zw _ _⟩
   . exact⟨by simp,fun k o _ hk ho=>(NS W _ k (Ln.1 hk).1).trans hk⟩
   . exact KeepB.alloc _ _ _)
  (fun l pre x a' W _ _ hi ⟨g,e,hgg,hc⟩ hl=>by subst e;exact hbody l pre x g W hgg hc hi hl) hdone
  (fun D c pre W hD hS hc hk=>RT.2 (hstop D c pre W hD hS hc hk)))
end
structure RsIn(B:Nat)(C:Array Value)(T:TypeId)(r:Int)(w W:Ba):Prop where
 below:Below B w W
 b0:W.heap[B]?=some (.cells C T (0,0))
 b1:W.heap[B+1]?=some (.cells #[.int .i64 r] 39 (0,0))
theorem RsIn.turn{B:Nat}{C:Array Value}{T:TypeId}{r:Int}{w W W':Ba}{row:Option Nat}(h:RsIn B C T r w W)(hg:W.grownBy W' row)(hr:∀r,row=some r->B<=r/\∃o:Obj,W.heap[r]?=some o/\o.isCells=false):RsIn B C T r w W':=
 ⟨h.below.grown hg (by have:=(Ln.1 h.b0).1;omega) (fun k hk=>(hr k hk).1),(L9 hg (fun r e=>(hr r e).2) h.b0 rfl).trans h.b0,(L9 hg (fun r e=>(hr r e).2) h.b1 rfl).trans h.b1⟩
theorem RsIn.on{B D:Nat}{C:Array Value}{T:TypeId}{r:Int}{w W W':Ba}(h:RsIn B C T r w W)(hb:Below D W W')(hD:B+2<=D):RsIn B C T r w W':=
 ⟨h.below.trans (hb.mono (by omega)),Lb hb (by omega) h.b0,Lb hb (by omega) h.b1⟩
theorem RsIn.set{B:Nat}{C:Array Value}{T:TypeId}{r:Int}{w W:Ba}(h:RsIn B C T r w W)(r':Int):RsIn B C T r' w (W.setCell ⟨B+1,0,none⟩ (.int .i64 r')):=by
 obtain⟨x1,x2,x3⟩:=qI h.b1 (.int .i64 r');exact⟨h.below.setCell (by simp) _,(x3 B (by omega)).trans h.b0,x1⟩
theorem RsIn.keeps{B D:Nat}{C:Array Value}{T:TypeId}{r:Int}{w W:Ba}(h:RsIn B C T r w W)(r':Int):KeepsFrom D W (W.setCell ⟨B+1,0,none⟩ (.int .i64 r')):=by
 obtain⟨x1,x2,x3⟩:=qI h.b1 (.int .i64 r');refine⟨by omega,fun k o _ hk ho=>?_⟩;have k1:k≠B+1:=by rintro rfl;rw[h.b1] at hk;cases hk;cases ho
 exact(x3 k k1).trans hk
theorem qd{D:Nat}{W W':Ba}(h:Below W.heap.size W W'):KeepsFrom D W W':=⟨h.size,fun k _ _ hk _=>(h.block k (Ln.1 hk).1).trans hk⟩
theorem RsIn.cell{B:Nat}{C:Array Value}{T:TypeId}{r:Int}{w W X:Ba}(h:RsIn B C T r w W)(hS:Shut B W X):X.cell? ⟨B+1,0,none⟩=some (.int .i64 r):=hS.cell (zh h.b1 0 rfl)
end
section
open Go.RowKit Go.Shelf
attribute [local go_sem] Oper.semAt_some
theorem Z6(a:Ad)(hf:FewA a)(SV:Bb)(ks:Nat)(w:Ba)(hS:SAt w w.heap.size SV a.sts) :
  Calls Tryz.prog 150 #[.agg #[.int .i64 a.n,.slice SV a.sts.length ks]] w fun e w'=>e=.returned (.int .i64 (qk a))/\Below w.heap.size w w':=by
 have hf1:=hf.1;have HSZ:=zH (fun (w':Ba) (h:SAt w' w'.heap.size SV a.sts)=>sized_any a hf SV ks w' h);have HST:=zH (fun (A:Bb) (k0:Nat) (l:List Mv) (hl:l.length<=40) (w':Ba) (h:MAt w' w'.heap.size A l)=>state_any a SV ks hf1 A k0 l hl w' h);have HI:=zH (fun (bx:Nat) (w':Ba) (hb:w'.heap[bx]?=some (.cells #[.int .i64 a.n,.slice SV a.sts.length ks] 27)) (h:SAt w' w.heap.size SV a.sts) (hB:w.heap.size<=w'.heap.size)=>jv a hf SV ks w.heap.size bx w' hb h hB);have HFE:=zH (fun l hl=>hf.each (l:=l) hl);have HE1:=zH (@vL a);have HE2:=zH (@wk a);have HE3:=zH (fun h h2=>@vK a h h2 hf);have HE4:=zH (fun h h2=>@vM a h h2 hf);obtain⟨E,hE⟩:=Ki (qk a);rw[hE] at HE1 HE2 HE3 HE4 ⊢;have HS:=zH hS;clear hS hE hf;refine yK Tryz.func150 rfl ?_;simp only[Tryz.ntmps150,List.size_toArray,List.length_cons,List.length_nil,Nat.reduceAdd,Nat.reduceSub,Array.replicate_succ,Array.replicate_zero,List.push_toArray,List.append_toArray,List.nil_append,List.cons_append]
 by_cases hr:a.n<1\/5<a.n
 . have hR:=zH (HE1.out hr)
   have HN:=zH hr;clear HE1 HE2 HE3 HE4 hr HSZ HST HI HFE;go_wp2_with fail
   all_goals first | (exfalso;have:=HN.out;omega) | skip
   all_goals
    refine xj (B:=w.heap.size) (Marks.nil _ _) ?_;intro W hX;have c1:=hX.cell (zh (zw (w.alloc (.cells #[.int .i64 a.n,.slice SV a.sts.length ks] 27)) (.cells #[.int .i64 2] 39)) 0 rfl);rw[Nw] at c1;refine⟨.int .i64 2,?_,zk hR.out.symm,(kh _ _ _).trans hX.below⟩;clear hX hR HN;simp[results,Tryz.results150,go_sem,c1]
 have r1:¬a.n<1:=by omega
 have r2:¬5<a.n:=by omega
 have HE2:=zH (HE2.out hr);have HE3:=zH (HE3.out hr);have HE4:=zH (HE4.out hr);clear hr HE1;go_wp2_with fail
 all_goals first | (exfalso;omega) | skip
 obtain⟨w2,hw2,b0,b1,hsz,hB⟩:=yB w #[.int .i64 a.n,.slice SV a.sts.length ks] #[.int .i64 0] 27 39;rw[hw2];have H0:Hid (RsIn w.heap.size #[.int .i64 a.n,.slice SV a.sts.length ks] 27 0 w w2):=⟨hB,b0,b1⟩;have HSw:=zH ((HS.out.keep hB).more hB.size);clear hw2 b0 b1 hB;refine(HSZ.out w2 HSw.out).mono ?_;rintro e w3 ⟨rfl,hb⟩;have H1:=zH (H0.out.on hb hsz);have hs3:w.heap.size+2<=w3.heap.size:=by have:=hb.size;omega
 obtain⟨q0,q1,_⟩:=Ka H1.out.b0;have p0:=zh H1.out.b1 0 rfl;have f0:=zi H1.out.b1 0;clear hb HSw H0 HSZ
 by_cases hz:a.sts.length<1
 . have hR:=zH (HE2.out hz)
   rw[Lh hz];clear HE2 HE3 HE4 HST HI HFE;go_wp2_with fail;refine xj (B:=w.heap.size) (Marks.nil _ _) ?_;intro W hX;have hI:=H1.out.set 5;have c1:=hI.cell hX;refine⟨.int .i64 5,?_,zk hR.out.symm,hI.below.trans hX.below⟩;clear hX hR hI;simp[results,Tryz.results150,go_sem,c1]
 have hz1:1<=a.sts.length:=by omega
 rw[Lg hz];have G3:=zH (HE3.out hz1);have G4:=zH (HE4.out hz1);clear HE2 hz HE3 HE4;obtain⟨F,hF⟩:=Ki (zI a a.sts);have HF:Hid (F=zI a (a.sts.drop 0)):=by rw[L4];exact hF.symm
 have HSZ0:=zH (fun h=>@xT a (hF.trans h));rw[hF] at G3 G4;clear hF;have g1:=zH (fun k h=>@vf a a.sts k h);have g2:=zH (fun k h=>@vQ a a.sts k h);have g3:=zH (fun k h=>@ve a a.sts k h);go_wp2_with fail
 all_goals first | (exfalso;omega) | skip
 clear q0 q1 p0 f0
 go_loopw [27] (fun i wr=>∃k:Nat,k<=a.sts.length/\i=.int .i64 (k:Int)/\Hid (F=zI a (a.sts.drop k))/\Hid (RsIn w.heap.size #[.int .i64 a.n,.slice SV a.sts.length ks] 27 0 w wr)/\w.heap.size+2<=wr.heap.size) (fun i _=>a.sts.length-(intOf i).toNat)
 case atStart=>exact⟨0,by omega,rfl,HF,H1,hs3⟩
 case round=>
  obtain⟨k,hk,rfl,hrk,hRs,hsr⟩:=hrel;clear HF;obtain⟨q0,q1,_⟩:=Ka hRs.out.b0;have p0:=zh hRs.out.b1 0 rfl;have f0:=zi hRs.out.b1 0
  by_cases hlt:k<a.sts.length
  . have hbd:=zH (g1.out k hlt)
    have hon:=zH (g2.out k hlt);obtain⟨b,o,A',k',e',hbB,c1,hM⟩:=(HS.out.keep hRs.out.below).at_ k hlt;have hl40:=HFE.out _ (Ld hlt);have HC:=zH (HST.out A' k' (a.sts[k]'hlt) hl40);have HMr:=zH (hM.more hRs.out.below.size);obtain⟨L,hL⟩:=Ki (a.sts[k]);rw[hL] at c1 hl40 HC HMr hbd hon;obtain⟨ev,hev⟩:=Ki (qp a L);rw[hev] at HC hbd hon;subst e';clear hM hL hev g1 g2 g3 HST HI HFE HSZ0;go_wp2_with fail;refine(HC.out _ HMr.out).mono ?_;rintro e w4 ⟨rfl,hb⟩;have H4:=zH (hRs.out.on hb hsr);have hs4:w.heap.size+2<=w4.heap.size:=by have:=hb.size;omega
    obtain⟨q0,q1,_⟩:=Ka H4.out.b0;have p0:=zh H4.out.b1 0 rfl;have f0:=zi H4.out.b1 0;clear hb HC
    by_cases he:ev=0
    . subst he
      have hR:=zH (hrk.out.trans (hon.out (by simp)));clear hbd hon hrk;go_wp2_with fail
      go_roundw
      case rel=>exact⟨k+1,by omega,by go_num,hR,H4,hs4⟩
      case measure=>simp[intOf];omega
    . have hFv:=hrk.out.trans (hbd.out he)
      have hR:=zH ((G3.out (by rw[hFv];exact he)).trans hFv);have e0:(ev != 0)=true:=by simpa using he
      clear hbd hon hrk G3 G4 hFv he;go_wp2_with fail;refine xj (B:=w.heap.size) (Marks.nil _ _) ?_;intro W hX;have hI:=H4.out.set ev;have c1:=hI.cell hX;refine⟨.int .i64 ev,?_,zk hR.out.symm,hI.below.trans hX.below⟩;clear hX hR hI;simp[results,Tryz.results150,go_sem,c1]
  . obtain rfl:k=a.sts.length:=by omega
    have hF0:F=0:=hrk.out.trans (g3.out _ rfl);have hR:=zH (G4.out hF0);have HZ:=zH (HSZ0.out hF0);clear G3 G4 hrk g1 g2 g3 HST HSZ0 hF0;go_wp2_with fail;refine(uL a.n (.slice SV a.sts.length ks) wr).mono ?_;rintro e W ⟨rfl,hW⟩;have bb:=zw wr (.cells #[.int .i64 a.n,.slice SV a.sts.length ks] 27);have hB2:Below wr.heap.size wr W:=by rw[<-hW];exact zW _ _
    have hs1:wr.heap.size<W.heap.size:=by rw[<-hW];simp
    rw[hW] at bb;have HW:=zH (hRs.out.on hB2 hsr);have HIT:=zH (HI.out wr.heap.size W bb (HS.out.keep HW.out.below) (by omega));clear hW bb hB2 HI q0 q1 p0 f0;go_wp2_with fail
    refine kE rfl (N0 RK (by kernel_rfl) rfl) HIT.out (by rintro k (h | rfl)<;>omega) (fun _=>rfl)
     (fun (pre:List { x:Int×Mv // x∈zM 0 a.sts }) X=>RsIn w.heap.size #[.int .i64 a.n,.slice SV a.sts.length ks] 27 0 w X/\(∀x∈pre,((a.at_ x.1.2.to).all fun k=>qV x.1.2 k)=true)/\W.heap.size<=X.heap.size)
     (fun c _ W=>c=.ret/\RsIn w.heap.size #[.int .i64 a.n,.slice SV a.sts.length ks] 27 21 w W/\xO a=false)
     (fun _ _ _ _ h hg hr=>⟨h.1.turn hg (fun r e=>⟨by have:=(hr r e).1;omega,(hr r e).2⟩),h.2.1,Lz h.2.2 hg.size⟩) (fun _ _ _ _ _ ⟨h1,h2,h3⟩ hg hr=>⟨h1,h2.turn hg (fun r e=>⟨by have:=(hr r e).1;omega,(hr r e).2⟩),h3⟩)
     ⟨HW.out,(fun x hx=>by cases hx),Le _⟩ (fun x=>x.2.cells) 94 ?a1 ?assign ?body ?done ?stop (fun _ _ h=>h.2.2)
    case assign=>
     intro l pre x X K hI hK;obtain⟨g,hg⟩:∃g,g=X.heap.size:=⟨_,rfl⟩;have HK:=zH (hK g hg ⟨hI.1.on (zW X _) (zj hI.1.b1),hI.2.1,by have:=hI.2.2;simp;omega⟩);have HG:=zH hg;unfold Mv.cells at HK ⊢;dsimp only at HK ⊢;clear hK hg hI;gi_wp2;rw[<-HG.out];exact HK.out
    case body=>
     intro l pre x g W1 hg hgb hI hlt;obtain⟨hI1,hI2,hI3⟩:=hI;obtain⟨z1,z2,z3,z4⟩:=HZ.out x.1.2 (Xw x.2);obtain⟨m,hm⟩:=Ki x.1.2;have HM:=zH hm;rw[hm] at z1 z2 z3 z4 hgb;obtain⟨f1,ef1,lf1⟩:=qM z1;obtain⟨t,et⟩:=Lr z3;have htl:t<a.sts.length:=by omega
     have hat:a.at_ m.to=a.sts[t]:=by unfold Ad.at_;rw[et,Ls,Lj,Lm htl];rfl
     obtain⟨b,o,A',k',e',hbB,c1,hMA⟩:=(HS.out.keep hI1.below).at_ t htl;have hl40:=HFE.out _ (Ld htl);have HLZ:Hid (∀y∈a.sts[t],yi y.r=0):=fun y hy=>(HZ.out y (NA.2 ⟨_,Ld htl,hy⟩)).1
     obtain⟨L,hL⟩:=Ki (a.sts[t]);rw[hL] at c1 hMA hl40 HLZ hat;have HAT:=zH hat;have HI1:=zH hI1;have HI2:=zH hI2;have HGB:=zH hgb;have HMA:=zH (hMA.more hI1.below.size);obtain⟨q0,q1,_⟩:=Ka hI1.b0;have u7:=zh hgb 7 (u:=.int .i64 m.to) rfl;have u6:=zh hgb 6 (u:=.int .i64 m.r.f) rfl;rw[et] at u7;have hgl:=zj hgb;have hB1:=zj hI1.b1;have HE1:=zH ef1;subst e';clear hm z1 z2 z3 z4 et ef1 hat hL hMA hI1 hI2 hgb hlt;gi_wp2_with fail
     gi_loopw [49] (fun i wr=>∃j:Nat,j<=L.length/\i=.int .i64 (j:Int)/\Hid (∀k (h:k<L.length),k<j->qV m L[k]=true)/\Hid (Below W1.heap.size W1 wr)) (fun i _=>L.length-(intOf i).toNat)
     case atStart=>exact⟨0,by omega,rfl,(fun k h h0=>by omega),Lo _ _⟩
     case round=>
      obtain⟨j,hj,rfl,hkp,hbl⟩:=hrel;clear q0 q1 u6 u7 c1
      by_cases hjl:j<L.length
      . obtain⟨b2,o2,rfl,hb2,m0,m1,m2,m3,m4,m5,m6,m7⟩:=(HMA.out.keep hbl.out).row j hjl
        obtain⟨f2,ef2,lf2⟩:=qM (HLZ.out _ (Ld hjl));have hkb:qV m L[j]=decide (f1 &&& f2=f1):=by unfold qV;rw[HE1.out,ef2,Ls,Ls];rw[Pd];simp
        have hmem:L[j]∈L:=Ld hjl;obtain⟨y,hy⟩:=Ki (L[j]);have HYe:=zH hy;rw[hy] at m0 m1 m2 m3 m4 m5 m6 m7 hkb ef2 hmem;have HEF:=zH ef2;have hgw:=(hbl.out.block g hgl).trans HGB.out;have u6:=zh hgw 6 (u:=.int .i64 m.r.f) rfl;have hRw:=HI1.out.on hbl.out (by omega);have p0:=zh hRw.b1 0 rfl;have f0:=zi hRw.b1 0;have hgs:=zj hgw;have hbs:=zj hRw.b1;have HRw:=zH hRw;have HKB:=zH hkb;rw[ef2] at m6;rw[HE1.out] at u6;have haz:=zH (@Jb f2 f1 lf2 lf1);clear hy ef2 hgw hRw hkb hmem
        by_cases hk:f1 &&& f2=f1
        . have hz:=haz.out.2 hk
          have hkt:Hid (qV m y=true):=HKB.out.trans (Lk hk);clear haz HKB hk;gi_wp2_with fail
          go_roundw
          case rel=>
           refine⟨j+1,by omega,by go_num,fun k h h1=>?_,?_⟩
           . by_cases e:k=j
             . subst e;rw[HYe.out];exact hkt.out
             . exact hkp.out k h (by omega)
           . exact hbl.out.alloc hbl.out.size _
          case measure=>simp[intOf];omega
        . have hz:¬(bits BinOp.andNot IntKind.i64 (f1:Int) (f2:Int)=0):=fun h=>hk (haz.out.1 h)
          have e0:(bits BinOp.andNot IntKind.i64 (f1:Int) (f2:Int) != 0)=true:=by simpa using hz
          have hgf:Hid (xO a=false):=by
           unfold xO Hid;rw[List.all_eq_false];refine⟨m,by rw[<-HM.out];exact Xw x.2,?_⟩;rw[HAT.out];intro hall;have h1:=LK.1 hall y (by rw[<-HYe.out];exact Ld hjl);rw[HKB.out,Li hk] at h1
           cases h1
          clear haz HKB hk hz;gi_wp2_with fail;have hset:=HRw.out.set 21;refine⟨((qd hbl.out).trans (HRw.out.keeps 21)).trans (qd (zW _ _)),rfl,hset.on (zW _ _) (zj hset.b1),hgf.out⟩
      . obtain rfl:j=L.length:=by omega
        gi_wp2_with fail;refine⟨qd hbl.out,KeepB.of_below hbl.out (by rintro k (h | rfl)<;>omega),HI1.out.on hbl.out (by omega),?_,Lz hI3 hbl.out.size⟩;intro y hy;rcases Nd.1 hy with hy | hy
        . exact HI2.out y hy
        . simp only[List.mem_singleton] at hy
          subst hy;rw[HM.out,HAT.out,LK];intro z hz;obtain⟨k,hk,rfl⟩:=NY.1 hz;exact hkp.out k hk hk
    case done=>
     intro D ys W1 hD hys hI hDk
     have hgr:xO a=true:=by
      unfold xO;rw[LK];intro m hm;have hm2:m∈(zM 0 a.sts).map Prod.snd:=by rw[kj];exact hm
      obtain⟨x,hx,rfl⟩:=LX.1 hm2;rw[<-hys] at hx;obtain⟨y,hy,rfl⟩:=LX.1 hx;exact hI.2.1 y hy
     have hE:=zH (hR.out.trans (Lh hgr));have HI:=zH hI.1;have p0:=zh HI.out.b1 0 rfl;have f0:=zi HI.out.b1 0;have HD:=zH hDk;clear hI hys hgr hDk hR HIT HW;go_wp2_with fail;refine xj (B:=w.heap.size) (jx (by omega) ((HI.out.keeps (D:=D) 0).same D _ (Le _) HD.out rfl)) ?_;intro X hX;have hI:=HI.out.set 0;have c1:=hI.cell hX;refine⟨.int .i64 0,?_,zk hE.out.symm,hI.below.trans hX.below⟩;clear hX hE hI;simp[results,Tryz.results150,go_sem,c1]
    case stop=>
     intro D c pre W1 hD hpre hI hDk;obtain⟨rfl,hI,hgr⟩:=hI;have hE:=zH (hR.out.trans (Lg (by rw[hgr];decide)));have HI:=zH hI;have HD:=zH hDk;clear hI hgr hDk hR HIT HW hpre;go_wp2_with fail;refine xj (B:=w.heap.size) (jx (by omega) HD.out) ?_;intro X hX;have c1:=HI.out.cell hX;refine⟨.int .i64 21,?_,zk hE.out.symm,HI.out.below.trans hX.below⟩;clear hX hE;simp[results,Tryz.results150,go_sem,c1]
end
section
open Go.RowKit
attribute [local go_sem] Oper.semAt_some
def Pb.vs(p:Pb)(A:Bb)(kc:Nat)(SV:Bb)(ks:Nat):Array Value:=#[.int .i64 p.t.n,.int .i64 p.t.ins,.int .i64 p.t.outs,.slice A p.t.cases.length kc,.int .i64 p.a.n,.slice SV p.a.sts.length ks,.int .i64 p.k]
theorem vz{p:Pb}(h:xn p.t≠0):zU p=xn p.t:=Lh h
theorem uF{p:Pb}(h:xn p.t=0)(h2:qk p.a≠0):zU p=qk p.a:=by unfold zU;rw[Lg (by simpa using h),Lh h2]
theorem Xn{p:Pb}(h:xn p.t=0)(h2:qk p.a=0)(h3:p.t.n≠p.a.n):zU p=22:=by unfold zU;rw[Lg (by simpa using h),Lg (by simpa using h2),Lh h3]
theorem Xo{p:Pb}(h:xn p.t=0)(h2:qk p.a=0)(h3:p.t.n=p.a.n)(h4:p.k<0\/6<p.k):zU p=2:=by unfold zU;rw[Lg (by simpa using h),Lg (by simpa using h2),Lg (by simpa using h3),Lh h4]
theorem Ql{p:Pb}(h:xn p.t=0)(h2:qk p.a=0)(h3:p.t.n=p.a.n)(h4:¬(p.k<0\/6<p.k)):zU p=0:=by unfold zU;rw[Lg (by simpa using h),Lg (by simpa using h2),Lg (by simpa using h3),Lg h4]
def XQ(p:Pb):Prop:=FewT p.t/\FewA p.a
theorem JK(p:Pb)(hf:XQ p)(A:Bb)(kc:Nat)(SV:Bb)(ks:Nat)(w:Ba)(hA:CAt w w.heap.size A p.t.cases)(hS:SAt w w.heap.size SV p.a.sts) :
  Calls Tryz.prog 128 #[.agg (p.vs A kc SV ks)] w fun e w'=>e=.returned (.int .i64 (zU p))/\Below w.heap.size w w':=by
 have HT:=zH (fun (w':Ba) (h:CAt w' w'.heap.size A p.t.cases)=>Jj p.t A kc hf.1 w' h);have HD:=zH (fun (w':Ba) (h:SAt w' w'.heap.size SV p.a.sts)=>Z6 p.a hf.2 SV ks w' h);have HE1:=zH (@vz p);have HE2:=zH (@uF p);have HE3:=zH (@Xn p);have HE4:=zH (@Xo p);have HE5:=zH (@Ql p);obtain⟨E,hE⟩:=Ki (zU p);rw[hE] at HE1 HE2 HE3 HE4 HE5 ⊢;obtain⟨tE,htE⟩:=Ki (xn p.t);rw[htE] at HE1 HE2 HE3 HE4 HE5 HT;obtain⟨aE,haE⟩:=Ki (qk p.a);rw[haE] at HE2 HE3 HE4 HE5 HD;clear hE htE haE hf;unfold Pb.vs;obtain⟨w1,hw1⟩:=Ki (w.alloc (.cells (p.vs A kc SV ks) 29));have hbb:=zw w (.cells (p.vs A kc SV ks) 29);have hb01:Below w.heap.size w w1:=by rw[<-hw1];exact zW w _
 have hsz1:w1.heap.size=w.heap.size+1:=by rw[<-hw1];simp
 rw[hw1] at hbb;unfold Pb.vs at hw1 hbb;have HBB:=zH hbb;have HB01:=zH hb01;have HA:=zH ((hA.keep hb01).more (by omega:w.heap.size<=w1.heap.size));have HS:=zH ((hS.keep hb01).more (by omega:w.heap.size<=w1.heap.size));have HW1:=zH hw1;obtain⟨q0,q1,q2,q3,_⟩:=Kb hbb;clear hA hS hw1 hb01 hbb;go_enter Tryz.func128,Tryz.ntmps128;go_wp2_with fail;rw[HW1.out];go_wp2_with fail;refine(HT.out w1 HA.out).mono ?_;rintro e w2 ⟨rfl,hb2⟩;have B2:=zH (HB01.out.trans (hb2.mono (by omega)));have HS2:=zH ((HS.out.keep hb2).more hb2.size);have hbk:=La hb2 HBB.out;have HB2:=zH hbk;have hs2:=hb2.size;have q4:=zh hbk 4 rfl;have q5:=zh hbk 5 rfl;clear hb2 hbk HT HW1 q0 q1 q2 q3
 by_cases h1:tE=0
 case neg=>
  have hR:=zH (HE1.out h1);have e0:(tE != 0)=true:=by simpa using h1
  clear HE1 HE2 HE3 HE4 HE5 HD h1;go_wp2_with fail;go_ret;exact⟨zk hR.out.symm,B2.out⟩
 case pos=>
 subst h1;clear HE1;have F2:=zH (HE2.out (by simp));have F3:=zH (HE3.out (by simp));have F4:=zH (HE4.out (by simp));have F5:=zH (HE5.out (by simp));clear HE2 HE3 HE4 HE5;go_wp2_with fail;refine(HD.out w2 HS2.out).mono ?_;rintro e w3 ⟨rfl,hb3⟩;have B3:=zH (B2.out.trans (hb3.mono (by omega)));have hbk:=La hb3 HB2.out;have hs3:=hb3.size;have q0:=zh hbk 0 rfl;have q4:=zh hbk 4 rfl;have q6:=zh hbk 6 rfl;clear hb3 hbk HD q5
 by_cases h2:aE=0
 case neg=>
  have hR:=zH (F2.out h2);have e0:(aE != 0)=true:=by simpa using h2
  clear F2 F3 F4 F5 h2;go_wp2_with fail;go_ret;exact⟨zk hR.out.symm,B3.out⟩
 case pos=>
 subst h2;clear F2;have G3:=zH (F3.out (by simp));have G4:=zH (F4.out (by simp));have G5:=zH (F5.out (by simp));clear F3 F4 F5
 by_cases h3:p.t.n=p.a.n
 case neg=>
  have hR:=zH (G3.out h3);have e0:(p.t.n != p.a.n)=true:=by simpa using h3
  clear G3 G4 G5;go_wp2_with fail
  all_goals
   go_ret;exact⟨zk hR.out.symm,B3.out⟩
 case pos=>
 have e0:(p.t.n != p.a.n)=false:=by simpa using h3
 have K4:=zH (G4.out h3);have K5:=zH (G5.out h3);rw[h3] at q0;clear G3 G4 G5 h3
 by_cases h4:p.k<0\/6<p.k
 . have hR:=zH (K4.out h4)
   clear K4 K5
   by_cases h5:p.k<0
   . clear h4
     go_wp2_with fail
     all_goals first | (exfalso;omega) | skip
     go_ret;exact⟨zk hR.out.symm,B3.out⟩
   . have h6:6<p.k:=by omega
     clear h4;go_wp2_with fail
     all_goals first | (exfalso;omega) | skip
     go_ret;exact⟨zk hR.out.symm,B3.out⟩
 . have hR:=zH (K5.out h4)
   have h5:¬p.k<0:=by omega
   have h6:¬6<p.k:=by omega
   clear K4 K5 h4;go_wp2_with fail
   all_goals first | (exfalso;omega) | skip
   go_ret;exact⟨zk hR.out.symm,B3.out⟩
theorem jo(p:Pb)(hf:XQ p)(A:Bb)(kc:Nat)(SV:Bb)(ks:Nat)(w:Ba)(hA:CAt w w.heap.size A p.t.cases)(hS:SAt w w.heap.size SV p.a.sts) :
  Calls Tryz.prog 31 #[.agg (p.vs A kc SV ks)] w fun e w'=>e=.returned (.int .i64 (zU p))/\Below w.heap.size w w':=by
 have HT:=zH (fun (w':Ba) (h:CAt w' w'.heap.size A p.t.cases)=>X4 p.t A kc hf.1 w' h);have HD:=zH (fun (w':Ba) (h:SAt w' w'.heap.size SV p.a.sts)=>Qh p.a hf.2 SV ks w' h);have HE1:=zH (@vz p);have HE2:=zH (@uF p);have HE3:=zH (@Xn p);have HE4:=zH (@Xo p);have HE5:=zH (@Ql p);obtain⟨E,hE⟩:=Ki (zU p);rw[hE] at HE1 HE2 HE3 HE4 HE5 ⊢;obtain⟨tE,htE⟩:=Ki (xn p.t);rw[htE] at HE1 HE2 HE3 HE4 HE5 HT;obtain⟨aE,haE⟩:=Ki (qk p.a);rw[haE] at HE2 HE3 HE4 HE5 HD;clear hE htE haE hf;unfold Pb.vs;obtain⟨w1,hw1⟩:=Ki (w.alloc (.cells (p.vs A kc SV ks) 29));have hbb:=zw w (.cells (p.vs A kc SV ks) 29);have hb01:Below w.heap.size w w1:=by rw[<-hw1];exact zW w _
 have hsz1:w1.heap.size=w.heap.size+1:=by rw[<-hw1];simp
 rw[hw1] at hbb;unfold Pb.vs at hw1 hbb;have HBB:=zH hbb;have HB01:=zH hb01;have HA:=zH ((hA.keep hb01).more (by omega:w.heap.size<=w1.heap.size));have HS:=zH ((hS.keep hb01).more (by omega:w.heap.size<=w1.heap.size));have HW1:=zH hw1;obtain⟨q0,q1,q2,q3,_⟩:=Kb hbb;clear hA hS hw1 hb01 hbb;go_enter Tryz.func31,Tryz.ntmps31;go_wp2_with fail;rw[HW1.out];go_wp2_with fail;refine(HT.out w1 HA.out).mono ?_;rintro e w2 ⟨rfl,hb2⟩;have B2:=zH (HB01.out.trans (hb2.mono (by omega)));have HS2:=zH ((HS.out.keep hb2).more hb2.size);have hbk:=La hb2 HBB.out;have HB2:=zH hbk;have hs2:=hb2.size;have q4:=zh hbk 4 rfl;have q5:=zh hbk 5 rfl;clear hb2 hbk HT HW1 q0 q1 q2 q3
 by_cases h1:tE=0
 case neg=>
  have hR:=zH (HE1.out h1);have e0:(tE != 0)=true:=by simpa using h1
  clear HE1 HE2 HE3 HE4 HE5 HD h1;go_wp2_with fail;go_ret;exact⟨zk hR.out.symm,B2.out⟩
 case pos=>
 subst h1;clear HE1;have F2:=zH (HE2.out (by simp));have F3:=zH (HE3.out (by simp));have F4:=zH (HE4.out (by simp));have F5:=zH (HE5.out (by simp));clear HE2 HE3 HE4 HE5;go_wp2_with fail;refine(HD.out w2 HS2.out).mono ?_;rintro e w3 ⟨rfl,hb3⟩;have B3:=zH (B2.out.trans (hb3.mono (by omega)));have hbk:=La hb3 HB2.out;have hs3:=hb3.size;have q0:=zh hbk 0 rfl;have q4:=zh hbk 4 rfl;have q6:=zh hbk 6 rfl;clear hb3 hbk HD q5
 by_cases h2:aE=0
 case neg=>
  have hR:=zH (F2.out h2);have e0:(aE != 0)=true:=by simpa using h2
  clear F2 F3 F4 F5 h2;go_wp2_with fail;go_ret;exact⟨zk hR.out.symm,B3.out⟩
 case pos=>
 subst h2;clear F2;have G3:=zH (F3.out (by simp));have G4:=zH (F4.out (by simp));have G5:=zH (F5.out (by simp));clear F3 F4 F5
 by_cases h3:p.t.n=p.a.n
 case neg=>
  have hR:=zH (G3.out h3);have e0:(p.t.n != p.a.n)=true:=by simpa using h3
  clear G3 G4 G5;go_wp2_with fail
  all_goals
   go_ret;exact⟨zk hR.out.symm,B3.out⟩
 case pos=>
 have e0:(p.t.n != p.a.n)=false:=by simpa using h3
 have K4:=zH (G4.out h3);have K5:=zH (G5.out h3);rw[h3] at q0;clear G3 G4 G5 h3
 by_cases h4:p.k<0\/6<p.k
 . have hR:=zH (K4.out h4)
   clear K4 K5
   by_cases h5:p.k<0
   . clear h4
     go_wp2_with fail
     all_goals first | (exfalso;omega) | skip
     go_ret;exact⟨zk hR.out.symm,B3.out⟩
   . have h6:6<p.k:=by omega
     clear h4;go_wp2_with fail
     all_goals first | (exfalso;omega) | skip
     go_ret;exact⟨zk hR.out.symm,B3.out⟩
 . have hR:=zH (K5.out h4)
   have h5:¬p.k<0:=by omega
   have h6:¬6<p.k:=by omega
   clear K4 K5 h4;go_wp2_with fail
   all_goals first | (exfalso;omega) | skip
   go_ret;exact⟨zk hR.out.symm,B3.out⟩
def Je(p:Pb):Prop:=LowT p.t/\LowA p.a
theorem pb_eq{a b:Pb}(h1:a.t=b.t)(h2:a.a=b.a)(h3:a.k=b.k):a=b:=by cases a;cases b;simp_all
theorem Js(a b:Pb)(ha:Je a)(hb:Je b)(A B SA SB:Bb)(ca cb sa sb:Nat)(w:Ba)(hA:CAt w w.heap.size A a.t.cases)(hB:CAt w w.heap.size B b.t.cases)(hSA:SAt w w.heap.size SA a.a.sts)(hSB:SAt w w.heap.size SB b.a.sts) :
  Calls Tryz.prog 142 #[.agg (a.vs A ca SA sa),.agg (b.vs B cb SB sb)] w fun e w'=>e=.returned (.bool (decide (a=b)))/\Below w.heap.size w w':=by
 obtain⟨w1,hw1,d0,d1,hs1,hBw⟩:=yB w (a.vs A ca SA sa) (b.vs B cb SB sb) 29 29;have HTT:=zH (Jq a.t b.t ha.1 hb.1 A B ca cb w1 ((hA.keep hBw).more hBw.size) ((hB.keep hBw).more hBw.size));have HAA:=zH (fun (W:Ba) (hW:Below w1.heap.size w1 W)=>Ju a.a b.a ha.2 hb.2 SA SB sa sb W ((((hSA.keep hBw).more hBw.size).keep hW).more hW.size) ((((hSB.keep hBw).more hBw.size).keep hW).more hW.size));unfold Pb.vs at hw1 d0 d1 ⊢;have HBW:=zH hBw;have HD0:=zH d0;have HD1:=zH d1;have HW1:=zH hw1;obtain⟨p0,p1,p2,p3,_⟩:=Kb d0;have p6:=zh d0 6 rfl;obtain⟨q0,q1,q2,q3,_⟩:=Kb d1;have q6:=zh d1 6 rfl;clear hw1 d0 d1 hBw hA hB hSA hSB ha hb;have HT:Hid (a≠b->decide (a=b)=false):=fun h=>Li h
 have HU:Hid (a=b->decide (a=b)=true):=fun h=>Lk h
 obtain⟨r,hr⟩:∃r,decide (a=b)=r:=⟨_,rfl⟩;rw[hr] at HT HU ⊢;clear hr;have HE:=zH (@pb_eq a b);go_enter Tryz.func142,Tryz.ntmps142
 by_cases h1:a.k=b.k
 case neg=>
  have hR:=zH (HT.out (fun h=>h1 (congrArg Pb.k h)));have e0:(a.k==b.k)=false:=by simpa using h1
  clear HT HU HE h1 HTT HAA;go_wp2_with fail;rw[HW1.out];go_wp2_with fail
  all_goals
   go_ret;exact⟨zm hR.out.symm,HBW.out⟩
 case pos=>
 have e0:(a.k==b.k)=true:=by simpa using h1
 have HE2:Hid (a.t=b.t->a.a=b.a->a=b):=fun x y=>HE.out x y h1
 clear HE h1;have h1:=HTT
 by_cases h2:a.t=b.t
 case neg=>
  have hR:=zH (HT.out (fun h=>h2 (congrArg Pb.t h)));rw[Li h2] at h1;clear HT HU HE2 h2 HTT HAA;go_wp2_with fail;rw[HW1.out];go_wp2_with fail;refine h1.out.mono ?_;rintro e w2 ⟨rfl,hb2⟩;go_wp2_with fail;go_ret;exact⟨zm hR.out.symm,Lc HBW.out hb2⟩
 case pos=>
 rw[Lk h2] at h1;have HE3:Hid (a.a=b.a->a=b):=fun y=>HE2.out h2 y
 clear HE2 HTT h2;go_wp2_with fail;rw[HW1.out];go_wp2_with fail;refine h1.out.mono ?_;rintro e w2 ⟨rfl,hb2⟩;have d0:=La hb2 HD0.out;have d1:=La hb2 HD1.out;clear p0 p1 p2 p3 p6 q0 q1 q2 q3 q6;have p4:=zh d0 4 rfl;have p5:=zh d0 5 rfl;have q4:=zh d1 4 rfl;have q5:=zh d1 5 rfl;have HC:=zH (HAA.out w2 hb2);have HB2:=zH (Lc HBW.out hb2);clear d0 d1 hb2 h1 HAA;go_wp2_with fail;refine HC.out.mono ?_;rintro e w3 ⟨rfl,hb3⟩;have HB3:=zH (Lc HB2.out hb3)
 have hR:Hid (decide (a.a=b.a)=r):=by
  by_cases h3:a.a=b.a
  . show _=_;rw[Lk h3,HU.out (HE3.out h3)]
  . show _=_;rw[Li h3,HT.out (fun h=>h3 (congrArg Pb.a h))]
 clear HC hb3 HE3 HT HU;go_wp2_with fail;go_ret;exact⟨zm hR.out,HB3.out⟩
def Z7(x:Exn):Prop:=x.word.length<=17592186044416/\x.views.length<=17592186044416/\∀v∈x.views,v.length<=17592186044416
theorem exn_eq{x y:Exn}(h1:x.c=y.c)(h2:x.word=y.word)(h3:x.views=y.views):x=y:=by cases x;cases y;simp_all
theorem Jp(x y:Exn)(hx:Z7 x)(hy:Z7 y)(A1 A2 B1 B2:Bb)(a1 a2 b1 b2:Nat)(w:Ba)(hA1:RAt w w.heap.size A1 x.word)(hA2:LAt w w.heap.size A2 x.views)(hB1:RAt w w.heap.size B1 y.word)(hB2:LAt w w.heap.size B2 y.views) :
  Calls Tryz.prog 144 #[.agg #[.int .i64 x.c,.slice A1 x.word.length a1,.slice A2 x.views.length a2],.agg #[.int .i64 y.c,.slice B1 y.word.length b1,.slice B2 y.views.length b2]] w fun e w'=>e=.returned (.bool (decide (x=y)))/\Below w.heap.size w w':=by
 obtain⟨hx1,hx2,hx3⟩:=hx;obtain⟨hy1,hy2,hy3⟩:=hy;have HX3:=zH hx3;have HY3:=zH hy3;obtain⟨w1,hw1,d0,d1,hs1,hB⟩:=yB w #[.int .i64 x.c,.slice A1 x.word.length a1,.slice A2 x.views.length a2] #[.int .i64 y.c,.slice B1 y.word.length b1,.slice B2 y.views.length b2] 56 56;have HS:=zH (gC A1 B1 a1 b1 x.word y.word hx1 hy1 w1 ((hA1.keep hB).more hB.size) ((hB1.keep hB).more hB.size));have HL2:=zH ((hA2.keep hB).more hB.size);have HM2:=zH ((hB2.keep hB).more hB.size);have HBW:=zH hB;have HD0:=zH d0;have HD1:=zH d1;have HW1:=zH hw1;obtain⟨p0,p1,p2,_⟩:=Kc d0;obtain⟨q0,q1,q2,_⟩:=Kc d1;clear hw1 d0 d1 hB hA1 hA2 hB1 hB2 hx3 hy3;have HT:Hid (x≠y->decide (x=y)=false):=fun h=>Li h
 have HU:Hid (x=y->decide (x=y)=true):=fun h=>Lk h
 obtain⟨r,hr⟩:∃r,decide (x=y)=r:=⟨_,rfl⟩;rw[hr] at HT HU ⊢;clear hr;go_enter Tryz.func144,Tryz.ntmps144
 by_cases h1:x.c=y.c
 case neg=>
  have hR:=zH (HT.out (fun h=>h1 (congrArg Exn.c h)));have e0:(x.c != y.c)=true:=by simpa using h1
  clear HT HU HS;go_wp2_with fail;rw[HW1.out];go_wp2_with fail
  all_goals
   go_ret;exact⟨zm hR.out.symm,HBW.out⟩
 case pos=>
 have H1:=zH h1;rw[h1] at p0 HW1 HD0;clear h1;go_wp2_with fail;rw[HW1.out];go_wp2_with fail;refine HS.out.mono ?_;rintro e w2 ⟨rfl,m,hw2⟩;have hb2:Below w1.heap.size w1 w2:=by rw[hw2];exact zT (Lo _ _) m
 have HB2:=zH hb2;have p2:=zh (La hb2 HD0.out) 2 rfl;have q2:=zh (La hb2 HD1.out) 2 rfl;clear hb2 hw2 HS HW1 q0 q1 p0 p1
 by_cases h2:x.word=y.word
 case neg=>
  have hR:=zH (HT.out (fun h=>h2 (congrArg Exn.word h)));rw[Li h2];clear HT HU;go_wp2_with fail;go_ret;exact⟨zm hR.out.symm,Lc HBW.out HB2.out⟩
 case pos=>
 have H2:=zH h2;rw[Lk h2];clear h2
 by_cases h3:x.views.length=y.views.length
 case neg=>
  have hR:=zH (HT.out (fun h=>h3 (by rw[h])));have e0:((x.views.length:Int) != (y.views.length:Int))=true:=by simp;omega
  have e1:¬((x.views.length:Int)=(y.views.length:Int)):=by omega
  clear HT HU h3;go_wp2_with fail;go_ret;exact⟨zm hR.out.symm,Lc HBW.out HB2.out⟩
 case pos=>
 have HL:=zH h3;have H3:Hid (x.views=y.views->r=true):=fun h=>HU.out (exn_eq H1.out H2.out h)
 have H4:Hid (x.views≠y.views->r=false):=fun h=>HT.out (fun e=>h (congrArg Exn.views e))
 rw[<-h3] at q2 hy2;clear HT HU h3;go_wp2_with fail;clear p2 q2
 go_loopw [5] (fun i wr=>∃k:Nat,k<=x.views.length/\i=.int .i64 (k:Int)/\Hid (x.views.take k=y.views.take k)/\Hid (Below w1.heap.size w1 wr)) (fun i _=>x.views.length-(intOf i).toNat)
 case atStart=>exact⟨0,by omega,rfl,by rw[Hid,LS,LS],HB2⟩
 case round=>
  clear HB2;obtain⟨k,hk,rfl,hp,hb⟩:=hrel;have p2:=zh (La hb.out HD0.out) 2 rfl;have q2:=zh (La hb.out HD1.out) 2 rfl;have HLy:=HL.out;rw[<-HL.out] at q2
  by_cases hlt:k<x.views.length
  case neg=>
   obtain rfl:k=x.views.length:=by omega
   have hR:=zH (H3.out (qA HL.out hp.out));clear H3 H4 hp;go_wp2_with fail;go_ret;exact⟨zm hR.out.symm,Lc HBW.out hb.out⟩
  case pos=>
  have hky:k<y.views.length:=by omega
  obtain⟨ba,oa,A',k1,ea,_,a0,IA⟩:=(HL2.out.keep hb.out).at_ k hlt;obtain⟨bb,ob,B',k2,eb,_,b0,IB⟩:=(HM2.out.keep hb.out).at_ k hky;subst ea;subst eb;have hxk:=HX3.out _ (Ld hlt);have hyk:=HY3.out _ (Ld hky);have hc:=fun (p:Nat)=>Yc A' B' k1 k2 x.views[k] y.views[k] hxk hyk (wr.drewN p) (IA.more hb.out.size) (IB.more hb.out.size)
  have h0:Hid (x.views[k]=y.views[k]->x.views.take (k+1)=y.views.take (k+1)):=fun he=>xt hp.out hlt hky he
  have hN:Hid (x.views[k]≠y.views[k]->r=false):=fun he=>H4.out (fun h=>he (by simp only[h]))
  by_cases he:x.views[k]=y.views[k]
  . have hR:=zH (h0.out he)
    rw[Lk he] at hc;obtain⟨la,hla⟩:=Ki (x.views[k].length);obtain⟨lb,hlb⟩:=Ki (y.views[k].length);rw[hla] at a0 hc hxk;rw[hlb] at b0 hc hyk;have HC:=zH hc;clear hc hla hlb he hp h0 hN IA IB;go_wp2_with fail;go_quiet ((go_at_call 156;first | exact yg (HC.out _) | exact Nl (HC.out _)));go_wp2_with fail
    go_roundw
    case rel=>exact⟨k+1,by omega,by go_num,hR,zT hb.out _⟩
    case measure=>simp[intOf];omega
  . have hR:=zH (hN.out he)
    rw[Li he] at hc;obtain⟨la,hla⟩:=Ki (x.views[k].length);obtain⟨lb,hlb⟩:=Ki (y.views[k].length);rw[hla] at a0 hc hxk;rw[hlb] at b0 hc hyk;have HC:=zH hc;clear hc hla hlb he hp h0 hN IA IB;go_wp2_with fail;go_quiet ((go_at_call 156;first | exact yg (HC.out _) | exact Nl (HC.out _)));go_wp2_with fail;go_ret;exact⟨zm hR.out.symm,zT (Lc HBW.out hb.out) _⟩
end
section
open Go.RowKit
def kg(vs:List Vw)(v:Vw):Int:=if v∈vs then (vs.idxOf v:Int) else -1
theorem QM{vs:List Vw}{v:Vw}{k:Nat}(hk:k<vs.length)(hv:vs[k]=v)(hn:v∉vs.take k):kg vs v=k:=by
 have hm:v∈vs:=hv▸Ld hk;unfold kg;rw[Lh hm];have h1:vs=vs.take k++vs.drop k:=(PG k vs).symm;rw[h1,NF,Lg hn];have h2:vs.drop k=v::vs.drop (k+1):=by rw[<-hv];exact Ly hk
 rw[h2,List.idxOf_cons_self];simp;omega
theorem idxE_none{vs:List Vw}{v:Vw}(hn:v∉vs):kg vs v=-1:=by unfold kg;rw[Lg hn]
theorem QL{vs:List Vw}{v:Vw}(hv:v∈vs):0<=kg vs v:=by unfold kg;rw[Lh hv];omega
theorem Xt{vs:List Vw}{v:Vw}{k:Nat}(hk:k<vs.length)(hv:vs[k]≠v)(hn:v∉vs.take k):v∉vs.take (k+1):=by
 rw[Lu hk,Nd,not_or];exact⟨hn,by simpa using fun e=>hv e.symm⟩
theorem index_any(n:Int)(A:Bb)(cap:Nat)(vs:List Vw)(v:Vw)(w:Ba)(B:Nat)(hB:B<=w.heap.size)(hA:VAt w B A vs)(hl:vs.length<=2199023255552) :
  Calls Tryz.prog 126 #[.agg #[.int .i64 n,.slice A vs.length cap],.agg v.cells] w fun e w'=>e=.returned (.int .i64 (kg vs v))/\Below w.heap.size w w':=by
 have HB:=kh w;have HE:Hid (∀k (hk:k<vs.length) (X:Ba),(binOp .eql 128 (.agg vs[k].cells) (.agg v.cells)).run Tryz.prog X=.ok (.bool (decide (vs[k]=v))) X):=fun k hk X=>eql_view vs[k] v X
 unfold Vw.cells at HE ⊢;go_enter Tryz.func126,Tryz.ntmps126;go_wp2
 go_loopw [5] (fun i wr=>∃k m:Nat,k<=vs.length/\i=.int .i64 k/\wr=((w.alloc (.cells #[.int .i64 n,.slice A vs.length cap] 32)).alloc (.cells #[.int .i64 v.p,.int .i64 v.r,.int .i64 v.i,.int .i64 v.h0,.int .i64 v.h1,.int .i64 v.h2,.int .i64 v.h3,.int .i64 v.h4] 128)).drewN m/\Hid (v∉vs.take k)) (fun i _=>vs.length-(intOf i).toNat)
 case atStart=>exact⟨0,0,by omega,rfl,rfl,by show v∉vs.take 0;simp⟩
 case round=>
  obtain⟨k,m,hk,rfl,rfl,hall⟩:=hrel
  by_cases hlt:k<vs.length
  . obtain⟨b,off,rfl,hb1,c0,c1,c2,c3,c4,c5,c6,c7⟩:=hA.row k hlt
    have hb2:b<w.heap.size:=by omega
    have heq:=HE.out k hlt;clear HE hA
    by_cases hv:vs[k]=v
    . have heq':∀X:Ba,_:=fun X=>(heq X).trans (by rw[Lk hv])
      have hz:Hid (kg vs v=k):=QM hlt hv hall.out;clear heq hv;go_wp2;go_quiet (fail);go_wp2;go_ret;exact⟨zk hz.out.symm,by repeat (first | exact HB _ _ | refine zT ?_ _)⟩
    . have heq':∀X:Ba,_:=fun X=>(heq X).trans (by rw[Li hv])
      have hz:Hid (v∉vs.take (k+1)):=Xt hlt hv hall.out;clear heq hv;go_wp2;go_quiet (fail);go_wp2
      go_roundw
      case rel=>exact⟨k+1,_,by omega,by go_num,rfl,hz⟩
      case measure=>simp[intOf];omega
  . have hz:Hid (kg vs v=-1):=idxE_none (by have:=hall.out;rwa[Nz (by omega)] at this)
    go_wp2;go_ret;exact⟨zk hz.out.symm,by repeat (first | exact HB _ _ | refine zT ?_ _)⟩
theorem qs{α:Type}{vs us:List α}{k:Nat}(hk:k<vs.length)(hk':k<us.length)(h:vs[k]≠us[k]):vs≠us:=by
 rintro rfl;exact h rfl
theorem qt{α:Type}{vs us:List α}(hl:vs.length=us.length)(h:vs.take vs.length=us.take vs.length):vs=us:=by
 rw[LG] at h;rw[h,hl,LG]
theorem jO{α:Type}{vs us:List α}{k:Nat}(hk:k<vs.length)(hk':k<us.length)(h:vs.take k=us.take k)(he:vs[k]=us[k]):vs.take (k+1)=us.take (k+1):=by
 rw[Lu hk,Lu hk',h,he]
theorem same_any(n n':Int)(A A':Bb)(cap cap':Nat)(vs us:List Vw)(w:Ba)(B:Nat)(hB:B<=w.heap.size)(hA:VAt w B A vs)(hA':VAt w B A' us)(hl:vs.length<=2199023255552)(hl':us.length<=2199023255552) :
  Calls Tryz.prog 143 #[.agg #[.int .i64 n,.slice A vs.length cap],.agg #[.int .i64 n',.slice A' us.length cap']] w fun e w'=>e=.returned (.bool (decide (n=n'/\vs=us)))/\Below w.heap.size w w':=by
 have HB:=kh w;have HE:Hid (∀k (hk:k<vs.length) (hk':k<us.length) (X:Ba),(binOp .neq 128 (.agg vs[k].cells) (.agg us[k].cells)).run Tryz.prog X=.ok (.bool (decide (vs[k]≠us[k]))) X):=fun k hk hk' X=>Qv vs[k] us[k] X
 unfold Vw.cells at HE
 by_cases hn:n=n'
 . by_cases hll:vs.length=us.length
   . have H:Hid (decide (n=n'/\vs=us)=decide (vs=us)):=by show decide (n=n'/\vs=us)=_;simp[hn]
     have HL:=zH hll;rw[H.out];have hn1:(n != n')=false:=by simp[hn]
     have hl1:((vs.length:Int) != (us.length:Int))=false:=by simp[hll]
     clear hn hll H;go_enter Tryz.func143,Tryz.ntmps143;go_wp2
     go_loopw [5] (fun i wr=>∃k m:Nat,k<=vs.length/\i=.int .i64 k/\wr=((w.alloc (.cells #[.int .i64 n,.slice A vs.length cap] 32)).alloc (.cells #[.int .i64 n',.slice A' us.length cap'] 32)).drewN m/\Hid (vs.take k=us.take k)) (fun i _=>vs.length-(intOf i).toNat)
     case atStart=>exact⟨0,0,by omega,rfl,rfl,by show vs.take 0=us.take 0;simp⟩
     case round=>
      obtain⟨k,m,hk,rfl,rfl,hall⟩:=hrel;have hle:k<=us.length:=by have:=HL.out;omega
      by_cases hlt:k<vs.length
      . have hlt':k<us.length:=by have:=HL.out;omega
        obtain⟨b,off,rfl,hb1,c0,c1,c2,c3,c4,c5,c6,c7⟩:=hA.row k hlt;have hb2:b<w.heap.size:=by omega
        obtain⟨b',off',rfl,hb1',d0,d1,d2,d3,d4,d5,d6,d7⟩:=hA'.row k hlt';have hb2':b'<w.heap.size:=by omega
        have heq:=HE.out k hlt hlt';clear HE hA hA'
        by_cases hv:vs[k]=us[k]
        . have heq':∀X:Ba,_:=fun X=>(heq X).trans (by rw[Li (by simpa using hv)])
          have hz:Hid (vs.take (k+1)=us.take (k+1)):=jO hlt hlt' hall.out hv;clear heq hv;go_wp2;go_quiet (fail);go_wp2
          go_roundw
          case rel=>exact⟨k+1,_,by omega,by go_num,rfl,hz⟩
          case measure=>simp[intOf];omega
        . have heq':∀X:Ba,_:=fun X=>(heq X).trans (by rw[Lk hv])
          have hz:Hid (decide (vs=us)=false):=Li (qs hlt hlt' hv);clear heq hv;go_wp2;go_quiet (fail);go_wp2;go_ret;exact⟨zm hz.out.symm,by repeat (first | exact HB _ _ | refine zT ?_ _)⟩
      . obtain rfl:k=vs.length:=by omega
        have hz:Hid (decide (vs=us)=true):=Lk (qt HL.out hall.out);go_wp2;go_ret;exact⟨zm hz.out.symm,by repeat (first | exact HB _ _ | refine zT ?_ _)⟩
   . have hz:Hid (decide (n=n'/\vs=us)=false):=Li (by rintro⟨_,rfl⟩;exact hll rfl)
     have hn1:(n != n')=false:=by simp[hn]
     have hl1:((vs.length:Int) != (us.length:Int))=true:=by simp;omega
     clear hn hll;go_enter Tryz.func143,Tryz.ntmps143;go_wp2;go_ret;exact⟨zm hz.out.symm,by repeat (first | exact HB _ _ | refine zT ?_ _)⟩
 . have hz:Hid (decide (n=n'/\vs=us)=false):=Li (by rintro⟨h,_⟩;exact hn h)
   have hn1:(n != n')=true:=by simpa using hn
   clear hn;go_enter Tryz.func143,Tryz.ntmps143;go_wp2;go_ret;exact⟨zm hz.out.symm,by repeat (first | exact HB _ _ | refine zT ?_ _)⟩
end
end Go.Proofs.YtohjmddnennajaaGreatDoor
