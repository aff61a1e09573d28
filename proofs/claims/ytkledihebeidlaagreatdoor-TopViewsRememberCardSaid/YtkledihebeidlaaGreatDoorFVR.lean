/- TopViewsRemember: if a process has the same view in two executions, then all processes that it has heard of had the same views in both, at the times of which it has heard, and it has heard of the same ones, and the earlier views are parts of the later one: the law answers true for every input, and its arguments read behind the call as before. No further condition. -/
import Derived.Test.YtkledihebeidlaaGreatDoorCards
import Derived.Test.YtkledihebeidlaaGreatDoorTie
import Derived.Test.YtkledihebeidlaaGreatDoorXg
import Derived.SevenTiedAt
open Go.Proofs.Tryz
open Go.Value renaming int->O,slice->I,agg->Ai
open Go.IntKind renaming i64->U
open Option renaming none->Z,some->J
open Go.Proofs.Tryz renaming prog->Al
open Go renaming Value->Aq
open Bool renaming true->Ar,false->As
namespace Go.Proofs.YtkledihebeidlaaGreatDoor
set_option maxRecDepth 100000
open Go.ChangeShapes Go.WideShapes Go.ChangeAt Go.RowKit
theorem door_met(os:Os)(args:Array Aq):laidMetH Al Rows.topViewsRememberRow.laid ((World.doorLaid Al 400 os).forCall (fun _ _=>0) ⟨#[],args,[]⟩).memory:=
  laidMetH_of_parts3 (fuel:=8) (laidMet_of_run' 8 (by kernel_rfl) (by kernel_rfl)) (by kernel_rfl) (by kernel_rfl)
theorem lifted(os : Os)(cQ : os.Started)(H : Type)(enc : TypeId × Aq → H) :
    ReturnsInHanded {} Tryz.checked os 3 .any (fun w args=>(Rows.topViewsRememberSpec.pre enc Al Tryz.f3 [] As w args/\laidMetH Al Rows.topViewsRememberRow.laid w)/\sizedMet enc Al Tryz.f3 (OpenSpec.ofChange Rows.topViewsRememberSpec) As w args)
      (Rows.topViewsRememberSpec.post enc Al Tryz.f3 As Ar As As):=by
  refine X8 (C:=Tryz.checked) (X:=fun w _=>laidMetH Al Rows.topViewsRememberRow.laid w) cQ (fun _ _ _ hh h=>h.of_heap hh) lawOwn (by kernel_rfl) func3
    (ChangeSpec.witness_shaped (enc:=enc) (C:=Tryz.checked) (os:=os) (X:=fun w _=>laidMetH Al Rows.topViewsRememberRow.laid w) As (World.doorLaid Al 400 os)
      #[Ai #[O U 0,O U 0,O U 0,I Z 0 0,O U 0,I Z 0 0,O U 0],.int .u8 0,.int .u8 0] 8 rfl (World.shaped_of_RefB (by kernel_rfl) (by kernel_rfl)) (by kernel_rfl) (by kernel_rfl) (by kernel_rfl) (door_met os _))
    (tb:=4) rfl underlying4 X9 ?_ rfl ?_ ?_
  . intro t ht
    have hm:t∈[29,5,5]:=ht;simp only[List.mem_cons,List.not_mem_nil,or_false] at hm;rcases hm with rfl | rfl | rfl
    . exact⟨by kernel_rfl,LA (by kernel_rfl)⟩
    . exact⟨by kernel_rfl,LA (by kernel_rfl)⟩
    exact⟨by kernel_rfl,LA (by kernel_rfl)⟩
  . intro ds hd
    match ds,hd with
    | [_,_,_],_=>rfl
  intro W base args ds ps eP hA bk aa hL;have GI:DataW.TrodAll enc Al W 0 (fun _=>Ar) Ar [29,5,5] args.toList ds ps:=hA;obtain⟨v0,v1,v2,d0,d1,d2,p0,p1,p2,rfl,rfl,rfl,h0,h1,h2⟩:=trodAll_three GI;have nS:(DataW.weightsEach Al [29,5,5] [d0,d1,d2]).all (·<=reachBytes)=Ar:=bk;simp only[DataW.weightsEach,List.all_append,Bool.and_eq_true] at nS;obtain⟨p,A,kc,SV,ks,rfl,S5,Ef,so⟩:=ZF (eP 0 29 v0 rfl rfl) h0 nS.1;obtain⟨i1,rfl,_,_,Sm⟩:=open_int RO (eP 1 5 v1 rfl rfl) h1;obtain⟨n1,rfl,dT⟩:=QY (by decide) Sm;obtain⟨i2,rfl,_,_,Sl⟩:=open_int RO (eP 2 5 v2 rfl rfl) h2;obtain⟨n2,rfl,ol⟩:=QY (by decide) Sl;exact ZM p S5 A kc SV ks n1 n2 (u8_lt dT) (u8_lt ol) W Ef so (Z7 hL) (Zv (Z7 hL))
theorem said:Rows.TopViewsRememberSaid:=
  OpenClaim.holds_of_wide 3 Tryz.f3 rfl rfl rfl rfl rfl rfl rfl ⟨rfl,rfl,rfl,rfl,rfl⟩ rfl rfl rfl rfl rfl (by kernel_rfl) func3 (by kernel_rfl)
    (LA (by kernel_rfl)) (by unfold Func.isWrapper;first | (rw[Lm (by decide +kernel)];kernel_rfl) | (rw[Lk (by decide +kernel)];exact⟨rfl,rfl⟩))
    (fun os cQ H enc _=>lifted os cQ H enc)
theorem holds:Rows.TopViewsRememberCardSaid:=
  Claim7.holds_tied_plain_at .later [] [.data,.data] Ar Rows.topViewsRememberCard.stood.harness As
    said (fun _ h=>by cases h) (by kernel_rfl) (fun _ h=>by cases h) topViewsRemember_row_tie rfl ⟨rfl,rfl⟩ (by kernel_rfl) rfl
    (fun f fn hf mw=>by
      obtain rfl:f=3:=NA ((show Al.funcNamed Rows.topViewsRememberRow.func=J 3 by kernel_rfl).symm.trans hf) |>.symm;obtain rfl:fn=Tryz.f3:=(NA (func3.symm.trans mw)).symm
      exact⟨by kernel_rfl,fun j t ht=>by
        rw[Tryz.params3] at ht;have hm:t∈[29,5,5]:=by simpa using Array.mem_of_getElem? ht
        have ai:([29,5,5].all fun u=>!Tryz.prog.wantsStandIn u)=Ar:=by kernel_rfl
        exact(show Al.wantsStandIn t=As by simpa using Lz.1 ai t hm)⟩)
    (by kernel_rfl)
#print axioms holds
end Go.Proofs.YtkledihebeidlaaGreatDoor
