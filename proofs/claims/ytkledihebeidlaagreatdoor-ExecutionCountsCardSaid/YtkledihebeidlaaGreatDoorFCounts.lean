/- ExecutionCounts: there are as many executions as cases times words, all of them different, each with a permitted word: the law answers true for every input, and its arguments read behind the call as before. No further condition. -/
import Derived.Test.YtkledihebeidlaaGreatDoorCards
import Derived.Test.YtkledihebeidlaaGreatDoorTie
import Derived.Test.YtkledihebeidlaaGreatDoorVg
import Derived.SevenTiedAt
open Go.Proofs.Tryz
open Go.Value renaming int->O,slice->I,agg->Aj
open Go.IntKind renaming i64->U
open Option renaming none->Z,some->J
open Go.Proofs.Tryz renaming prog->An
open Go renaming Value->Au
open Bool renaming true->Av,false->Ax
namespace Go.Proofs.YtkledihebeidlaaGreatDoor
set_option maxRecDepth 100000
open Go.ChangeShapes Go.WideShapes Go.ChangeAt Go.RowKit
theorem door_met(os:Os)(args:Array Au):laidMetH An Rows.executionCountsRow.laid ((World.doorLaid An 400 os).forCall (fun _ _=>0) ⟨#[],args,[]⟩).memory:=
  laidMetH_of_parts3 (fuel:=8) (laidMet_of_run' 8 (by kernel_rfl) (by kernel_rfl)) (by kernel_rfl) (by kernel_rfl)
theorem lifted(os : Os)(dg : os.Started)(H : Type)(enc : TypeId × Au → H) :
    ReturnsInHanded {} Tryz.checked os 5 .any (fun w args=>(Rows.executionCountsSpec.pre enc An Tryz.f5 [] Ax w args/\laidMetH An Rows.executionCountsRow.laid w)/\sizedMet enc An Tryz.f5 (OpenSpec.ofChange Rows.executionCountsSpec) Ax w args)
      (Rows.executionCountsSpec.post enc An Tryz.f5 Ax Av Ax Ax):=by
  refine Xt (C:=Tryz.checked) (X:=fun w _=>laidMetH An Rows.executionCountsRow.laid w) dg (fun _ _ _ hh h=>h.of_heap hh) lawOwn (by kernel_rfl) func5
    (ChangeSpec.witness_shaped (enc:=enc) (C:=Tryz.checked) (os:=os) (X:=fun w _=>laidMetH An Rows.executionCountsRow.laid w) Ax (World.doorLaid An 400 os)
      #[Aj #[O U 0,O U 0,O U 0,I Z 0 0,O U 0,I Z 0 0,O U 0]] 8 rfl (World.shaped_of_RefB (by kernel_rfl) (by kernel_rfl)) (by kernel_rfl) (by kernel_rfl) (by kernel_rfl) (door_met os _))
    (tb:=4) rfl underlying4 Xv ?_ rfl ?_ ?_
  . intro t ht
    have hm:t∈[29]:=ht;simp only[List.mem_cons,List.not_mem_nil,or_false] at hm;subst hm;exact⟨by kernel_rfl,LI (by kernel_rfl)⟩
  . intro ds hd
    match ds,hd with
    | [_],_=>rfl
  intro W aa args ds ps FO hA aZ ac hL;have iH:DataW.TrodAll enc An W 0 (fun _=>Av) Av [29] args.toList ds ps:=hA;obtain⟨v0,d0,rfl,rfl,h0⟩:=trodAll_one iH;have oz:(DataW.weightsEach An [29] [d0]).all (·<=reachBytes)=Av:=aZ;simp only[DataW.weightsEach,List.all_append,Bool.and_eq_true] at oz;obtain⟨p,A,kc,SV,ks,rfl,Ep,UR,EO⟩:=Zu (FO 0 29 v0 rfl rfl) h0 oz.1;exact Xu p Ep A kc SV ks W UR EO
theorem said:Rows.ExecutionCountsSaid:=
  OpenClaim.holds_of_wide 5 Tryz.f5 rfl rfl rfl rfl rfl rfl rfl ⟨rfl,rfl,rfl,rfl,rfl⟩ rfl rfl rfl rfl rfl (by kernel_rfl) func5 (by kernel_rfl)
    (LI (by kernel_rfl)) (by unfold Func.isWrapper;first | (rw[Ln (by decide +kernel)];kernel_rfl) | (rw[Lj (by decide +kernel)];exact⟨rfl,rfl⟩))
    (fun os dg H enc _=>lifted os dg H enc)
theorem holds:Rows.ExecutionCountsCardSaid:=
  Claim7.holds_tied_plain_at .later [] [.data,.data,.data] Av Rows.executionCountsCard.stood.harness Ax
    said (fun _ h=>by cases h) (by kernel_rfl) (fun _ h=>by cases h) executionCounts_row_tie rfl ⟨rfl,rfl⟩ (by kernel_rfl) rfl
    (fun f fn hf GH=>by
      obtain rfl:f=5:=NG ((show An.funcNamed Rows.executionCountsRow.func=J 5 by kernel_rfl).symm.trans hf) |>.symm;obtain rfl:fn=Tryz.f5:=(NG (func5.symm.trans GH)).symm
      exact⟨by kernel_rfl,fun j t ht=>by
        rw[Tryz.params5] at ht;have hm:t∈[29]:=by simpa using Array.mem_of_getElem? ht
        have aj:([29].all fun u=>!Tryz.prog.wantsStandIn u)=Av:=by kernel_rfl
        exact(show An.wantsStandIn t=Ax by simpa using LK.1 aj t hm)⟩)
    (by kernel_rfl)
#print axioms holds
end Go.Proofs.YtkledihebeidlaaGreatDoor
