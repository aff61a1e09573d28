/- ExecutionShortens: the executions with one round less are the beginnings of the executions, with views of the same texts: the law answers true for every input, and its arguments read behind the call as before. No further condition. -/
import Derived.Test.YtkledihebeidlaaGreatDoorCards
import Derived.Test.YtkledihebeidlaaGreatDoorTie
import Derived.Test.YtkledihebeidlaaGreatDoorWh
import Derived.SevenTiedAt
open Go.Proofs.Tryz
open Go.Value renaming int->O,slice->I,agg->Aj
open Go.IntKind renaming i64->U
open Option renaming none->Z,some->J
open Go.Proofs.Tryz renaming prog->An
open Go renaming Value->Au
open Bool renaming true->Av,false->Ax
namespace Go.Proofs.YtkledihebeidlaaGreatDoor
set_option maxRecDepth 100000
open Go.ChangeShapes Go.WideShapes Go.ChangeAt Go.RowKit
theorem door_met(os:Os)(args:Array Au):laidMetH An Rows.executionShortensRow.laid ((World.doorLaid An 400 os).forCall (fun _ _=>0) ⟨#[],args,[]⟩).memory:=
  laidMetH_of_parts3 (fuel:=8) (laidMet_of_run' 8 (by kernel_rfl) (by kernel_rfl)) (by kernel_rfl) (by kernel_rfl)
theorem lifted(os : Os)(dk : os.Started)(H : Type)(enc : TypeId × Au → H) :
    ReturnsInHanded {} Tryz.checked os 4 .any (fun w args=>(Rows.executionShortensSpec.pre enc An Tryz.f4 [] Ax w args/\laidMetH An Rows.executionShortensRow.laid w)/\sizedMet enc An Tryz.f4 (OpenSpec.ofChange Rows.executionShortensSpec) Ax w args)
      (Rows.executionShortensSpec.post enc An Tryz.f4 Ax Av Ax Ax):=by
  refine XU (C:=Tryz.checked) (X:=fun w _=>laidMetH An Rows.executionShortensRow.laid w) dk (fun _ _ _ hh h=>h.of_heap hh) lawOwn (by kernel_rfl) func4
    (ChangeSpec.witness_shaped (enc:=enc) (C:=Tryz.checked) (os:=os) (X:=fun w _=>laidMetH An Rows.executionShortensRow.laid w) Ax (World.doorLaid An 400 os)
      #[Aj #[O U 0,O U 0,O U 0,I Z 0 0,O U 0,I Z 0 0,O U 0]] 8 rfl (World.shaped_of_RefB (by kernel_rfl) (by kernel_rfl)) (by kernel_rfl) (by kernel_rfl) (by kernel_rfl) (door_met os _))
    (tb:=4) rfl underlying4 XZ ?_ rfl ?_ ?_
  . intro t ht
    have hm:t∈[29]:=ht;simp only[List.mem_cons,List.not_mem_nil,or_false] at hm;subst hm;exact⟨by kernel_rfl,LK (by kernel_rfl)⟩
  . intro ds hd
    match ds,hd with
    | [_],_=>rfl
  intro W aa args ds ps Hh hA bn ac hL;have ld:DataW.TrodAll enc An W 0 (fun _=>Av) Av [29] args.toList ds ps:=hA;obtain⟨v0,d0,rfl,rfl,h0⟩:=trodAll_one ld;have oO:(DataW.weightsEach An [29] [d0]).all (·<=reachBytes)=Av:=bn;simp only[DataW.weightsEach,List.all_append,Bool.and_eq_true] at oO;obtain⟨p,A,kc,SV,ks,rfl,Fu,WG,FS⟩:=ZJ (Hh 0 29 v0 rfl rfl) h0 oO.1;exact ZQ p Fu A kc SV ks W WG FS
theorem said:Rows.ExecutionShortensSaid:=
  OpenClaim.holds_of_wide 4 Tryz.f4 rfl rfl rfl rfl rfl rfl rfl ⟨rfl,rfl,rfl,rfl,rfl⟩ rfl rfl rfl rfl rfl (by kernel_rfl) func4 (by kernel_rfl)
    (LK (by kernel_rfl)) (by unfold Func.isWrapper;first | (rw[Ln (by decide +kernel)];kernel_rfl) | (rw[Lj (by decide +kernel)];exact⟨rfl,rfl⟩))
    (fun os dk H enc _=>lifted os dk H enc)
theorem holds:Rows.ExecutionShortensCardSaid:=
  Claim7.holds_tied_plain_at .later [] [.data,.data,.data] Av Rows.executionShortensCard.stood.harness Ax
    said (fun _ h=>by cases h) (by kernel_rfl) (fun _ h=>by cases h) executionShortens_row_tie rfl ⟨rfl,rfl⟩ (by kernel_rfl) rfl
    (fun f fn hf IP=>by
      obtain rfl:f=4:=N6 ((show An.funcNamed Rows.executionShortensRow.func=J 4 by kernel_rfl).symm.trans hf) |>.symm;obtain rfl:fn=Tryz.f4:=(N6 (func4.symm.trans IP)).symm
      exact⟨by kernel_rfl,fun j t ht=>by
        rw[Tryz.params4] at ht;have hm:t∈[29]:=by simpa using Array.mem_of_getElem? ht
        have aj:([29].all fun u=>!Tryz.prog.wantsStandIn u)=Av:=by kernel_rfl
        exact(show An.wantsStandIn t=Ax by simpa using LH.1 aj t hm)⟩)
    (by kernel_rfl)
#print axioms holds
end Go.Proofs.YtkledihebeidlaaGreatDoor
