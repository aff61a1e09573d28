/- ExecutionContinues: each relevant view occurs in an execution in which its process is obliged, and continues exactly one view of each number of rounds: the law answers true for every input, and its arguments read behind the call as before. No further condition. -/
import Derived.Test.YtnikmmdadflefaaGreatDoorCards
import Derived.Test.YtnikmmdadflefaaGreatDoorTie
import Derived.Test.YtnikmmdadflefaaGreatDoorBc
import Derived.Test.YtnikmmdadflefaaGreatDoorBj
import Derived.SevenTiedAt

namespace Go.Proofs.YtnikmmdadflefaaGreatDoor
open Go.ChangeShapes Go.WideShapes Go.ChangeAt Go.RowKit
theorem door_met (os : Os) (args : Array Value) : laidMetH Tryz.prog Rows.executionContinuesRow.laid ((World.doorLaid Tryz.prog 400 os).forCall (fun _ _ => 0) ⟨#[], args, []⟩).memory :=
  laidMetH_of_parts3 (fuel := 8) (laidMet_of_run' 8 (by kernel_rfl) (by kernel_rfl)) (by kernel_rfl) (by kernel_rfl)
set_option maxRecDepth 100000 in
theorem lifted (os : Os) (started : os.Started) (H : Type) (enc : TypeId × Value → H) :
    ReturnsInHanded {} Tryz.checked os 8 .any (fun w args => (Rows.executionContinuesSpec.pre enc Tryz.prog Tryz.f8 [] false w args ∧ laidMetH Tryz.prog Rows.executionContinuesRow.laid w) ∧ sizedMet enc Tryz.prog Tryz.f8 (OpenSpec.ofChange Rows.executionContinuesSpec) false w args)
      (Rows.executionContinuesSpec.post enc Tryz.prog Tryz.f8 false true false false) := by
  refine law_lifted (C := Tryz.checked) (X := fun w _ => laidMetH Tryz.prog Rows.executionContinuesRow.laid w) started (fun _ _ _ hh h => h.of_heap hh) lawOwn (by kernel_rfl) Tryz.func8
    (ChangeSpec.witness_shaped (enc := enc) (C := Tryz.checked) (os := os) (X := fun w _ => laidMetH Tryz.prog Rows.executionContinuesRow.laid w) false (World.doorLaid Tryz.prog 400 os)
      #[.agg #[.int .i64 0, .int .i64 0, .int .i64 0, .slice none 0 0, .int .i64 0, .slice none 0 0, .int .i64 0]] 8 rfl (World.shaped_of_RefB (by kernel_rfl) (by kernel_rfl)) (by kernel_rfl) (by kernel_rfl) (by kernel_rfl) (door_met os _))
    (tb := 4) rfl Tryz.underlying4 lawLaidOut ?_ rfl ?_ ?_
  · intro t ht
    have hm : t ∈ [29] := ht
    simp only [List.mem_cons, List.not_mem_nil, or_false] at hm
    subst hm
    exact ⟨by kernel_rfl, of_decide_eq_true (by kernel_rfl)⟩
  · intro ds hd
    match ds, hd with
    | [_], _ => rfl
  · intro W base args ds ps hval hA hsz hlt hL
    have hA' : DataW.TrodAll enc Tryz.prog W 0 (fun _ => true) true [29] args.toList ds ps := hA
    obtain ⟨v0, d0, rfl, rfl, h0⟩ := trodAll_one hA'
    have hsz' : (DataW.weightsEach Tryz.prog [29] [d0]).all (· ≤ reachBytes) = true := hsz
    simp only [DataW.weightsEach, List.all_append, Bool.and_eq_true] at hsz'
    obtain ⟨p, A, kc, SV, ks, rfl, hlp, hCA, hSA⟩ := open_probArg (hval 0 29 v0 rfl rfl) h0 hsz'.1
    exact law_continues p hlp A kc SV ks W hCA hSA
theorem said : Rows.ExecutionContinuesSaid :=
  OpenClaim.holds_of_wide 8 Tryz.f8 rfl rfl rfl rfl rfl rfl rfl ⟨rfl, rfl, rfl, rfl, rfl⟩ rfl rfl rfl rfl rfl (by kernel_rfl) Tryz.func8 (by kernel_rfl)
    (of_decide_eq_true (by kernel_rfl)) (by unfold Func.isWrapper; first | (rw [if_pos (by decide +kernel)]; kernel_rfl) | (rw [if_neg (by decide +kernel)]; exact ⟨rfl, rfl⟩))
    (fun os started H enc _ => lifted os started H enc)
theorem holds : Rows.ExecutionContinuesCardSaid :=
  Claim7.holds_tied_plain_at .later [] [.data, .data, .data] true Rows.executionContinuesCard.stood.harness false
    said (fun _ h => by cases h) (by kernel_rfl) (fun _ h => by cases h) executionContinues_row_tie rfl ⟨rfl, rfl⟩ (by kernel_rfl) rfl
    (fun f fn hf hfn => by
      obtain rfl : f = 8 := Option.some.inj ((show Tryz.prog.funcNamed Rows.executionContinuesRow.func = some 8 by kernel_rfl).symm.trans hf) |>.symm
      obtain rfl : fn = Tryz.f8 := (Option.some.inj (Tryz.func8.symm.trans hfn)).symm
      exact ⟨by kernel_rfl, fun j t ht => by
        rw [Tryz.params8] at ht
        have hm : t ∈ [29] := by simpa using Array.mem_of_getElem? ht
        have hall : ([29].all fun u => !Tryz.prog.wantsStandIn u) = true := by kernel_rfl
        exact (show Tryz.prog.wantsStandIn t = false by simpa using List.all_eq_true.1 hall t hm)⟩)
    (by kernel_rfl)
#print axioms holds
end Go.Proofs.YtnikmmdadflefaaGreatDoor
