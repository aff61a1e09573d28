/- ExecutionDetermines: a process has the same view in two executions exactly if it had the same view a round before, and heard the same processes with the same views: the law answers true for every input, and its arguments read behind the call as before. No further condition. -/
import Derived.Test.YtnikmmdadflefaaGreatDoorCards
import Derived.Test.YtnikmmdadflefaaGreatDoorTie
import Derived.Test.YtnikmmdadflefaaGreatDoorBc
import Derived.Test.YtnikmmdadflefaaGreatDoorBh
import Derived.SevenTiedAt

namespace Go.Proofs.YtnikmmdadflefaaGreatDoor
open Go.ChangeShapes Go.WideShapes Go.ChangeAt Go.RowKit
theorem door_met (os : Os) (args : Array Value) : laidMetH Tryz.prog Rows.executionDeterminesRow.laid ((World.doorLaid Tryz.prog 400 os).forCall (fun _ _ => 0) ⟨#[], args, []⟩).memory :=
  laidMetH_of_parts3 (fuel := 8) (laidMet_of_run' 8 (by kernel_rfl) (by kernel_rfl)) (by kernel_rfl) (by kernel_rfl)
set_option maxRecDepth 100000 in
theorem lifted (os : Os) (started : os.Started) (H : Type) (enc : TypeId × Value → H) :
    ReturnsInHanded {} Tryz.checked os 6 .any (fun w args => (Rows.executionDeterminesSpec.pre enc Tryz.prog Tryz.f6 [] false w args ∧ laidMetH Tryz.prog Rows.executionDeterminesRow.laid w) ∧ sizedMet enc Tryz.prog Tryz.f6 (OpenSpec.ofChange Rows.executionDeterminesSpec) false w args)
      (Rows.executionDeterminesSpec.post enc Tryz.prog Tryz.f6 false true false false) := by
  refine law_lifted (C := Tryz.checked) (X := fun w _ => laidMetH Tryz.prog Rows.executionDeterminesRow.laid w) started (fun _ _ _ hh h => h.of_heap hh) lawOwn (by kernel_rfl) Tryz.func6
    (ChangeSpec.witness_shaped (enc := enc) (C := Tryz.checked) (os := os) (X := fun w _ => laidMetH Tryz.prog Rows.executionDeterminesRow.laid w) false (World.doorLaid Tryz.prog 400 os)
      #[.agg #[.int .i64 0, .int .i64 0, .int .i64 0, .slice none 0 0, .int .i64 0, .slice none 0 0, .int .i64 0], .agg #[.int .u8 0, .int .u8 0]] 8 rfl (World.shaped_of_RefB (by kernel_rfl) (by kernel_rfl)) (by kernel_rfl) (by kernel_rfl) (by kernel_rfl) (door_met os _))
    (tb := 4) rfl Tryz.underlying4 lawLaidOut ?_ rfl ?_ ?_
  · intro t ht
    have hm : t ∈ [29, 69] := ht
    simp only [List.mem_cons, List.not_mem_nil, or_false] at hm
    rcases hm with rfl | rfl
    · exact ⟨by kernel_rfl, of_decide_eq_true (by kernel_rfl)⟩
    · exact ⟨by kernel_rfl, of_decide_eq_true (by kernel_rfl)⟩
  · intro ds hd
    match ds, hd with
    | [_, _], _ => rfl
  · intro W base args ds ps hval hA hsz hlt hL
    have hA' : DataW.TrodAll enc Tryz.prog W 0 (fun _ => true) true [29, 69] args.toList ds ps := hA
    obtain ⟨v0, v1, d0, d1, p0, p1, rfl, rfl, rfl, h0, h1⟩ := trodAll_two hA'
    have hsz' : (DataW.weightsEach Tryz.prog [29, 69] [d0, d1]).all (· ≤ reachBytes) = true := hsz
    simp only [DataW.weightsEach, List.all_append, Bool.and_eq_true] at hsz'
    obtain ⟨p, A, kc, SV, ks, rfl, hlp, hCA, hSA⟩ := open_probArg (hval 0 29 v0 rfl rfl) h0 hsz'.1
    obtain ⟨x0, x1, rfl, hx0, hx1⟩ := open_pairArg (hval 1 69 v1 rfl rfl) h1
    exact law_determines p hlp A kc SV ks x0 x1 hx0 hx1 W hCA hSA
theorem said : Rows.ExecutionDeterminesSaid :=
  OpenClaim.holds_of_wide 6 Tryz.f6 rfl rfl rfl rfl rfl rfl rfl ⟨rfl, rfl, rfl, rfl, rfl⟩ rfl rfl rfl rfl rfl (by kernel_rfl) Tryz.func6 (by kernel_rfl)
    (of_decide_eq_true (by kernel_rfl)) (by unfold Func.isWrapper; first | (rw [if_pos (by decide +kernel)]; kernel_rfl) | (rw [if_neg (by decide +kernel)]; exact ⟨rfl, rfl⟩))
    (fun os started H enc _ => lifted os started H enc)
theorem holds : Rows.ExecutionDeterminesCardSaid :=
  Claim7.holds_tied_plain_at .later [] [.data, .data, .data] true Rows.executionDeterminesCard.stood.harness false
    said (fun _ h => by cases h) (by kernel_rfl) (fun _ h => by cases h) executionDetermines_row_tie rfl ⟨rfl, rfl⟩ (by kernel_rfl) rfl
    (fun f fn hf hfn => by
      obtain rfl : f = 6 := Option.some.inj ((show Tryz.prog.funcNamed Rows.executionDeterminesRow.func = some 6 by kernel_rfl).symm.trans hf) |>.symm
      obtain rfl : fn = Tryz.f6 := (Option.some.inj (Tryz.func6.symm.trans hfn)).symm
      exact ⟨by kernel_rfl, fun j t ht => by
        rw [Tryz.params6] at ht
        have hm : t ∈ [29, 69] := by simpa using Array.mem_of_getElem? ht
        have hall : ([29, 69].all fun u => !Tryz.prog.wantsStandIn u) = true := by kernel_rfl
        exact (show Tryz.prog.wantsStandIn t = false by simpa using List.all_eq_true.1 hall t hm)⟩)
    (by kernel_rfl)
#print axioms holds
end Go.Proofs.YtnikmmdadflefaaGreatDoor
