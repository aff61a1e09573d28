/- ExecutionLooks: Find, Obliged, Having, Relevant and Continuing return the results or errors of the reference for all systems and places: the law answers true for every input, and its arguments read behind the call as before. No further condition. -/
import Derived.Test.YtnikmmdadflefaaGreatDoorCards
import Derived.Test.YtnikmmdadflefaaGreatDoorTie
import Derived.Test.YtnikmmdadflefaaGreatDoorBc
import Derived.Test.YtnikmmdadflefaaGreatDoorBi
import Derived.SevenTiedAt

namespace Go.Proofs.YtnikmmdadflefaaGreatDoor
open Go.ChangeShapes Go.WideShapes Go.ChangeAt Go.RowKit
theorem door_met (os : Os) (args : Array Value) : laidMetH Tryz.prog Rows.executionLooksRow.laid ((World.doorLaid Tryz.prog 400 os).forCall (fun _ _ => 0) ⟨#[], args, []⟩).memory :=
  laidMetH_of_parts3 (fuel := 8) (laidMet_of_run' 8 (by kernel_rfl) (by kernel_rfl)) (by kernel_rfl) (by kernel_rfl)
set_option maxRecDepth 100000 in
theorem lifted (os : Os) (started : os.Started) (H : Type) (enc : TypeId × Value → H) :
    ReturnsInHanded {} Tryz.checked os 7 .any (fun w args => (Rows.executionLooksSpec.pre enc Tryz.prog Tryz.f7 [] false w args ∧ laidMetH Tryz.prog Rows.executionLooksRow.laid w) ∧ sizedMet enc Tryz.prog Tryz.f7 (OpenSpec.ofChange Rows.executionLooksSpec) false w args)
      (Rows.executionLooksSpec.post enc Tryz.prog Tryz.f7 false true false false) := by
  refine law_lifted (C := Tryz.checked) (X := fun w _ => laidMetH Tryz.prog Rows.executionLooksRow.laid w) started (fun _ _ _ hh h => h.of_heap hh) lawOwn (by kernel_rfl) Tryz.func7
    (ChangeSpec.witness_shaped (enc := enc) (C := Tryz.checked) (os := os) (X := fun w _ => laidMetH Tryz.prog Rows.executionLooksRow.laid w) false (World.doorLaid Tryz.prog 400 os)
      #[.agg #[.int .i64 0, .int .i64 0, .int .i64 0, .slice none 0 0, .int .i64 0, .slice none 0 0, .int .i64 0, .int .i64 0, .slice none 0 0, .slice none 0 0], .agg #[.int .i64 0, .int .i64 0, .int .i64 0, .slice none 0 0]] 8 rfl (World.shaped_of_RefB (by kernel_rfl) (by kernel_rfl)) (by kernel_rfl) (by kernel_rfl) (by kernel_rfl) (door_met os _))
    (tb := 4) rfl Tryz.underlying4 lawLaidOut ?_ rfl ?_ ?_
  · intro t ht
    have hm : t ∈ [36, 78] := ht
    simp only [List.mem_cons, List.not_mem_nil, or_false] at hm
    rcases hm with rfl | rfl
    · exact ⟨by kernel_rfl, of_decide_eq_true (by kernel_rfl)⟩
    · exact ⟨by kernel_rfl, of_decide_eq_true (by kernel_rfl)⟩
  · intro ds hd
    match ds, hd with
    | [_, _], _ => rfl
  · intro W base args ds ps hval hA hsz hlt hL
    have hA' : DataW.TrodAll enc Tryz.prog W 0 (fun _ => true) true [36, 78] args.toList ds ps := hA
    obtain ⟨v0, v1, d0, d1, p0, p1, rfl, rfl, rfl, h0, h1⟩ := trodAll_two hA'
    have hsz' : (DataW.weightsEach Tryz.prog [36, 78] [d0, d1]).all (· ≤ reachBytes) = true := hsz
    simp only [DataW.weightsEach, List.all_append, Bool.and_eq_true] at hsz'
    obtain ⟨s, A, kc, SV, ks, AV, kv, AX, kx, rfl, hls, hv1, hv2, hSY⟩ := open_sysArg (hval 0 36 v0 rfl rfl) h0 hsz'.1
    obtain ⟨i1, i2, i3, ww, AW, kw, rfl, hwl, hWW⟩ := open_placeArg (hval 1 78 v1 rfl rfl) h1 hsz'.2.1
    exact law_looks s hls A SV AV AX kc ks kv kx hv1 hv2 i1 i2 i3 ww hwl AW kw W hSY hWW
theorem said : Rows.ExecutionLooksSaid :=
  OpenClaim.holds_of_wide 7 Tryz.f7 rfl rfl rfl rfl rfl rfl rfl ⟨rfl, rfl, rfl, rfl, rfl⟩ rfl rfl rfl rfl rfl (by kernel_rfl) Tryz.func7 (by kernel_rfl)
    (of_decide_eq_true (by kernel_rfl)) (by unfold Func.isWrapper; first | (rw [if_pos (by decide +kernel)]; kernel_rfl) | (rw [if_neg (by decide +kernel)]; exact ⟨rfl, rfl⟩))
    (fun os started H enc _ => lifted os started H enc)
theorem holds : Rows.ExecutionLooksCardSaid :=
  Claim7.holds_tied_plain_at .later [] [.data, .data, .data] true Rows.executionLooksCard.stood.harness false
    said (fun _ h => by cases h) (by kernel_rfl) (fun _ h => by cases h) executionLooks_row_tie rfl ⟨rfl, rfl⟩ (by kernel_rfl) rfl
    (fun f fn hf hfn => by
      obtain rfl : f = 7 := Option.some.inj ((show Tryz.prog.funcNamed Rows.executionLooksRow.func = some 7 by kernel_rfl).symm.trans hf) |>.symm
      obtain rfl : fn = Tryz.f7 := (Option.some.inj (Tryz.func7.symm.trans hfn)).symm
      exact ⟨by kernel_rfl, fun j t ht => by
        rw [Tryz.params7] at ht
        have hm : t ∈ [36, 78] := by simpa using Array.mem_of_getElem? ht
        have hall : ([36, 78].all fun u => !Tryz.prog.wantsStandIn u) = true := by kernel_rfl
        exact (show Tryz.prog.wantsStandIn t = false by simpa using List.all_eq_true.1 hall t hm)⟩)
    (by kernel_rfl)
#print axioms holds
end Go.Proofs.YtnikmmdadflefaaGreatDoor
