/- CommonKnows: for a group with processes, a set is common knowledge by its definition with fixed points exactly where the component holds it; the levels are the radius less 1, or the number of all points: the law answers true for every input, and its arguments read behind the call as before. No further condition. -/
import Derived.Test.YtdkmpccfnnpnbaaGreatRows
import Derived.Test.YtdkmpccfnnpnbaaGreatKe
import Derived.Test.YtdkmpccfnnpnbaaGreatKh

namespace Go.Proofs.YtdkmpccfnnpnbaaGreat
open Go.ChangeShapes Go.WideShapes Go.ChangeAt Go.RowKit
set_option maxRecDepth 100000 in
theorem lifted (os : Os) (started : os.Started) (H : Type) (enc : TypeId × Value → H) :
    ReturnsInHanded {} Tryz.checked os 16 .any (fun w args => Rows.commonKnowsSpec.pre enc Tryz.prog Tryz.f16 [] false w args ∧ sizedMet enc Tryz.prog Tryz.f16 (OpenSpec.ofChange Rows.commonKnowsSpec) false w args)
      (Rows.commonKnowsSpec.post enc Tryz.prog Tryz.f16 false true false false) := by
  suffices h : ReturnsInHanded {} Tryz.checked os 16 .any (fun w args => (Rows.commonKnowsSpec.pre enc Tryz.prog Tryz.f16 [] false w args ∧ True) ∧ sizedMet enc Tryz.prog Tryz.f16 (OpenSpec.ofChange Rows.commonKnowsSpec) false w args)
      (Rows.commonKnowsSpec.post enc Tryz.prog Tryz.f16 false true false false) by simpa only [and_true] using h
  refine QF (C := Tryz.checked) (X := fun _ _ => True) started (fun _ _ _ _ h => h) lawOwn (by kernel_rfl) Tryz.func16
    (ChangeSpec.witness_shaped (enc := enc) (C := Tryz.checked) (os := os) (X := fun _ _ => True) false (World.doorLaid Tryz.prog 400 os)
      #[.agg #[.int .i64 0, .int .i64 0, .int .i64 0, .slice none 0 0, .int .i64 0, .slice none 0 0, .int .i64 0], .agg #[.int .u8 0, .slice none 0 0, .int .u16 0]] 8 rfl (World.shaped_of_RefB (by kernel_rfl) (by kernel_rfl)) (by kernel_rfl) (by kernel_rfl) (by kernel_rfl) trivial)
    (tb := 4) rfl Tryz.underlying4 QH ?_ rfl ?_ ?_
  · intro t ht
    have hm : t ∈ [29, 71] := ht
    simp only [List.mem_cons, List.not_mem_nil, or_false] at hm
    rcases hm with rfl | rfl
    · exact ⟨by kernel_rfl, of_decide_eq_true (by kernel_rfl)⟩
    · exact ⟨by kernel_rfl, of_decide_eq_true (by kernel_rfl)⟩
  · intro ds hd
    match ds, hd with
    | [_, _], _ => rfl
  · intro W base args ds ps hval hA hsz hlt hL
    have hA' : DataW.TrodAll enc Tryz.prog W 0 (fun _ => true) true [29, 71] args.toList ds ps := hA
    obtain ⟨v0, v1, d0, d1, p0, p1, rfl, rfl, rfl, h0, h1⟩ := trodAll_two hA'
    have hsz' : (DataW.weightsEach Tryz.prog [29, 71] [d0, d1]).all (· ≤ reachBytes) = true := hsz
    simp only [DataW.weightsEach, List.all_append, Bool.and_eq_true] at hsz'
    obtain ⟨p, A, kc, SV, ks, rfl, hlp, hCA, hSA⟩ := Yh (hval 0 29 v0 rfl rfl) h0 hsz'.1
    obtain ⟨c, cq, AB, bs, kb, rfl, hc, hcq, hBA⟩ := gz (hval 1 71 v1 rfl rfl) h1 hsz'.2.1
    exact QG p hlp A kc SV ks c hc cq hcq bs AB kb W hCA hSA hBA
theorem closed0 : (Rows.commonKnowsRow.wf (OpenSpec.ofChange Rows.commonKnowsSpec)) = true := by kernel_rfl
theorem closed1 : (laidOutB Tryz.pinned.checked.prog) = true := by kernel_rfl
theorem closed2 : (mapsRowed Tryz.pinned.checked.prog) = true := by kernel_rfl
theorem closed3 : (Tryz.f16.params.all (Tryz.pinned.checked.prog.readableRec ·)) = true := by kernel_rfl
theorem closed4 : (namedTie Tryz.pinned.checked.prog Rows.commonKnowsRow.named Rows.commonKnowsSpec.vars) = true := by kernel_rfl
theorem closed5 : ((Rows.commonKnowsRow.stops == [])) = true := by kernel_rfl
theorem closed6 : ((Tryz.pinned.checked.prog.stops == [])) = true := by kernel_rfl
theorem closed7 : ((Rows.commonKnowsRow.knobs == [])) = true := by kernel_rfl
theorem closed8 : ((Tryz.pinned.checked.prog.stopKnobs == [])) = true := by kernel_rfl
theorem closed9 : ((Rows.commonKnowsRow.inPlace == Tryz.pinned.checked.prog.inPlace 16)) = true := by kernel_rfl
theorem closed10 : ((Rows.commonKnowsRow.unfollowed == Tryz.pinned.checked.prog.unfollowed 16)) = true := by kernel_rfl
theorem closed11 : ((Rows.commonKnowsRow.recurses == Tryz.pinned.checked.prog.recurses 16)) = true := by kernel_rfl
theorem closed12 : ((Rows.commonKnowsRow.named == Tryz.pinned.checked.prog.varsNamed 16)) = true := by kernel_rfl
theorem closed13 : ((Rows.commonKnowsRow.maps == (Tryz.f16.params.toList ++ Rows.commonKnowsSpec.plain.varTypes Tryz.pinned.checked.prog).any (Tryz.pinned.checked.prog.mapsRec ·))) = true := by kernel_rfl
theorem closed14 : ((Rows.commonKnowsRow.ifaces == (Tryz.f16.params.toList ++ Rows.commonKnowsSpec.plain.varTypes Tryz.pinned.checked.prog).any (Tryz.pinned.checked.prog.ifacesRec ·))) = true := by kernel_rfl
theorem closed15 : ((Rows.commonKnowsRow.mapsOut == Tryz.pinned.checked.prog.mapsAmong Tryz.f16.resultTypes.toList)) = true := by kernel_rfl
theorem closed16 : ((Rows.commonKnowsRow.loops == (Tryz.f16.params.toList ++ Rows.commonKnowsSpec.plain.varTypes Tryz.pinned.checked.prog).any (Tryz.pinned.checked.prog.loopsFrom ·))) = true := by kernel_rfl
theorem closed17 : ((Rows.commonKnowsRow.wideKeys == (Tryz.f16.params.toList ++ Rows.commonKnowsSpec.plain.varTypes Tryz.pinned.checked.prog ++ Tryz.f16.resultTypes.toList).any (Tryz.pinned.checked.prog.wideKeysFrom ·))) = true := by kernel_rfl
theorem closed18 : (Rows.commonKnowsSpec.vars.all (Tryz.pinned.checked.prog.varReadable ·)) = true := by kernel_rfl
theorem closed19 : (Tryz.f16.resultTypes.all (fun t => Tryz.pinned.checked.prog.readableRec t && decide (t < Tryz.pinned.checked.prog.types.size))) = true := by kernel_rfl
theorem closed20 : ((Rows.commonKnowsRow.ifacesOut == Tryz.f16.resultTypes.toList.any (Tryz.pinned.checked.prog.ifacesRec ·))) = true := by kernel_rfl
theorem closed21 : ((Rows.commonKnowsRow.loopsOut == Tryz.f16.resultTypes.toList.any (Tryz.pinned.checked.prog.loopsFrom ·))) = true := by kernel_rfl
theorem closed22 : ((Rows.commonKnowsRow.plainKeys == Tryz.pinned.checked.prog.plainKeys)) = true := by kernel_rfl
theorem closed23 : (Rows.commonKnowsRow.shortTexts.isNone) = true := by kernel_rfl
theorem closed24 : (Tryz.pinned.checked.prog.stopsHeard) = true := by kernel_rfl
theorem closed25 : (Tryz.pinned.checked.prog.mayEnter) = true := by kernel_rfl
theorem closed26 : ((Rows.commonKnowsRow.lifted == Tryz.pinned.checked.prog.liftsFinal)) = true := by kernel_rfl
theorem closed27 : ((Tryz.pinned.checked.prog.make == some Rows.commonKnowsRow.make)) = true := by kernel_rfl
theorem closed28 : ((Rows.commonKnowsRow.kinds == (if Rows.commonKnowsRow.domain.isEmpty then [] else Tryz.f16.params.toList.map fun t => match Tryz.pinned.checked.prog.underlying t with | some (.int k) => some k | _ => none))) = true := by kernel_rfl
theorem closed29 : ((Rows.commonKnowsRow.pinned == Rows.commonKnowsRow.pinnedBy)) = true := by kernel_rfl
theorem closed30 : ((Rows.commonKnowsRow.veiled == (Tryz.f16.params.toList ++ Rows.commonKnowsSpec.plain.varTypes Tryz.pinned.checked.prog ++ Tryz.f16.resultTypes.toList).any (Tryz.pinned.checked.prog.veiledRec ·))) = true := by kernel_rfl
theorem closed31 : (Rows.commonKnowsRow.veiledFits Tryz.pinned.checked.prog Tryz.f16.params.toList (Tryz.f16.params.toList ++ Rows.commonKnowsSpec.plain.varTypes Tryz.pinned.checked.prog ++ Tryz.f16.resultTypes.toList)) = true := by kernel_rfl
theorem zE {a b : Bool} (ha : a = true) (hb : b = true) : (a && b) = true := by rw [ha, hb]; rfl
set_option maxRecDepth 100000 in
theorem closed : joinedFacts Tryz.pinned.checked.prog 16 Tryz.f16 Rows.commonKnowsSpec Rows.commonKnowsRow = true := by
  unfold joinedFacts
  exact (zE (zE (zE (zE (zE (zE (zE (zE (zE (zE (zE (zE (zE (zE (zE (zE (zE (zE (zE (zE (zE (zE (zE (zE (zE (zE (zE (zE (zE (zE (zE closed0 closed1) closed2) closed3) closed4) closed5) closed6) closed7) closed8) closed9) closed10) closed11) closed12) closed13) closed14) closed15) closed16) closed17) closed18) closed19) closed20) closed21) closed22) closed23) closed24) closed25) closed26) closed27) closed28) closed29) closed30) closed31)
set_option maxRecDepth 100000 in
theorem holds : Rows.CommonKnowsSaid :=
  OpenClaim.holds_of_wide 16 Tryz.f16 rfl rfl rfl rfl rfl rfl rfl ⟨rfl, rfl, rfl, rfl, rfl⟩ rfl rfl rfl rfl rfl (by kernel_rfl) Tryz.func16 closed
    (of_decide_eq_true (by kernel_rfl)) (by unfold Func.isWrapper; first | (rw [if_pos (by decide +kernel)]; kernel_rfl) | (rw [if_neg (by decide +kernel)]; exact ⟨rfl, rfl⟩))
    (fun os started H enc _ => lifted os started H enc)
#print axioms holds
end Go.Proofs.YtdkmpccfnnpnbaaGreat
