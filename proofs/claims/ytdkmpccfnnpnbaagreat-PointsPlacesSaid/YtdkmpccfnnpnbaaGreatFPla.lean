/- PointsPlaces: numbers and places belong to each other, and points are numbered execution by execution: the law answers true for every input, and its arguments read behind the call as before. No further condition. -/
import Derived.Test.YtdkmpccfnnpnbaaGreatRows
import Derived.Test.YtdkmpccfnnpnbaaGreatKbf
import Derived.Test.YtdkmpccfnnpnbaaGreatKbk

namespace Go.Proofs.YtdkmpccfnnpnbaaGreat
open Go.ChangeShapes Go.WideShapes Go.ChangeAt Go.RowKit
set_option maxRecDepth 100000 in
theorem lifted (os : Os) (started : os.Started) (H : Type) (enc : TypeId × Value → H) :
    ReturnsInHanded {} Tryz.checked os 13 .any (fun w args => Rows.pointsPlacesSpec.pre enc Tryz.prog Tryz.f13 [] false w args ∧ sizedMet enc Tryz.prog Tryz.f13 (OpenSpec.ofChange Rows.pointsPlacesSpec) false w args)
      (Rows.pointsPlacesSpec.post enc Tryz.prog Tryz.f13 false true false false) := by
  suffices h : ReturnsInHanded {} Tryz.checked os 13 .any (fun w args => (Rows.pointsPlacesSpec.pre enc Tryz.prog Tryz.f13 [] false w args ∧ True) ∧ sizedMet enc Tryz.prog Tryz.f13 (OpenSpec.ofChange Rows.pointsPlacesSpec) false w args)
      (Rows.pointsPlacesSpec.post enc Tryz.prog Tryz.f13 false true false false) by simpa only [and_true] using h
  refine j8 (C := Tryz.checked) (X := fun _ _ => True) started (fun _ _ _ _ h => h) Qo (by kernel_rfl) Tryz.func13
    (ChangeSpec.witness_shaped (enc := enc) (C := Tryz.checked) (os := os) (X := fun _ _ => True) false (World.doorLaid Tryz.prog 400 os)
      #[.agg #[.int .i64 0, .int .i64 0, .int .i64 0, .slice none 0 0, .int .i64 0, .slice none 0 0, .int .i64 0]] 8 rfl (World.shaped_of_RefB (by kernel_rfl) (by kernel_rfl)) (by kernel_rfl) (by kernel_rfl) (by kernel_rfl) trivial)
    (tb := 4) rfl Tryz.underlying4 j9 ?_ rfl ?_ ?_
  · intro t ht
    have hm : t ∈ [29] := ht
    simp only [List.mem_cons, List.not_mem_nil, or_false] at hm
    rcases hm with rfl
    · exact ⟨by kernel_rfl, of_decide_eq_true (by kernel_rfl)⟩
  · intro ds hd
    match ds, hd with
    | [_], _ => rfl
  · intro W base args ds ps hval hA hsz hlt hL
    have hA' : DataW.TrodAll enc Tryz.prog W 0 (fun _ => true) true [29] args.toList ds ps := hA
    obtain ⟨v0, d0, rfl, rfl, h0⟩ := trodAll_one hA'
    have hsz' : (DataW.weightsEach Tryz.prog [29] [d0]).all (· ≤ reachBytes) = true := hsz
    simp only [DataW.weightsEach, List.all_append, Bool.and_eq_true] at hsz'
    obtain ⟨p, A, kc, SV, ks, rfl, hlp, hCA, hSA⟩ := vz (hval 0 29 v0 rfl rfl) h0 hsz'.1
    exact Xe p hlp A kc SV ks W hCA hSA
theorem closed0 : (Rows.pointsPlacesRow.wf (OpenSpec.ofChange Rows.pointsPlacesSpec)) = true := by kernel_rfl
theorem closed1 : (laidOutB Tryz.pinned.checked.prog) = true := by kernel_rfl
theorem closed2 : (mapsRowed Tryz.pinned.checked.prog) = true := by kernel_rfl
theorem closed3 : (Tryz.f13.params.all (Tryz.pinned.checked.prog.readableRec ·)) = true := by kernel_rfl
theorem closed4 : (namedTie Tryz.pinned.checked.prog Rows.pointsPlacesRow.named Rows.pointsPlacesSpec.vars) = true := by kernel_rfl
theorem closed5 : ((Rows.pointsPlacesRow.stops == [])) = true := by kernel_rfl
theorem closed6 : ((Tryz.pinned.checked.prog.stops == [])) = true := by kernel_rfl
theorem closed7 : ((Rows.pointsPlacesRow.knobs == [])) = true := by kernel_rfl
theorem closed8 : ((Tryz.pinned.checked.prog.stopKnobs == [])) = true := by kernel_rfl
theorem closed9 : ((Rows.pointsPlacesRow.inPlace == Tryz.pinned.checked.prog.inPlace 13)) = true := by kernel_rfl
theorem closed10 : ((Rows.pointsPlacesRow.unfollowed == Tryz.pinned.checked.prog.unfollowed 13)) = true := by kernel_rfl
theorem closed11 : ((Rows.pointsPlacesRow.recurses == Tryz.pinned.checked.prog.recurses 13)) = true := by kernel_rfl
theorem closed12 : ((Rows.pointsPlacesRow.named == Tryz.pinned.checked.prog.varsNamed 13)) = true := by kernel_rfl
theorem closed13 : ((Rows.pointsPlacesRow.maps == (Tryz.f13.params.toList ++ Rows.pointsPlacesSpec.plain.varTypes Tryz.pinned.checked.prog).any (Tryz.pinned.checked.prog.mapsRec ·))) = true := by kernel_rfl
theorem closed14 : ((Rows.pointsPlacesRow.ifaces == (Tryz.f13.params.toList ++ Rows.pointsPlacesSpec.plain.varTypes Tryz.pinned.checked.prog).any (Tryz.pinned.checked.prog.ifacesRec ·))) = true := by kernel_rfl
theorem closed15 : ((Rows.pointsPlacesRow.mapsOut == Tryz.pinned.checked.prog.mapsAmong Tryz.f13.resultTypes.toList)) = true := by kernel_rfl
theorem closed16 : ((Rows.pointsPlacesRow.loops == (Tryz.f13.params.toList ++ Rows.pointsPlacesSpec.plain.varTypes Tryz.pinned.checked.prog).any (Tryz.pinned.checked.prog.loopsFrom ·))) = true := by kernel_rfl
theorem closed17 : ((Rows.pointsPlacesRow.wideKeys == (Tryz.f13.params.toList ++ Rows.pointsPlacesSpec.plain.varTypes Tryz.pinned.checked.prog ++ Tryz.f13.resultTypes.toList).any (Tryz.pinned.checked.prog.wideKeysFrom ·))) = true := by kernel_rfl
theorem closed18 : (Rows.pointsPlacesSpec.vars.all (Tryz.pinned.checked.prog.varReadable ·)) = true := by kernel_rfl
theorem closed19 : (Tryz.f13.resultTypes.all (fun t => Tryz.pinned.checked.prog.readableRec t && decide (t < Tryz.pinned.checked.prog.types.size))) = true := by kernel_rfl
theorem closed20 : ((Rows.pointsPlacesRow.ifacesOut == Tryz.f13.resultTypes.toList.any (Tryz.pinned.checked.prog.ifacesRec ·))) = true := by kernel_rfl
theorem closed21 : ((Rows.pointsPlacesRow.loopsOut == Tryz.f13.resultTypes.toList.any (Tryz.pinned.checked.prog.loopsFrom ·))) = true := by kernel_rfl
theorem closed22 : ((Rows.pointsPlacesRow.plainKeys == Tryz.pinned.checked.prog.plainKeys)) = true := by kernel_rfl
theorem closed23 : (Rows.pointsPlacesRow.shortTexts.isNone) = true := by kernel_rfl
theorem closed24 : (Tryz.pinned.checked.prog.stopsHeard) = true := by kernel_rfl
theorem closed25 : (Tryz.pinned.checked.prog.mayEnter) = true := by kernel_rfl
theorem closed26 : ((Rows.pointsPlacesRow.lifted == Tryz.pinned.checked.prog.liftsFinal)) = true := by kernel_rfl
theorem closed27 : ((Tryz.pinned.checked.prog.make == some Rows.pointsPlacesRow.make)) = true := by kernel_rfl
theorem closed28 : ((Rows.pointsPlacesRow.kinds == (if Rows.pointsPlacesRow.domain.isEmpty then [] else Tryz.f13.params.toList.map fun t => match Tryz.pinned.checked.prog.underlying t with | some (.int k) => some k | _ => none))) = true := by kernel_rfl
theorem closed29 : ((Rows.pointsPlacesRow.pinned == Rows.pointsPlacesRow.pinnedBy)) = true := by kernel_rfl
theorem closed30 : ((Rows.pointsPlacesRow.veiled == (Tryz.f13.params.toList ++ Rows.pointsPlacesSpec.plain.varTypes Tryz.pinned.checked.prog ++ Tryz.f13.resultTypes.toList).any (Tryz.pinned.checked.prog.veiledRec ·))) = true := by kernel_rfl
theorem closed31 : (Rows.pointsPlacesRow.veiledFits Tryz.pinned.checked.prog Tryz.f13.params.toList (Tryz.f13.params.toList ++ Rows.pointsPlacesSpec.plain.varTypes Tryz.pinned.checked.prog ++ Tryz.f13.resultTypes.toList)) = true := by kernel_rfl
theorem and_both {a b : Bool} (ha : a = true) (hb : b = true) : (a && b) = true := by rw [ha, hb]; rfl
set_option maxRecDepth 100000 in
theorem closed : joinedFacts Tryz.pinned.checked.prog 13 Tryz.f13 Rows.pointsPlacesSpec Rows.pointsPlacesRow = true := by
  unfold joinedFacts
  exact (and_both (and_both (and_both (and_both (and_both (and_both (and_both (and_both (and_both (and_both (and_both (and_both (and_both (and_both (and_both (and_both (and_both (and_both (and_both (and_both (and_both (and_both (and_both (and_both (and_both (and_both (and_both (and_both (and_both (and_both (and_both closed0 closed1) closed2) closed3) closed4) closed5) closed6) closed7) closed8) closed9) closed10) closed11) closed12) closed13) closed14) closed15) closed16) closed17) closed18) closed19) closed20) closed21) closed22) closed23) closed24) closed25) closed26) closed27) closed28) closed29) closed30) closed31)
set_option maxRecDepth 100000 in
theorem holds : Rows.PointsPlacesSaid :=
  OpenClaim.holds_of_wide 13 Tryz.f13 rfl rfl rfl rfl rfl rfl rfl ⟨rfl, rfl, rfl, rfl, rfl⟩ rfl rfl rfl rfl rfl (by kernel_rfl) Tryz.func13 closed
    (of_decide_eq_true (by kernel_rfl)) (by unfold Func.isWrapper; first | (rw [if_pos (by decide +kernel)]; kernel_rfl) | (rw [if_neg (by decide +kernel)]; exact ⟨rfl, rfl⟩))
    (fun os started H enc _ => lifted os started H enc)
#print axioms holds
end Go.Proofs.YtdkmpccfnnpnbaaGreat
