/- PointsRemembers: a process knows the number of rounds, and can tell the successors of points apart that it can tell apart: the law answers true for every input, and its arguments read behind the call as before. No further condition. -/
import Derived.Test.YtdkmpccfnnpnbaaGreatRows
import Derived.Test.YtdkmpccfnnpnbaaGreatKbf
import Derived.Test.YtdkmpccfnnpnbaaGreatKbl

namespace Go.Proofs.YtdkmpccfnnpnbaaGreat
open Go.ChangeShapes Go.WideShapes Go.ChangeAt Go.RowKit
set_option maxRecDepth 100000 in
theorem lifted (os : Os) (started : os.Started) (H : Type) (enc : TypeId × Value → H) :
    ReturnsInHanded {} Tryz.checked os 10 .any (fun w args => Rows.pointsRemembersSpec.pre enc Tryz.prog Tryz.f10 [] false w args ∧ sizedMet enc Tryz.prog Tryz.f10 (OpenSpec.ofChange Rows.pointsRemembersSpec) false w args)
      (Rows.pointsRemembersSpec.post enc Tryz.prog Tryz.f10 false true false false) := by
  suffices h : ReturnsInHanded {} Tryz.checked os 10 .any (fun w args => (Rows.pointsRemembersSpec.pre enc Tryz.prog Tryz.f10 [] false w args ∧ True) ∧ sizedMet enc Tryz.prog Tryz.f10 (OpenSpec.ofChange Rows.pointsRemembersSpec) false w args)
      (Rows.pointsRemembersSpec.post enc Tryz.prog Tryz.f10 false true false false) by simpa only [and_true] using h
  refine j8 (C := Tryz.checked) (X := fun _ _ => True) started (fun _ _ _ _ h => h) Qo (by kernel_rfl) Tryz.func10
    (ChangeSpec.witness_shaped (enc := enc) (C := Tryz.checked) (os := os) (X := fun _ _ => True) false (World.doorLaid Tryz.prog 400 os)
      #[.agg #[.int .i64 0, .int .i64 0, .int .i64 0, .slice none 0 0, .int .i64 0, .slice none 0 0, .int .i64 0], .int .u8 0] 8 rfl (World.shaped_of_RefB (by kernel_rfl) (by kernel_rfl)) (by kernel_rfl) (by kernel_rfl) (by kernel_rfl) trivial)
    (tb := 4) rfl Tryz.underlying4 j9 ?_ rfl ?_ ?_
  · intro t ht
    have hm : t ∈ [29, 5] := ht
    simp only [List.mem_cons, List.not_mem_nil, or_false] at hm
    rcases hm with rfl | rfl
    · exact ⟨by kernel_rfl, of_decide_eq_true (by kernel_rfl)⟩
    · exact ⟨by kernel_rfl, of_decide_eq_true (by kernel_rfl)⟩
  · intro ds hd
    match ds, hd with
    | [_, _], _ => rfl
  · intro W base args ds ps hval hA hsz hlt hL
    have hA' : DataW.TrodAll enc Tryz.prog W 0 (fun _ => true) true [29, 5] args.toList ds ps := hA
    obtain ⟨v0, v1, d0, d1, p0, p1, rfl, rfl, rfl, h0, h1⟩ := trodAll_two hA'
    have hsz' : (DataW.weightsEach Tryz.prog [29, 5] [d0, d1]).all (· ≤ reachBytes) = true := hsz
    simp only [DataW.weightsEach, List.all_append, Bool.and_eq_true] at hsz'
    obtain ⟨p, A, kc, SV, ks, rfl, hlp, hCA, hSA⟩ := vz (hval 0 29 v0 rfl rfl) h0 hsz'.1
    obtain ⟨i1, rfl, hu1, _, hu2⟩ := open_int Tryz.underlying5 (hval 1 5 v1 rfl rfl) h1
    obtain ⟨n1, rfl, hn1⟩ := lit_nat (by decide) hu2
    have hn1' := u8_lt hn1
    exact gJ p hlp A kc SV ks n1 hn1' W hCA hSA
theorem closed0 : (Rows.pointsRemembersRow.wf (OpenSpec.ofChange Rows.pointsRemembersSpec)) = true := by kernel_rfl
theorem closed1 : (laidOutB Tryz.pinned.checked.prog) = true := by kernel_rfl
theorem closed2 : (mapsRowed Tryz.pinned.checked.prog) = true := by kernel_rfl
theorem closed3 : (Tryz.f10.params.all (Tryz.pinned.checked.prog.readableRec ·)) = true := by kernel_rfl
theorem closed4 : (namedTie Tryz.pinned.checked.prog Rows.pointsRemembersRow.named Rows.pointsRemembersSpec.vars) = true := by kernel_rfl
theorem closed5 : ((Rows.pointsRemembersRow.stops == [])) = true := by kernel_rfl
theorem closed6 : ((Tryz.pinned.checked.prog.stops == [])) = true := by kernel_rfl
theorem closed7 : ((Rows.pointsRemembersRow.knobs == [])) = true := by kernel_rfl
theorem closed8 : ((Tryz.pinned.checked.prog.stopKnobs == [])) = true := by kernel_rfl
theorem closed9 : ((Rows.pointsRemembersRow.inPlace == Tryz.pinned.checked.prog.inPlace 10)) = true := by kernel_rfl
theorem closed10 : ((Rows.pointsRemembersRow.unfollowed == Tryz.pinned.checked.prog.unfollowed 10)) = true := by kernel_rfl
theorem closed11 : ((Rows.pointsRemembersRow.recurses == Tryz.pinned.checked.prog.recurses 10)) = true := by kernel_rfl
theorem closed12 : ((Rows.pointsRemembersRow.named == Tryz.pinned.checked.prog.varsNamed 10)) = true := by kernel_rfl
theorem closed13 : ((Rows.pointsRemembersRow.maps == (Tryz.f10.params.toList ++ Rows.pointsRemembersSpec.plain.varTypes Tryz.pinned.checked.prog).any (Tryz.pinned.checked.prog.mapsRec ·))) = true := by kernel_rfl
theorem closed14 : ((Rows.pointsRemembersRow.ifaces == (Tryz.f10.params.toList ++ Rows.pointsRemembersSpec.plain.varTypes Tryz.pinned.checked.prog).any (Tryz.pinned.checked.prog.ifacesRec ·))) = true := by kernel_rfl
theorem closed15 : ((Rows.pointsRemembersRow.mapsOut == Tryz.pinned.checked.prog.mapsAmong Tryz.f10.resultTypes.toList)) = true := by kernel_rfl
theorem closed16 : ((Rows.pointsRemembersRow.loops == (Tryz.f10.params.toList ++ Rows.pointsRemembersSpec.plain.varTypes Tryz.pinned.checked.prog).any (Tryz.pinned.checked.prog.loopsFrom ·))) = true := by kernel_rfl
theorem closed17 : ((Rows.pointsRemembersRow.wideKeys == (Tryz.f10.params.toList ++ Rows.pointsRemembersSpec.plain.varTypes Tryz.pinned.checked.prog ++ Tryz.f10.resultTypes.toList).any (Tryz.pinned.checked.prog.wideKeysFrom ·))) = true := by kernel_rfl
theorem closed18 : (Rows.pointsRemembersSpec.vars.all (Tryz.pinned.checked.prog.varReadable ·)) = true := by kernel_rfl
theorem closed19 : (Tryz.f10.resultTypes.all (fun t => Tryz.pinned.checked.prog.readableRec t && decide (t < Tryz.pinned.checked.prog.types.size))) = true := by kernel_rfl
theorem closed20 : ((Rows.pointsRemembersRow.ifacesOut == Tryz.f10.resultTypes.toList.any (Tryz.pinned.checked.prog.ifacesRec ·))) = true := by kernel_rfl
theorem closed21 : ((Rows.pointsRemembersRow.loopsOut == Tryz.f10.resultTypes.toList.any (Tryz.pinned.checked.prog.loopsFrom ·))) = true := by kernel_rfl
theorem closed22 : ((Rows.pointsRemembersRow.plainKeys == Tryz.pinned.checked.prog.plainKeys)) = true := by kernel_rfl
theorem closed23 : (Rows.pointsRemembersRow.shortTexts.isNone) = true := by kernel_rfl
theorem closed24 : (Tryz.pinned.checked.prog.stopsHeard) = true := by kernel_rfl
theorem closed25 : (Tryz.pinned.checked.prog.mayEnter) = true := by kernel_rfl
theorem closed26 : ((Rows.pointsRemembersRow.lifted == Tryz.pinned.checked.prog.liftsFinal)) = true := by kernel_rfl
theorem closed27 : ((Tryz.pinned.checked.prog.make == some Rows.pointsRemembersRow.make)) = true := by kernel_rfl
theorem closed28 : ((Rows.pointsRemembersRow.kinds == (if Rows.pointsRemembersRow.domain.isEmpty then [] else Tryz.f10.params.toList.map fun t => match Tryz.pinned.checked.prog.underlying t with | some (.int k) => some k | _ => none))) = true := by kernel_rfl
theorem closed29 : ((Rows.pointsRemembersRow.pinned == Rows.pointsRemembersRow.pinnedBy)) = true := by kernel_rfl
theorem closed30 : ((Rows.pointsRemembersRow.veiled == (Tryz.f10.params.toList ++ Rows.pointsRemembersSpec.plain.varTypes Tryz.pinned.checked.prog ++ Tryz.f10.resultTypes.toList).any (Tryz.pinned.checked.prog.veiledRec ·))) = true := by kernel_rfl
theorem closed31 : (Rows.pointsRemembersRow.veiledFits Tryz.pinned.checked.prog Tryz.f10.params.toList (Tryz.f10.params.toList ++ Rows.pointsRemembersSpec.plain.varTypes Tryz.pinned.checked.prog ++ Tryz.f10.resultTypes.toList)) = true := by kernel_rfl
theorem and_both {a b : Bool} (ha : a = true) (hb : b = true) : (a && b) = true := by rw [ha, hb]; rfl
set_option maxRecDepth 100000 in
theorem closed : joinedFacts Tryz.pinned.checked.prog 10 Tryz.f10 Rows.pointsRemembersSpec Rows.pointsRemembersRow = true := by
  unfold joinedFacts
  exact (and_both (and_both (and_both (and_both (and_both (and_both (and_both (and_both (and_both (and_both (and_both (and_both (and_both (and_both (and_both (and_both (and_both (and_both (and_both (and_both (and_both (and_both (and_both (and_both (and_both (and_both (and_both (and_both (and_both (and_both (and_both closed0 closed1) closed2) closed3) closed4) closed5) closed6) closed7) closed8) closed9) closed10) closed11) closed12) closed13) closed14) closed15) closed16) closed17) closed18) closed19) closed20) closed21) closed22) closed23) closed24) closed25) closed26) closed27) closed28) closed29) closed30) closed31)
set_option maxRecDepth 100000 in
theorem holds : Rows.PointsRemembersSaid :=
  OpenClaim.holds_of_wide 10 Tryz.f10 rfl rfl rfl rfl rfl rfl rfl ⟨rfl, rfl, rfl, rfl, rfl⟩ rfl rfl rfl rfl rfl (by kernel_rfl) Tryz.func10 closed
    (of_decide_eq_true (by kernel_rfl)) (by unfold Func.isWrapper; first | (rw [if_pos (by decide +kernel)]; kernel_rfl) | (rw [if_neg (by decide +kernel)]; exact ⟨rfl, rfl⟩))
    (fun os started H enc _ => lifted os started H enc)
#print axioms holds
end Go.Proofs.YtdkmpccfnnpnbaaGreat
