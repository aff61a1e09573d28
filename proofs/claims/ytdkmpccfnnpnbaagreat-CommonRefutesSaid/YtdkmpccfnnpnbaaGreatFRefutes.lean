/- CommonRefutes: from a point there is a walk exactly if its component does not hold the set; the first one is accepted, visits no point twice, and all of its points but the last one are in the set: the law answers true for every input, and its arguments read behind the call as before. No further condition. -/
import Derived.Test.YtdkmpccfnnpnbaaGreatRows
import Derived.Test.YtdkmpccfnnpnbaaGreatUe
import Derived.Test.YtdkmpccfnnpnbaaGreatUh

namespace Go.Proofs.YtdkmpccfnnpnbaaGreat
open Go.ChangeShapes Go.WideShapes Go.ChangeAt Go.RowKit
set_option maxRecDepth 100000 in
theorem lifted (os : Os) (started : os.Started) (H : Type) (enc : TypeId × Value → H) :
    ReturnsInHanded {} Tryz.checked os 7 .any (fun w args => Rows.commonRefutesSpec.pre enc Tryz.prog Tryz.f7 [] false w args ∧ sizedMet enc Tryz.prog Tryz.f7 (OpenSpec.ofChange Rows.commonRefutesSpec) false w args)
      (Rows.commonRefutesSpec.post enc Tryz.prog Tryz.f7 false true false false) := by
  suffices h : ReturnsInHanded {} Tryz.checked os 7 .any (fun w args => (Rows.commonRefutesSpec.pre enc Tryz.prog Tryz.f7 [] false w args ∧ True) ∧ sizedMet enc Tryz.prog Tryz.f7 (OpenSpec.ofChange Rows.commonRefutesSpec) false w args)
      (Rows.commonRefutesSpec.post enc Tryz.prog Tryz.f7 false true false false) by simpa only [and_true] using h
  refine XJ (C := Tryz.checked) (X := fun _ _ => True) started (fun _ _ _ _ h => h) lawOwn (by kernel_rfl) Tryz.func7
    (ChangeSpec.witness_shaped (enc := enc) (C := Tryz.checked) (os := os) (X := fun _ _ => True) false (World.doorLaid Tryz.prog 400 os)
      #[.agg #[.int .i64 0, .int .i64 0, .int .i64 0, .slice none 0 0, .int .i64 0, .slice none 0 0, .int .i64 0], .agg #[.int .u8 0, .slice none 0 0, .int .u16 0]] 8 rfl (World.shaped_of_RefB (by kernel_rfl) (by kernel_rfl)) (by kernel_rfl) (by kernel_rfl) (by kernel_rfl) trivial)
    (tb := 4) rfl Tryz.underlying4 XK ?_ rfl ?_ ?_
  · intro t ht
    have hm : t ∈ [29, 71] := ht
    simp only [List.mem_cons, List.not_mem_nil, or_false] at hm
    rcases hm with rfl | rfl
    · exact ⟨by kernel_rfl, of_decide_eq_true (by kernel_rfl)⟩
    · exact ⟨by kernel_rfl, of_decide_eq_true (by kernel_rfl)⟩
  · intro ds hd
    match ds, hd with
    | [_, _], _ => rfl
  · intro W base args ds ps hval hA hsz hlt hL
    have hA' : DataW.TrodAll enc Tryz.prog W 0 (fun _ => true) true [29, 71] args.toList ds ps := hA
    obtain ⟨v0, v1, d0, d1, p0, p1, rfl, rfl, rfl, h0, h1⟩ := trodAll_two hA'
    have hsz' : (DataW.weightsEach Tryz.prog [29, 71] [d0, d1]).all (· ≤ reachBytes) = true := hsz
    simp only [DataW.weightsEach, List.all_append, Bool.and_eq_true] at hsz'
    obtain ⟨p, A, kc, SV, ks, rfl, hlp, hCA, hSA⟩ := ZF (hval 0 29 v0 rfl rfl) h0 hsz'.1
    obtain ⟨c, cq, AB, bs, kb, rfl, hc, hcq, hBA⟩ := wz (hval 1 71 v1 rfl rfl) h1 hsz'.2.1
    exact ZO p hlp A kc SV ks c hc cq hcq bs AB kb W hCA hSA hBA
theorem closed0 : (Rows.commonRefutesRow.wf (OpenSpec.ofChange Rows.commonRefutesSpec)) = true := by kernel_rfl
theorem closed1 : (laidOutB Tryz.pinned.checked.prog) = true := by kernel_rfl
theorem closed2 : (mapsRowed Tryz.pinned.checked.prog) = true := by kernel_rfl
theorem closed3 : (Tryz.f7.params.all (Tryz.pinned.checked.prog.readableRec ·)) = true := by kernel_rfl
theorem closed4 : (namedTie Tryz.pinned.checked.prog Rows.commonRefutesRow.named Rows.commonRefutesSpec.vars) = true := by kernel_rfl
theorem closed5 : ((Rows.commonRefutesRow.stops == [])) = true := by kernel_rfl
theorem closed6 : ((Tryz.pinned.checked.prog.stops == [])) = true := by kernel_rfl
theorem closed7 : ((Rows.commonRefutesRow.knobs == [])) = true := by kernel_rfl
theorem closed8 : ((Tryz.pinned.checked.prog.stopKnobs == [])) = true := by kernel_rfl
theorem closed9 : ((Rows.commonRefutesRow.inPlace == Tryz.pinned.checked.prog.inPlace 7)) = true := by kernel_rfl
theorem closed10 : ((Rows.commonRefutesRow.unfollowed == Tryz.pinned.checked.prog.unfollowed 7)) = true := by kernel_rfl
theorem closed11 : ((Rows.commonRefutesRow.recurses == Tryz.pinned.checked.prog.recurses 7)) = true := by kernel_rfl
theorem closed12 : ((Rows.commonRefutesRow.named == Tryz.pinned.checked.prog.varsNamed 7)) = true := by kernel_rfl
theorem closed13 : ((Rows.commonRefutesRow.maps == (Tryz.f7.params.toList ++ Rows.commonRefutesSpec.plain.varTypes Tryz.pinned.checked.prog).any (Tryz.pinned.checked.prog.mapsRec ·))) = true := by kernel_rfl
theorem closed14 : ((Rows.commonRefutesRow.ifaces == (Tryz.f7.params.toList ++ Rows.commonRefutesSpec.plain.varTypes Tryz.pinned.checked.prog).any (Tryz.pinned.checked.prog.ifacesRec ·))) = true := by kernel_rfl
theorem closed15 : ((Rows.commonRefutesRow.mapsOut == Tryz.pinned.checked.prog.mapsAmong Tryz.f7.resultTypes.toList)) = true := by kernel_rfl
theorem closed16 : ((Rows.commonRefutesRow.loops == (Tryz.f7.params.toList ++ Rows.commonRefutesSpec.plain.varTypes Tryz.pinned.checked.prog).any (Tryz.pinned.checked.prog.loopsFrom ·))) = true := by kernel_rfl
theorem closed17 : ((Rows.commonRefutesRow.wideKeys == (Tryz.f7.params.toList ++ Rows.commonRefutesSpec.plain.varTypes Tryz.pinned.checked.prog ++ Tryz.f7.resultTypes.toList).any (Tryz.pinned.checked.prog.wideKeysFrom ·))) = true := by kernel_rfl
theorem closed18 : (Rows.commonRefutesSpec.vars.all (Tryz.pinned.checked.prog.varReadable ·)) = true := by kernel_rfl
theorem closed19 : (Tryz.f7.resultTypes.all (fun t => Tryz.pinned.checked.prog.readableRec t && decide (t < Tryz.pinned.checked.prog.types.size))) = true := by kernel_rfl
theorem closed20 : ((Rows.commonRefutesRow.ifacesOut == Tryz.f7.resultTypes.toList.any (Tryz.pinned.checked.prog.ifacesRec ·))) = true := by kernel_rfl
theorem closed21 : ((Rows.commonRefutesRow.loopsOut == Tryz.f7.resultTypes.toList.any (Tryz.pinned.checked.prog.loopsFrom ·))) = true := by kernel_rfl
theorem closed22 : ((Rows.commonRefutesRow.plainKeys == Tryz.pinned.checked.prog.plainKeys)) = true := by kernel_rfl
theorem closed23 : (Rows.commonRefutesRow.shortTexts.isNone) = true := by kernel_rfl
theorem closed24 : (Tryz.pinned.checked.prog.stopsHeard) = true := by kernel_rfl
theorem closed25 : (Tryz.pinned.checked.prog.mayEnter) = true := by kernel_rfl
theorem closed26 : ((Rows.commonRefutesRow.lifted == Tryz.pinned.checked.prog.liftsFinal)) = true := by kernel_rfl
theorem closed27 : ((Tryz.pinned.checked.prog.make == some Rows.commonRefutesRow.make)) = true := by kernel_rfl
theorem closed28 : ((Rows.commonRefutesRow.kinds == (if Rows.commonRefutesRow.domain.isEmpty then [] else Tryz.f7.params.toList.map fun t => match Tryz.pinned.checked.prog.underlying t with | some (.int k) => some k | _ => none))) = true := by kernel_rfl
theorem closed29 : ((Rows.commonRefutesRow.pinned == Rows.commonRefutesRow.pinnedBy)) = true := by kernel_rfl
theorem closed30 : ((Rows.commonRefutesRow.veiled == (Tryz.f7.params.toList ++ Rows.commonRefutesSpec.plain.varTypes Tryz.pinned.checked.prog ++ Tryz.f7.resultTypes.toList).any (Tryz.pinned.checked.prog.veiledRec ·))) = true := by kernel_rfl
theorem closed31 : (Rows.commonRefutesRow.veiledFits Tryz.pinned.checked.prog Tryz.f7.params.toList (Tryz.f7.params.toList ++ Rows.commonRefutesSpec.plain.varTypes Tryz.pinned.checked.prog ++ Tryz.f7.resultTypes.toList)) = true := by kernel_rfl
theorem zF {a b : Bool} (ha : a = true) (hb : b = true) : (a && b) = true := by rw [ha, hb]; rfl
set_option maxRecDepth 100000 in
theorem closed : joinedFacts Tryz.pinned.checked.prog 7 Tryz.f7 Rows.commonRefutesSpec Rows.commonRefutesRow = true := by
  unfold joinedFacts
  exact (zF (zF (zF (zF (zF (zF (zF (zF (zF (zF (zF (zF (zF (zF (zF (zF (zF (zF (zF (zF (zF (zF (zF (zF (zF (zF (zF (zF (zF (zF (zF closed0 closed1) closed2) closed3) closed4) closed5) closed6) closed7) closed8) closed9) closed10) closed11) closed12) closed13) closed14) closed15) closed16) closed17) closed18) closed19) closed20) closed21) closed22) closed23) closed24) closed25) closed26) closed27) closed28) closed29) closed30) closed31)
set_option maxRecDepth 100000 in
theorem holds : Rows.CommonRefutesSaid :=
  OpenClaim.holds_of_wide 7 Tryz.f7 rfl rfl rfl rfl rfl rfl rfl ⟨rfl, rfl, rfl, rfl, rfl⟩ rfl rfl rfl rfl rfl (by kernel_rfl) Tryz.func7 closed
    (of_decide_eq_true (by kernel_rfl)) (by unfold Func.isWrapper; first | (rw [if_pos (by decide +kernel)]; kernel_rfl) | (rw [if_neg (by decide +kernel)]; exact ⟨rfl, rfl⟩))
    (fun os started H enc _ => lifted os started H enc)
#print axioms holds
end Go.Proofs.YtdkmpccfnnpnbaaGreat
