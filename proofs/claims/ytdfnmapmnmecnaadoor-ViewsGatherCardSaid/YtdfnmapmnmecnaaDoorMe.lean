/- Part Past. Part CheckA. Part CheckB. Part RefA. What each part says stands at its head; no part has a condition beyond its own statements. -/
import Derived.Test.YtdfnmapmnmecnaaDoorProg
import Derived.Test.YtdfnmapmnmecnaaDoorMb
import Derived.Test.YtdfnmapmnmecnaaDoorMc
import Derived.Test.YtdfnmapmnmecnaaDoorMd
import Derived.Deep.QuietTactic
import Derived.BigQuiet
import Derived.Deep.RegionHeld3
import Derived.Deep.LoopGhost
import Derived.StillTactics
import Derived.Deep.DeepCutAuto
import Derived.StillTailTactics
import Derived.Laws.Pointers

/- views.past. -/
namespace Go.Proofs.YtdfnmapmnmecnaaDoor
open Go.RowKit Go.Shelf

attribute [local go_sem] Oper.semAt_some

theorem tablemap (w : World) (c1 : Array Value) (t1 : TypeId) : ∃ W0, (w.alloc (.cells c1 t1)).alloc (.map #[] 0) = W0 ∧ W0.heap[w.heap.size]? = some (.cells c1 t1) ∧ SetAt (Value.int .i64) W0 (w.heap.size + 1) [] ∧ W0.heap.size = w.heap.size + 2 ∧ Below w.heap.size w W0 :=
  ⟨_, rfl, blk_old (blk_new _ _) _, by have := SetAt.made (Value.int .i64) (w.alloc (.cells c1 t1)); rwa [World.size_alloc] at this, by simp, (bel1 w _).trans ((Below.refl _ _).alloc (by simp) _)⟩

/-- The loop's state: what waits, what was seen. -/
structure PastRel (w : World) (n : Int) (A : Option Addr) (cap : Nat) (vs : List Vw) (fs : List Nat) (g6 : Nat) (m : Nat) (ds : List Deferred) (w' : World) (seen wait : List Nat) (P : Option Addr) (c : Nat) : Prop where
  num : m = 6 * (vs.length - seen.length) + wait.length
  box : w'.heap[g6]? = some (.cells #[.slice P wait.length c] 37 (0, 0))
  own : Own w' w.heap.size (.slice P wait.length c) (castL wait)
  tab : w'.heap[w.heap.size]? = some (.cells #[.int .i64 n, .slice A vs.length cap] 24 (0, 0))
  set_ : SetAt (Value.int .i64) w' (w.heap.size + 1) (castL seen)
  below : Below w.heap.size w w'
  marks : Marks w.heap.size ds w'
  inv : DfsInv vs fs seen wait

set_option maxRecDepth 100000 in
set_option maxHeartbeats 4000000 in
theorem past_any (n : Int) (A F : Option Addr) (cap fcap : Nat) (vs : List Vw) (fs : List Nat) (w : World) (hT : TArg w A cap vs) (ha : Acyc vs) (hF : IAt w w.heap.size F (castL fs)) (hfs : ∀ c, c ∈ fs → c < vs.length) (hfl : fs.length ≤ 100) :
    Calls Tryd.prog 46 #[.agg #[.int .i64 n, .slice A vs.length cap], .slice F fs.length fcap] w (RetInts (castL (pastL vs fs)) w) := by
  have hmm := @run_makeMap Tryd.prog
  refine calls_of_marks Tryd.func46 rfl ?_
  simp only [Tryd.ntmps46, List.size_toArray, List.length_cons, List.length_nil, Nat.reduceAdd, Nat.reduceSub, Array.replicate_succ, Array.replicate_zero, List.push_toArray, List.append_toArray, List.nil_append, List.cons_append]
  have HF := Lib.hid hF
  clear hF
  go_wp2_with fail
  obtain ⟨W0, hW0, b0, b1, hsz, hB0⟩ := tablemap w #[.int .i64 n, .slice A vs.length cap] 24
  rw [hW0]
  clear hW0
  have c0 := clone_int F fcap (castL fs) W0 ((HF.out.keep hB0).more (by omega)) (by rw [castL_length]; omega)
  rw [castL_length] at c0
  refine c0.mono ?_
  rintro e W1 ⟨v0, rfl, hown, hb⟩
  have d0 := (hb.block _ (by omega)).trans b0
  have d1 : SetAt (Value.int .i64) W1 (w.heap.size + 1) [] := b1.kept hb (by omega)
  have hown' := hown.low (base' := w.heap.size) (by omega)
  have hb' : Below w.heap.size w W1 := hB0.trans (hb.mono (by omega))
  have hs1 := hb.size
  obtain ⟨A0, k0, rfl, hc0, hm0, _⟩ := hown.form
  clear c0 hown b0 b1 hB0 hb
  go_wp2_with fail
  obtain ⟨g6, hg6⟩ : ∃ g6, g6 = W1.heap.size := ⟨_, rfl⟩
  have hg6b : w.heap.size + 2 ≤ g6 := by omega
  have e6 : (W1.alloc (.cells #[.slice A0 (castL fs).length k0] 37)).heap[g6]? = some (.cells #[.slice A0 (castL fs).length k0] 37 (0, 0)) := by rw [hg6]; exact blk_new _ _
  have hst : PastRel w n A cap vs fs g6 (6 * vs.length + fs.length) [] (W1.alloc (.cells #[.slice A0 (castL fs).length k0] 37)) [] fs A0 k0 := by
    rw [castL_length] at e6 hown' ⊢
    exact ⟨by simp, e6, hown'.alloc _, blk_old d0 _, d1.same (Below.heap_alloc _ _ _ d1.lt), hb'.trans ((Below.refl _ _).alloc (by have := hb'.size; omega) _), Marks.nil _ _, DfsInv.start hfs⟩
  rw [← hg6]
  have HT := Lib.hid hT
  clear e6 hT d0 d1 hb' hown'
  refine wp_loop_ghost (fun (m : Nat) (a' : Act) (w' : World) => ∃ (ds : List Deferred) (u7 u9 u14 u15 u16 u17 u18 u19 u20 u21 u22 u23 u24 u25 u26 u27 u28 u29 u30 u31 u32 u33 u34 u35 u36 u37 u38 u39 u40 u41 u42 u43 u44 u45 : Value), (∃ seen wait P c, PastRel w n A cap vs fs g6 m ds w' seen wait P c) ∧ a' = { tmps := #[.agg #[.int .i64 n, .slice A vs.length cap], .slice F fs.length fcap, .pointer (some ⟨w.heap.size, 0, none⟩), undef, .slice none 0 0, .map (some (w.heap.size + 1)), .pointer (some ⟨g6, 0, none⟩), u7, undef, u9, undef, undef, .map (some (w.heap.size + 1)), .slice F fs.length fcap, u14, u15, u16, u17, u18, u19, u20, u21, u22, u23, u24, u25, u26, u27, u28, u29, u30, u31, u32, u33, u34, u35, u36, u37, u38, u39, u40, u41, u42, u43, u44, u45, undef, undef, undef, undef, undef, undef, undef, undef, undef, undef, undef, undef, undef, undef, undef], defers := ds }) (6 * vs.length + fs.length) ?_ ?_
  · exact ⟨[], _, _, _, _, _, _, _, _, _, _, _, _, _, _, _, _, _, _, _, _, _, _, _, _, _, _, _, _, _, _, _, _, _, _, ⟨[], fs, A0, k0, hst⟩, rfl⟩
  clear hst hg6
  rintro m a' wr ⟨ds, u7, u9, u14, u15, u16, u17, u18, u19, u20, u21, u22, u23, u24, u25, u26, u27, u28, u29, u30, u31, u32, u33, u34, u35, u36, u37, u38, u39, u40, u41, u42, u43, u44, u45, ⟨seen, wait, P, c, R⟩, rfl⟩
  rcases List.eq_nil_or_concat wait with rfl | ⟨wait', i, rfl⟩
  · obtain ⟨num, box, own, tab, set_, below, marks, inv⟩ := R
    simp only [List.length_nil] at box own num
    have c6 := blk_cell box 0 rfl
    have ct := blk_cell tab 1 rfl
    have BX := Lib.hid box
    have OW := Lib.hid own
    have TB := Lib.hid tab
    have BL := Lib.hid below
    have MK := Lib.hid marks
    have NU := Lib.hid num
    clear box own tab below marks num
    go_wp2_with fail
    have hlen := (inv.small).1
    have hfew := HT.out.few
    go_loopw [10, 49] (fun o i wr' => ∃ k : Nat, k ≤ vs.length ∧ i = .int .i64 k ∧ Own wr' w.heap.size o (seenTo seen k) ∧ Non w.heap.size wr wr') (fun _ i _ => vs.length - (intOf i).toNat)
    case atStart => exact ⟨0, by omega, rfl, by have : seenTo seen 0 = [] := by simp [seenTo, castL]
                                                rw [this]; exact Own.nil _ _, Non.refl _ _⟩
    case round =>
      obtain ⟨k, hk, rfl, hown, hnon⟩ := hrel
      clear c6 ct
      have HO := Lib.hid hown
      have HN := Lib.hid hnon
      have hset := set_.non hnon
      have hln := seenTo_length seen k
      clear hown hnon
      by_cases hlt : k < vs.length
      · have hlk := hset.look (t := 107) int_key Tryd.underlying107 zero_bool (k : Int)
        by_cases hin : k ∈ seen
        · have hy := Lib.hid (seenTo_yes hin)
          rw [decide_eq_true (mem_castL.2 hin)] at hlk
          clear hin
          go_wp2_with (at_builtin; go_must (refine wpList_app1 rfl _ _ rfl w.heap.size u10 _ (k : Int) rfl HO.out rfl (by omega) (Nat.le_trans BL.out.size HN.out.below.size) ?_); intro v' w1 hown1 hg1 hb1)
          go_roundw
          case rel => exact ⟨k + 1, by omega, by go_num, by rw [hy.out]; exact hown1, HN.out.trans (Non.of_grown hg1 (Nat.le_trans BL.out.size HN.out.below.size) (own_cells HO.out))⟩
          case measure => simp [intOf]; omega
        · have hy := Lib.hid (seenTo_no hin)
          rw [decide_eq_false (fun h => hin (mem_castL.1 h))] at hlk
          clear hin
          go_wp2_with fail
          go_roundw
          case rel => exact ⟨k + 1, by omega, by go_num, by rw [hy.out]; exact HO.out, HN.out⟩
          case measure => simp [intOf]; omega
      · obtain rfl : k = vs.length := by omega
        have hres := Lib.hid (inv.result ha hfs)
        go_wp2_with fail
        refine ret_marks (HN.out.marks MK.out) (v := u10) (fun W => by kernel_rfl) ?_
        intro W hS
        refine ⟨_, rfl, ?_, (BL.out.trans HN.out.below).trans hS.below⟩
        rw [← hres.out]
        exact HO.out.shut hS
  · simp only [List.concat_eq_append] at R
    obtain ⟨num, box, own, tab, set_, below, marks, inv⟩ := R
    have hiv := (inv.good i (by simp)).1
    obtain ⟨A', c', e, hc1, hc2, hIA⟩ := own.form
    simp only [Value.slice.injEq] at e
    obtain ⟨rfl, _, rfl⟩ := e
    obtain ⟨b, off, rfl, hb0, hcell⟩ := hIA.at_ wait'.length (by simp [castL])
    have hci : (castL (wait' ++ [i]))[wait'.length]'(by simp [castL]) = (i : Int) := by simp [castL]
    rw [hci] at hcell
    clear hci hIA
    rw [castL_length] at hc1
    simp only [List.length_append, List.length_cons, List.length_nil, Nat.zero_add] at box own num hc1
    have hsm := inv.small
    have hfew := HT.out.few
    simp only [List.length_append, List.length_cons, List.length_nil, Nat.zero_add] at hsm
    unfold maxLen at hc2
    have c6 := blk_cell box 0 rfl
    have ct := blk_cell tab 1 rfl
    have f6 := blk_froz box 0
    have l6 := blk_lt box
    have BX := Lib.hid box
    have OW := Lib.hid own
    have TB := Lib.hid tab
    have BL := Lib.hid below
    have MK := Lib.hid marks
    have NU := Lib.hid num
    have HI := Lib.hid inv
    clear box own tab below marks num inv
    obtain ⟨X, hX⟩ : ∃ X, X = wr.setCell ⟨g6, 0, none⟩ (.slice (some ⟨b, off, none⟩) wait'.length c) := ⟨_, rfl⟩
    obtain ⟨x6, xs, xo⟩ := set_box BX.out (.slice (some ⟨b, off, none⟩) wait'.length c)
    rw [← hX] at x6 xs xo
    have xset := set_.same (w' := X) (xo _ (by omega))
    have hlk := xset.look (t := 107) int_key Tryd.underlying107 zero_bool (i : Int)
    have X6 := Lib.hid x6
    have XS := Lib.hid xs
    have XO := Lib.hid xo
    have hgX : wr.grownBy X (some g6) := by rw [hX]; exact grown_set BX.out _
    have xown : Own X w.heap.size (.slice (some ⟨b, off, none⟩) wait'.length c) (castL wait') := by
      have h1 := OW.out.kept hgX (.inr (own_type OW.out BX.out (by decide)))
      exact own_cut h1
    have xbl : Below w.heap.size w X := BL.out.grown hgX (by omega) (fun k hk => by cases hk; omega)
    have xmk : Marks w.heap.size ds X := MK.out.keep fun k hk => (XO.out k (fun e => by subst e; rw [BX.out] at hk; cases hk)).trans hk
    have xtab := (XO.out _ (by omega)).trans TB.out
    clear x6 xs xo set_ hgX
    by_cases hin : i ∈ seen
    · rw [decide_eq_true (mem_castL.2 hin), hX] at hlk
      have hsk := Lib.hid (HI.out.skip hin)
      have HX := Lib.hid hX
      have XR : Hid (PastRel w n A cap vs fs g6 (6 * (vs.length - seen.length) + wait'.length) ds X seen wait' (some ⟨b, off, none⟩) c) := ⟨rfl, X6.out, xown, xtab, xset, xbl, xmk, hsk.out⟩
      clear hin hX xset xown xbl xmk xtab
      go_wp2_with fail
      exact ⟨6 * (vs.length - seen.length) + wait'.length, by have := NU.out; omega, ds, _, _, _, _, _, _, _, _, _, _, _, _, _, _, _, _, _, _, _, _, _, _, _, _, _, _, _, _, _, _, _, _, _, _, ⟨seen, wait', _, c, by rw [← HX.out]; exact XR.out⟩, rfl⟩
    · have hroom := HI.out.room hin
      have hpu := Lib.hid (HI.out.push ha hfs hin)
      rw [decide_eq_false (fun h => hin (mem_castL.1 h)), hX] at hlk
      have XN := Lib.hid xown
      have XT := Lib.hid xtab
      have XM := Lib.hid xmk
      have XB := Lib.hid xbl
      have XE := Lib.hid xset
      have HX := Lib.hid hX
      clear hin hX xset xown xbl xmk xtab
      go_wp2_with (at_mapUpdate; refine wpList_add _ rfl _ _ _ _ _ rfl int_key Tryd.underlying107 (w.heap.size + 1) (castL seen) (by rw [← HX.out]; exact XE.out) (i : Int) rfl rfl rfl ?_; intro w1 hset1 hg1
                   rw [← HX.out] at hg1
                   have ct1 := blk_cell ((hg1.block w.heap.size (blk_lt XT.out) (by simp)).trans XT.out) 1 rfl
                   obtain ⟨b', off', rfl, hb1, r0, r1, r2, r3, r4, r5, r6, r7⟩ := (HT.out.rows.keep (XB.out.grown hg1 (by have := XB.out.size; omega) (fun k e => by cases e; omega))).row i hiv
                   have Hset1 := Lib.hid hset1
                   have Hg1 := Lib.hid hg1
                   clear hset1 hg1 hlk)
      have hh := heard_any vs[i] w1
      have hbx := blk_new w1 (.cells vs[i].cells 27)
      have W2 := Lib.hid (BoxIn.start (B := w.heap.size) (g := g6) (xs := castL wait') (w2 := w1.alloc (.cells vs[i].cells 27)) (P := some ⟨b, off, none⟩) (c := c) (by
        rw [castL_length]; exact blk_old ((Hg1.out.block g6 (blk_lt X6.out) (by simp; omega)).trans X6.out) _) (by
        rw [castL_length]; exact (XN.out.kept Hg1.out (by
          right; intro e; obtain ⟨_, h⟩ := own_cells XN.out _ e; obtain ⟨m, es, ck, hm, _⟩ := XE.out; have := h _ hm; cases this)).alloc _))
      have M2 : Hid (Marks w.heap.size ds (w1.alloc (.cells vs[i].cells 27))) := XM.out.keep fun k hk => by
        obtain ⟨m, es, ck, hm, _⟩ := XE.out
        exact blk_old ((Hg1.out.block k (Array.getElem?_eq_some_iff.1 hk).1 (fun e => by cases e; rw [hm] at hk; cases hk)).trans hk) _
      have B2 : Hid (Below w.heap.size w (w1.alloc (.cells vs[i].cells 27))) := (XB.out.grown Hg1.out (by have := XB.out.size; omega) (fun k e => by cases e; omega)).trans ((Below.refl _ _).alloc (by have := XB.out.size; have := Hg1.out.size; omega) _)
      have S2 : Hid (SetAt (Value.int .i64) (w1.alloc (.cells vs[i].cells 27)) (w.heap.size + 1) (castL (i :: seen))) := Hset1.out.same (Below.heap_alloc _ _ _ Hset1.out.lt)
      have T2 := Lib.hid (blk_old ((Hg1.out.block w.heap.size (blk_lt XT.out) (by simp)).trans XT.out) (.cells vs[i].cells 27))
      have hbw : w1.heap.size < (w1.alloc (.cells vs[i].cells 27)).heap.size := by simp
      have hseq := heard1_iter vs[i] w1.heap.size _ hbx
      have hg6w : g6 < w1.heap.size := Nat.lt_of_lt_of_le (blk_lt X6.out) Hg1.out.size
      unfold Vw.cells at hh
      refine hh.mono ?_
      rintro e w2 ⟨rfl, hw2⟩
      have hw2' : w1.alloc (.cells vs[i].cells 27) = w2 := hw2
      rw [hw2'] at W2 M2 B2 S2 T2 hbw hseq hbx
      clear hw2 hw2'
      have hB2 : w.heap.size ≤ w2.heap.size := B2.out.size
      have XX := Lib.hid hseq
      have XY := Lib.hid hbx
      clear hh hseq hbx r0 r1 r2 r3 r4 r5 r6 r7 ct1 c6 f6 l6 ct hcell
      go_wp2_with fail
      refine wp_range rfl (enters_of Tryd.func86 (by kernel_rfl) rfl) XX.out (by rintro k rfl; exact hbw) (fun _ => rfl)
        (fun pre W => BoxIn w.heap.size g6 (castL wait' ++ pre.map fun x => x.1.2) w2 W) (fun _ _ _ => False) (BoxIn.own (castL wait') (fun x : Int × Int => x.2) hB2) (fun _ _ _ _ _ h _ _ => h)
        (by rw [List.map_nil, List.append_nil]; exact W2.out) ?a1 ?assign ?body ?done ?stop
      case assign =>
        intro l x W K hK
        gi_wp2
        exact hK
      case body =>
        intro l pre x W hI hlt
        have hl5 : (heardL vs[i]).length ≤ 5 := by have := kids_length vs[i]; simpa [kids] using this
        have hpl : (castL wait' ++ pre.map fun x => x.1.2).length ≤ 1000000 := by
          rw [List.length_append, castL_length, List.length_map]; omega
        have hsnoc : castL wait' ++ (pre ++ [x]).map (fun x => x.1.2) = (castL wait' ++ pre.map fun x => x.1.2) ++ [x.1.2] := by simp
        obtain ⟨xs, hxs⟩ : ∃ xs, castL wait' ++ pre.map (fun x => x.1.2) = xs := ⟨_, rfl⟩
        rw [hxs] at hI hpl
        obtain ⟨P2, c2, hbx2, ho2⟩ := hI.box
        have q6 := blk_cell hbx2 0 rfl
        have HIb := Lib.hid hI
        have HO := Lib.hid ho2
        have HB2 := Lib.hid hbx2
        have HS := Lib.hid hsnoc
        have HXS := Lib.hid hxs
        clear hI ho2 hbx2 hsnoc hxs
        gi_wp2_with (gi_at_builtin; go_must (refine wpListIn_app1 rfl _ _ rfl w.heap.size (.slice P2 xs.length c2) _ x.1.2 rfl HO.out rfl (by omega) (by have := blk_lt HB2.out; omega) ?_); intro v' w3 hown1 hg3 hb3
                     have h3b := (hg3.block g6 (blk_lt HB2.out) (fun e => own_type HO.out HB2.out (by decide) e.symm)).trans HB2.out
                     have q7 := blk_cell h3b 0 rfl
                     have f7 := blk_froz h3b 0
                     have l7 := blk_lt h3b
                     obtain ⟨A3, k3, rfl, h31, h32, _⟩ := hown1.form
                     have HO3 := Lib.hid hown1
                     have HG3 := Lib.hid hg3
                     clear h3b hown1 hg3 hb3)
        obtain ⟨r1, r2, r3⟩ := HIb.out.push (by omega) HB2.out HO.out HO3.out HG3.out w1.heap.size _ (by omega) XY.out
        simp only [List.length_append, List.length_cons, List.length_nil, Nat.zero_add] at r1 r2 r3
        exact ⟨r1, r2, by dsimp only; rw [HS.out, HXS.out]; exact r3⟩
      case done =>
        intro D ys W hD hys hI hDk
        have hv : getV vs i = vs[i] := getV_eq hiv
        have hl : castL wait' ++ ys.map (fun x => x.1.2) = castL (wait' ++ kids (getV vs i)) := by
          rw [hv, show castL (wait' ++ kids vs[i]) = castL wait' ++ castL (kids vs[i]) from by simp [castL], castL_kids]
          have h2 : ys.map (fun x => x.1.2) = (heardL vs[i]).map (·.2) := by
            have := congrArg (List.map (fun x : Int × Int => x.2)) hys
            rw [← this, List.map_map]; rfl
          rw [h2]
        simp only [hl] at hI
        obtain ⟨P2, c2, hbx2, ho2⟩ := hI.box
        rw [castL_length] at hbx2 ho2
        have hkl := kids_length (getV vs i)
        refine ⟨6 * (vs.length - (i :: seen).length) + (wait' ++ kids (getV vs i)).length, by have := NU.out; simp only [List.length_cons, List.length_append]; omega, _, _, _, _, _, _, _, _, _, _, _, _, _, _, _, _, _, _, _, _, _, _, _, _, _, _, _, _, _, _, _, _, _, _, _, ⟨i :: seen, wait' ++ kids (getV vs i), P2, c2, ⟨rfl, hbx2, ho2, hI.rest _ _ _ T2.out (by decide) (by omega), S2.out.non hI.non, B2.out.trans hI.non.below, M2.out.cons (hI.non.same · _ · rfl) hB2 hD hDk, hpu.out⟩⟩, rfl⟩
      case stop =>
        intro D c pre W _ _ h
        exact h.elim
end Go.Proofs.YtdfnmapmnmecnaaDoor

/- views.check: the first half: the plain law of its ways out. -/
namespace Go.Proofs.YtdfnmapmnmecnaaDoor
open Go.RowKit Go.Shelf

theorem checkE_beg {n : Int} {vs : List Vw} {v : Vw} (h : begE n v ≠ 0 ∨ v.r = 0) : checkE n vs v = begE n v := by unfold checkE; rw [if_pos h]
theorem checkE_link {n : Int} {vs : List Vw} {v : Vw} (h1 : begE n v = 0) (h2 : v.r ≠ 0) (h : fstE (linkE vs v) 5 ≠ 0) : checkE n vs v = fstE (linkE vs v) 5 := by
  unfold checkE; rw [if_neg (by simp [h1, h2]), if_pos h]
theorem checkE_gap {n : Int} {vs : List Vw} {v : Vw} (h1 : begE n v = 0) (h2 : v.r ≠ 0) (h : fstE (linkE vs v) 5 = 0) (hg : v.h v.p.toNat = -1) : checkE n vs v = 20 := by
  unfold checkE; rw [if_neg (by simp [h1, h2]), if_neg (by simp [h]), if_pos hg]
theorem checkE_cons {n : Int} {vs : List Vw} {v : Vw} (h1 : begE n v = 0) (h2 : v.r ≠ 0) (h : fstE (linkE vs v) 5 = 0) (hg : v.h v.p.toNat ≠ -1) : checkE n vs v = if consB vs (pastL vs (kids v)) = true then 0 else 22 := by
  unfold checkE; rw [if_neg (by simp [h1, h2]), if_neg (by simp [h]), if_neg hg]
theorem kids_of_link {vs : List Vw} {v : Vw} (h : fstE (linkE vs v) 5 = 0) : ∀ c, c ∈ kids v → c < vs.length := fun c hc => by
  obtain ⟨_, q, hq, h0, rfl⟩ := mem_kids.1 hc
  exact (linkE_ok (fstE_zero.1 h q hq) (by omega)).2.1

/-- The places that were seen. -/
def placeOf (vs : List Vw) (i : Nat) : Int × Int := ((getV vs i).p, (getV vs i).r)
structure PlaceInv (vs : List Vw) (l : List Nat) (k : Nat) (S : List (Int × Int)) : Prop where
  mem : ∀ p, p ∈ S ↔ ∃ j, j < k ∧ p = placeOf vs (l.getD j 0)
  apart : ∀ a b, b < a → a < k → clash vs (l.getD b 0) (l.getD a 0) = false
theorem PlaceInv.start (vs : List Vw) (l : List Nat) : PlaceInv vs l 0 [] := ⟨fun p => by simp, fun a b _ h => by omega⟩
theorem clash_iff {vs : List Vw} {a b : Nat} : clash vs a b = true ↔ placeOf vs a = placeOf vs b := by
  unfold clash placeOf
  simp [Prod.ext_iff]
theorem PlaceInv.step {vs : List Vw} {l : List Nat} {k : Nat} {S : List (Int × Int)} (h : PlaceInv vs l k S) (hn : placeOf vs (l.getD k 0) ∉ S) : PlaceInv vs l (k + 1) (placeOf vs (l.getD k 0) :: S) where
  mem := fun p => by
    simp only [List.mem_cons, h.mem]
    constructor
    · rintro (rfl | ⟨j, hj, rfl⟩)
      · exact ⟨k, by omega, rfl⟩
      · exact ⟨j, by omega, rfl⟩
    · rintro ⟨j, hj, rfl⟩
      by_cases e : j = k
      · subst e; exact .inl rfl
      · exact .inr ⟨j, by omega, rfl⟩
  apart := fun a b hb ha => by
    by_cases e : a = k
    · subst e
      cases hc : clash vs (l.getD b 0) (l.getD a 0) with
      | false => rfl
      | true => exact absurd ((h.mem _).2 ⟨b, hb, (clash_iff.1 hc).symm⟩) hn
    · exact h.apart a b hb (by omega)
theorem PlaceInv.bad {vs : List Vw} {l : List Nat} {k : Nat} {S : List (Int × Int)} (h : PlaceInv vs l k S) (hk : k < l.length) (hn : placeOf vs (l.getD k 0) ∈ S) : ¬ consB vs l = true := by
  intro hc
  obtain ⟨j, hj, e⟩ := (h.mem _).1 hn
  have := consB_iff.1 hc k j hj hk
  rw [clash_iff.2 e.symm] at this
  cases this
theorem PlaceInv.fine {vs : List Vw} {l : List Nat} {S : List (Int × Int)} (h : PlaceInv vs l l.length S) : consB vs l = true := consB_iff.2 fun a b hb ha => h.apart a b hb ha

theorem twoboxes (w : World) (c1 c2 : Array Value) (t1 t2 : TypeId) : ∃ W0, (w.alloc (.cells c1 t1)).alloc (.cells c2 t2) = W0 ∧ W0.heap[w.heap.size]? = some (.cells c1 t1 (0, 0)) ∧ W0.heap[w.heap.size + 1]? = some (.cells c2 t2 (0, 0)) ∧ W0.heap.size = w.heap.size + 2 ∧ Below w.heap.size w W0 :=
  ⟨_, rfl, blk_old (blk_new _ _) _, by have := blk_new (w.alloc (.cells c1 t1)) (.cells c2 t2); rwa [World.size_alloc] at this, by simp, bel2 w _ _⟩
end Go.Proofs.YtdfnmapmnmecnaaDoor

/- views.check. -/
namespace Go.Proofs.YtdfnmapmnmecnaaDoor
open Go.RowKit Go.Shelf

attribute [local go_sem] Oper.semAt_some

theorem grown_below {w w' : World} (h : Below w.heap.size w w') {row : Option Nat} : w.grownBy w' row := ⟨h.os, h.tape, h.output, h.size, fun k hk _ => h.block k hk⟩
set_option maxRecDepth 100000 in
set_option maxHeartbeats 4000000 in
theorem check_any (n : Nat) (A : Option Addr) (cap : Nat) (vs : List Vw) (v : Vw) (w : World) (hT : TArg w A cap vs) (hw : Wf (n : Int) vs) :
    Calls Tryd.prog 40 #[.agg #[.int .i64 n, .slice A vs.length cap], .agg v.cells] w fun e w' => e = .returned (.int .i64 (checkE n vs v)) ∧ Below w.heap.size w w' := by
  have hmm := @run_makeMap Tryd.prog
  have HT := Lib.hid hT
  have HW := Lib.hid hw
  have hfew := hT.few
  have hch := v.cells_h
  have hbeg := beginning_any n v
  clear hT hw
  refine calls_of_marks Tryd.func40 rfl ?_
  simp only [Tryd.ntmps40, List.size_toArray, List.length_cons, List.length_nil, Nat.reduceAdd, Nat.reduceSub, Array.replicate_succ, Array.replicate_zero, List.push_toArray, List.append_toArray, List.nil_append, List.cons_append]
  unfold Vw.cells at hch hbeg ⊢
  have HCH := Lib.hid hch
  clear hch
  go_wp2_with fail
  obtain ⟨W0, hW0, b0, b1, hsz, hB0⟩ := twoboxes w #[.int .i64 n, .slice A vs.length cap] v.cells 24 27
  unfold Vw.cells at hW0 b1
  rw [hW0]
  clear hW0
  refine (hbeg W0).mono ?_
  rintro e w1 ⟨rfl, hb⟩
  have d0 := (hb.block _ (by omega)).trans b0
  have d1 := (hb.block _ (by omega)).trans b1
  have B1 : Hid (Below w.heap.size w w1) := hB0.trans (hb.mono (by omega))
  have l1 : w.heap.size + 1 < w1.heap.size := by have := hb.size; omega
  clear hbeg b0 b1 hsz hB0 hb
  have c0 := blk_cell d0 1 rfl
  have c1 := blk_cell d1 1 rfl
  have D0 := Lib.hid d0
  have D1 := Lib.hid d1
  clear d0 d1
  by_cases hb0 : begE n v = 0
  · have e0 : (begE n v != 0) = false := by simp [hb0]
    by_cases hr : v.r = 0
    · have e1 : (v.r == 0) = true := by simp [hr]
      have hz := Lib.hid (checkE_beg (n := n) (vs := vs) (v := v) (.inr hr))
      clear hb0 hr
      go_wp2_with fail
      (try simp only [Exit.inBlock, Exit.then])
      refine ret_marks (Marks.nil w.heap.size _) (v := .int .i64 (begE n v)) (fun W => by kernel_rfl) ?_
      intro W hS
      exact ⟨ret_int hz.out.symm, B1.out.trans (hS.below)⟩
    · have e1 : (v.r == 0) = false := by simp [hr]
      have hbo := begE_ok hb0
      have HB := Lib.hid hb0
      have HR := Lib.hid hr
      clear hb0 hr
      have c3 := blk_cell D1.out 3 rfl
      have c4 := blk_cell D1.out 4 rfl
      have c5 := blk_cell D1.out 5 rfl
      have c6 := blk_cell D1.out 6 rfl
      have c7 := blk_cell D1.out 7 rfl
      go_wp2_with fail
      go_loopw [29] (fun i wr => ∃ k m : Nat, k ≤ 5 ∧ i = .int .i64 k ∧ wr = w1.drewN m ∧ Hid (fstE (linkE vs v) k = 0)) (fun i _ => 5 - (intOf i).toNat)
      case atStart => exact ⟨0, 0, by omega, rfl, rfl, rfl⟩
      case round =>
        obtain ⟨k, m, hk, rfl, rfl, hall⟩ := hrel
        by_cases hlt : k < 5
        · have hix := arr_index v k hlt
          by_cases hm : v.h k = -1
          · have e2 : (v.h k == -1) = true := by simp [hm]
            have hz : Hid (fstE (linkE vs v) (k + 1) = 0) := by show fstE (linkE vs v) (k + 1) = 0; rw [fstE_step hall.out]; simp [linkE, hm]
            clear hm
            go_wp2_with fail
            go_roundw
            case rel => exact ⟨k + 1, _, by omega, by go_num, rfl, hz⟩
            case measure => simp [intOf]; omega
          · have e2 : (v.h k == -1) = false := by simpa using hm
            by_cases hb : v.h k < 0 ∨ (vs.length : Int) ≤ v.h k
            · have hz : Hid (fstE (linkE vs v) 5 = 6) := by
                show fstE (linkE vs v) 5 = 6
                have hb' : linkE vs v k = 6 := by unfold linkE; rw [if_neg hm, if_pos hb]
                rw [fstE_hit hall.out (by rw [hb']; decide) hlt, hb']
              clear hm
              rcases hb with hb | hb
              · go_wp2_with fail
                (try simp only [Exit.inBlock, Exit.then])
                refine ret_marks (Marks.nil w.heap.size _) (v := .int .i64 6) (fun W => by kernel_rfl) ?_
                intro W hS
                exact ⟨ret_int (by rw [checkE_link HB.out HR.out (by rw [hz.out]; decide), hz.out]), by first | exact (belN B1.out _).trans hS.below | exact (belN (belN B1.out _) _).trans hS.below⟩
              · have hb1 : ¬ v.h k < 0 := by omega
                go_wp2_with fail
                (try simp only [Exit.inBlock, Exit.then])
                refine ret_marks (Marks.nil w.heap.size _) (v := .int .i64 6) (fun W => by kernel_rfl) ?_
                intro W hS
                exact ⟨ret_int (by rw [checkE_link HB.out HR.out (by rw [hz.out]; decide), hz.out]), by first | exact (belN B1.out _).trans hS.below | exact (belN (belN B1.out _) _).trans hS.below⟩
            · obtain ⟨j, hj⟩ := Int.eq_ofNat_of_zero_le (show 0 ≤ v.h k by omega)
              have hjl : j < vs.length := by omega
              rw [hj] at hix e2
              have hlk : linkE vs v k = if vs[j].p ≠ (k : Int) ∨ vs[j].r ≠ v.r - 1 then 22 else 0 := by
                unfold linkE
                rw [if_neg hm, if_neg (by omega), hj, Int.toNat_natCast, getV_eq hjl]
              obtain ⟨b, off, rfl, hb1, r0, r1, _⟩ := (HT.out.rows.keep B1.out).row j hjl
              have hb2 : b < w1.heap.size := by omega
              clear hb hm hj c3 c4 c5 c6 c7
              by_cases hpk : vs[j].p = (k : Int)
              · by_cases hrk : vs[j].r = v.r - 1
                · have hz : Hid (fstE (linkE vs v) (k + 1) = 0) := by
                    show fstE (linkE vs v) (k + 1) = 0
                    rw [fstE_step hall.out, hlk, if_neg (by omega)]
                  have e3 : (vs[j].p != (k : Int)) = false := by simp [hpk]
                  have e4 : (vs[j].r != v.r - 1) = false := by simp [hrk]
                  clear hlk hpk hrk
                  go_wp2_with fail
                  go_quiet (fail)
                  go_wp2_with fail
                  go_roundw
                  case rel => exact ⟨k + 1, _, by omega, by go_num, rfl, hz⟩
                  case measure => simp [intOf]; omega
                · have hz : Hid (fstE (linkE vs v) 5 = 22) := by
                    show fstE (linkE vs v) 5 = 22
                    have hb' : linkE vs v k = 22 := by rw [hlk, if_pos (.inr hrk)]
                    rw [fstE_hit hall.out (by rw [hb']; decide) hlt, hb']
                  have e3 : (vs[j].p != (k : Int)) = false := by simp [hpk]
                  have e4 : (vs[j].r != v.r - 1) = true := by simpa using hrk
                  clear hlk hpk hrk
                  go_wp2_with fail
                  go_quiet (fail)
                  go_wp2_with fail
                  (try simp only [Exit.inBlock, Exit.then])
                  refine ret_marks (Marks.nil w.heap.size _) (v := .int .i64 22) (fun W => by kernel_rfl) ?_
                  intro W hS
                  exact ⟨ret_int (by rw [checkE_link HB.out HR.out (by rw [hz.out]; decide), hz.out]), by first | exact (belN B1.out _).trans hS.below | exact (belN (belN B1.out _) _).trans hS.below⟩
              · have hz : Hid (fstE (linkE vs v) 5 = 22) := by
                  show fstE (linkE vs v) 5 = 22
                  have hb' : linkE vs v k = 22 := by rw [hlk, if_pos (.inl hpk)]
                  rw [fstE_hit hall.out (by rw [hb']; decide) hlt, hb']
                have e3 : (vs[j].p != (k : Int)) = true := by simpa using hpk
                clear hlk hpk
                go_wp2_with fail
                go_quiet (fail)
                go_wp2_with fail
                (try simp only [Exit.inBlock, Exit.then])
                refine ret_marks (Marks.nil w.heap.size _) (v := .int .i64 22) (fun W => by kernel_rfl) ?_
                intro W hS
                exact ⟨ret_int (by rw [checkE_link HB.out HR.out (by rw [hz.out]; decide), hz.out]), by first | exact (belN B1.out _).trans hS.below | exact (belN (belN B1.out _) _).trans hS.below⟩
        · obtain rfl : k = 5 := by omega
          obtain ⟨wa, hwa⟩ : ∃ wa, w1.drewN m = wa := ⟨_, rfl⟩
          have A0 : Hid (wa.heap[w.heap.size]? = some (.cells #[.int .i64 n, .slice A vs.length cap] 24 (0, 0))) := by rw [← hwa]; exact D0.out
          have A1 : Hid (wa.heap[w.heap.size + 1]? = some (.cells v.cells 27 (0, 0))) := by rw [← hwa]; exact D1.out
          have AB : Hid (Below w.heap.size w wa) := by rw [← hwa]; exact belN B1.out m
          have la : w.heap.size + 1 < wa.heap.size := by rw [← hwa]; exact l1
          rw [hwa]
          clear hwa c0 c1 c3 c4 c5 c6 c7 D0 D1 B1 l1
          obtain ⟨q, hq0⟩ := Int.eq_ofNat_of_zero_le hbo.1
          have hq5 : q < 5 := by have := hbo.2.1; have := HW.out.2.1; omega
          have hq := blk_cell A1.out (3 + q) (v.cells_h q hq5)
          have c0 : wa.cell? ⟨w.heap.size + 1, 0, none⟩ = some (.int .i64 (q : Int)) := by rw [← hq0]; exact blk_cell A1.out 0 rfl
          have HQ := Lib.hid hq0
          have hqt : v.p.toNat = q := by omega
          by_cases hg : v.h q = -1
          · have e2 : (v.h q == -1) = true := by simp [hg]
            have hz := Lib.hid (checkE_gap HB.out HR.out hall.out (by rw [hqt]; exact hg))
            clear hg hq0 hbo
            go_wp2_with fail
            (try simp only [Exit.inBlock, Exit.then])
            refine ret_marks (Marks.nil w.heap.size _) (v := .int .i64 20) (fun W => by kernel_rfl) ?_
            intro W hS
            exact ⟨ret_int (hz.out.symm), AB.out.trans hS.below⟩
          · have e2 : (v.h q == -1) = false := by simpa using hg
            have hz := Lib.hid (checkE_cons HB.out HR.out hall.out (by rw [hqt]; exact hg))
            have hlk := hall.out
            have hp : v.p = (q : Int) := hq0
            have hkl := Lib.hid (kids_of_link hall.out)
            have hh := heard_any v
            have v0 : wa.cell? ⟨w.heap.size + 1, 0, none⟩ = some (.int .i64 v.p) := blk_cell A1.out 0 rfl
            have v1 := blk_cell A1.out 1 rfl
            have v2 := blk_cell A1.out 2 rfl
            have v3 := blk_cell A1.out 3 rfl
            have v4 := blk_cell A1.out 4 rfl
            have v5 := blk_cell A1.out 5 rfl
            have v6 := blk_cell A1.out 6 rfl
            have v7 := blk_cell A1.out 7 rfl
            have VV := Lib.hid (And.intro v0 (And.intro v1 (And.intro v2 (And.intro v3 (And.intro v4 (And.intro v5 (And.intro v6 v7)))))))
            clear v0 v1 v2 v3 v4 v5 v6 v7 hh hp hlk
            clear hg hq0 hbo
            go_upto_region 16 with fail
            obtain ⟨v0, v1, v2, v3, v4, v5, v6, v7⟩ := VV.out
            clear hq c0 HCH
            go_wp2_with fail
            obtain ⟨g8, hg8⟩ : ∃ g8, g8 = wa.heap.size := ⟨_, rfl⟩
            have hh := heard_any v (wa.alloc (.cells #[.slice none 0 0] 37))
            have o8 := blk_old (blk_new wa (.cells #[.slice none 0 0] 37)) (.cells v.cells 27)
            have o9 := blk_new (wa.alloc (.cells #[.slice none 0 0] 37)) (.cells v.cells 27)
            have oB : Below w.heap.size w ((wa.alloc (.cells #[.slice none 0 0] 37)).alloc (.cells v.cells 27)) := AB.out.trans ((bel2 wa _ _).mono AB.out.size)
            have o0 := blk_old (blk_old A0.out (.cells #[.slice none 0 0] 37)) (.cells v.cells 27)
            simp only [World.size_alloc] at hh o9
            rw [← hg8] at hh o8 o9 la ⊢
            refine hh.mono ?_
            rintro e wb ⟨rfl, hwb⟩
            rw [hwb] at o8 o9 oB o0
            have hbw : g8 + 1 < wb.heap.size := blk_lt o9
            clear hwb hh hg8 v0 v1 v2 v3 v4 v5 v6 v7 VV A0 A1 AB
            have XX := Lib.hid (heard1_iter v (g8 + 1) wb o9)
            have XY := Lib.hid o9
            have X0 := Lib.hid o0
            have XB := Lib.hid oB
            have hBb : w.heap.size ≤ wb.heap.size := oB.size
            have W2 := Lib.hid (BoxIn.start (B := w.heap.size) (g := g8) (xs := []) (w2 := wb) o8 (Own.nil _ _))
            clear o8 o9 o0 oB
            go_wp2_with fail
            refine wp_range rfl (enters_of Tryd.func86 (by kernel_rfl) rfl) XX.out (by rintro k rfl; exact hbw) (fun _ => rfl)
              (fun pre W => BoxIn w.heap.size g8 (([] : List Int) ++ pre.map fun x : { x // x ∈ heardL v } => x.1.2) wb W) (fun _ _ _ => False) (BoxIn.own [] (fun x : Int × Int => x.2) hBb) (fun _ _ _ _ _ h _ _ => h)
              W2.out ?a1 ?assign ?body ?done ?stop
            case assign =>
              intro l x W K hK
              gi_wp2
              exact hK
            case body =>
              intro l pre x W hI hlt
              have hl5 : (heardL v).length ≤ 5 := by have := kids_length v; simpa [kids] using this
              have hpl : (([] : List Int) ++ pre.map fun x : { x // x ∈ heardL v } => x.1.2).length ≤ 1000000 := by
                rw [List.length_append, List.length_map]; simp; omega
              have hsnoc : ([] : List Int) ++ (pre ++ [x]).map (fun x : { x // x ∈ heardL v } => x.1.2) = (([] : List Int) ++ pre.map fun x : { x // x ∈ heardL v } => x.1.2) ++ [x.1.2] := by simp
              obtain ⟨xs, hxs⟩ : ∃ xs, ([] : List Int) ++ pre.map (fun x : { x // x ∈ heardL v } => x.1.2) = xs := ⟨_, rfl⟩
              rw [hxs] at hI hpl
              obtain ⟨P2, c2, hbx2, ho2⟩ := hI.box
              have q6 := blk_cell hbx2 0 rfl
              have HIb := Lib.hid hI
              have HO := Lib.hid ho2
              have HB2 := Lib.hid hbx2
              have HS := Lib.hid hsnoc
              have HXS := Lib.hid hxs
              clear hI ho2 hbx2 hsnoc hxs
              gi_wp2_with (gi_at_builtin; go_must (refine wpListIn_app1 rfl _ _ rfl w.heap.size (.slice P2 xs.length c2) _ x.1.2 rfl HO.out rfl (by omega) (by have := blk_lt HB2.out; omega) ?_); intro v' w3 hown1 hg3 hb3
                           have h3b := (hg3.block g8 (blk_lt HB2.out) (fun e => own_type HO.out HB2.out (by decide) e.symm)).trans HB2.out
                           have q7 := blk_cell h3b 0 rfl
                           have f7 := blk_froz h3b 0
                           have l7 := blk_lt h3b
                           obtain ⟨A3, k3, rfl, h31, h32, _⟩ := hown1.form
                           have HO3 := Lib.hid hown1
                           have HG3 := Lib.hid hg3
                           clear h3b hown1 hg3 hb3)
              obtain ⟨r1, r2, r3⟩ := HIb.out.push (by omega) HB2.out HO.out HO3.out HG3.out (g8 + 1) _ (by omega) XY.out
              simp only [List.length_append, List.length_cons, List.length_nil, Nat.zero_add] at r1 r2 r3
              exact ⟨r1, r2, by dsimp only; rw [HS.out, HXS.out]; exact r3⟩
            case stop =>
              intro D c pre W _ _ h
              exact h.elim
            case done =>
              intro D ys W hD hys hI hDk
              have hl : ([] : List Int) ++ ys.map (fun x : { x // x ∈ heardL v } => x.1.2) = castL (kids v) := by
                rw [castL_kids]
                have := congrArg (List.map (fun x : Int × Int => x.2)) hys
                rw [← this, List.map_map]; rfl
              simp only [hl] at hI
              obtain ⟨P2, c2, hbx2, ho2⟩ := hI.box
              obtain ⟨A2', c2', e, hc1, hc2, hIA⟩ := ho2.form
              simp only [Value.slice.injEq] at e
              obtain ⟨rfl, _, rfl⟩ := e
              rw [castL_length] at hbx2 ho2
              have M1 := Lib.hid ((Marks.nil w.heap.size wb).cons (hI.non.same · _ · rfl) hBb hD hDk)
              have T1 := hI.rest _ _ _ X0.out (by decide) (by omega)
              have q8 := blk_cell hbx2 0 rfl
              have q0 := blk_cell T1 0 rfl
              have q1 := blk_cell T1 1 rfl
              have B2 := Lib.hid (XB.out.trans hI.non.below)
              have lt0 := blk_lt T1
              have lt8 := blk_lt hbx2
              have TT := Lib.hid T1
              have IA := Lib.hid hIA
              clear hI hbx2 ho2 hIA T1 W2
              go_wp2_with fail
              obtain ⟨gm, hgm⟩ : ∃ gm, gm = W.heap.size := ⟨_, rfl⟩
              have m0 := SetAt.made plEnc W
              have mB : Below w.heap.size w (W.alloc (.map #[] 0)) := B2.out.trans ((Below.refl _ _).alloc B2.out.size _)
              have mT := blk_old TT.out (.map #[] 0)
              have mI := IA.out.up ((Below.refl _ W).alloc (Nat.le_refl _) (.map #[] 0))
              have mM : Marks w.heap.size _ (W.alloc (.map #[] 0)) := M1.out.keep fun k hk => blk_old hk _
              have hsz : (W.alloc (.map #[] 0)).heap.size = gm + 1 := by simp [hgm]
              obtain ⟨Wm, hWm⟩ : ∃ Wm, W.alloc (.map #[] 0) = Wm := ⟨_, rfl⟩
              rw [← hgm, hWm] at m0
              rw [hWm] at mB mT mI mM hsz
              rw [← hgm] at lt0 lt8 ⊢
              rw [hWm]
              have hpast := past_any n A P2 cap c2 vs (kids v) Wm (HT.out.keep mB) HW.out.acyc mI hkl.out (by have := kids_length v; omega)
              refine hpast.mono ?_
              rintro e W3 ⟨v3, rfl, ho3, hb3⟩
              obtain ⟨P3, c3, rfl, hc31, hc32, hI3⟩ := ho3.form
              rw [castL_length] at hc31 ho3
              have s3 := m0.kept hb3 (by omega)
              have T3 := Lib.hid ((hb3.block _ (by omega)).trans mT)
              have B3 := Lib.hid (mB.trans (hb3.mono (by omega)))
              have M3 : Hid (Marks w.heap.size [{ target := Target.collected D, args := #[] }] W3) := mM.keep fun k hk => (hb3.block k (Array.getElem?_eq_some_iff.1 hk).1).trans hk
              have O3 := Lib.hid ho3
              have I3 := Lib.hid hI3
              have sz3 : gm + 1 ≤ W3.heap.size := by have := hb3.size; omega
              have hll : (pastL vs (kids v)).length ≤ vs.length := by have := past_len vs (kids v); rwa [castL_length] at this
              have hmem := Lib.hid (fun x (hx : x ∈ pastL vs (kids v)) => (mem_pastL.1 hx).1)
              obtain ⟨ls, hls⟩ : ∃ ls, pastL vs (kids v) = ls := ⟨_, rfl⟩
              rw [castL_length, hls]
              rw [hls] at hc31 hz I3 O3 hll hmem
              have HSZ := Lib.hid hsz
              clear hls hpast m0 mB mT mI mM hb3 ho3 hI3 hWm hgm hsz q0 q1 q8
              go_wp2_with fail
              go_loopw [87] (fun i wr => ∃ (k : Nat) (S : List (Int × Int)), k ≤ ls.length ∧ i = .int .i64 k ∧ SetAt plEnc wr gm S ∧ Hid (PlaceInv vs ls k S) ∧ W3.grownBy wr (some gm)) (fun i _ => ls.length - (intOf i).toNat)
              case atStart => exact ⟨0, [], by omega, rfl, s3, PlaceInv.start _ _, World.grownBy.refl _ _⟩
              case round =>
                obtain ⟨k, S, hk, rfl, hset, hinv, hgr⟩ := hrel
                have BW : Hid (Below w.heap.size w wr) := B3.out.grown hgr (by have := B3.out.size; omega) (fun k e => by cases e; omega)
                have MW : Hid (Marks w.heap.size [{ target := Target.collected D, args := #[] }] wr) := M3.out.keep fun k hk => by
                  obtain ⟨_, es, ck, hm, _⟩ := s3
                  exact (hgr.block k (Array.getElem?_eq_some_iff.1 hk).1 (fun e => by cases e; rw [hm] at hk; cases hk)).trans hk
                by_cases hlt : k < ls.length
                · have hx := hmem.out ls[k] (List.getElem_mem hlt)
                  obtain ⟨x, hxk⟩ : ∃ x, ls[k] = x := ⟨_, rfl⟩
                  rw [hxk] at hx
                  have hlen : (castL ls).length = ls.length := castL_length ls
                  obtain ⟨b3, off3, rfl, hb3, hc3⟩ := I3.out.at_ k (by omega)
                  have hge : gm + 1 ≤ b3 := by have := (O3.out.lt b3 rfl).1; have := HSZ.out; omega
                  have hcx : (castL ls)[k]'(by omega) = (x : Int) := by simp [castL, hxk]
                  rw [hcx] at hc3
                  have r3 := (World.cell?_of_block (hgr.block b3 hb3 (by simp; omega))).trans hc3
                  obtain ⟨b, off, rfl, hbb, c0, c1, _⟩ := (HT.out.rows.keep BW.out).row x hx
                  have t1 := blk_cell ((hgr.block w.heap.size (blk_lt T3.out) (by simp; omega)).trans T3.out) 1 rfl
                  have hbx : b < wr.heap.size := by have := BW.out.size; omega
                  have hbt : w.heap.size < wr.heap.size := by have := hgr.size; omega
                  have hs0 : (0 : Int) ≤ (x : Int) := by omega
                  have hs1 : (x : Int) < (vs.length : Int) := by omega
                  have HSET := Lib.hid hset
                  have HGR := Lib.hid hgr
                  have S3 := Lib.hid s3
                  have hgd : ls.getD k 0 = x := by rw [List.getD_eq_getElem?_getD, List.getElem?_eq_getElem hlt]; exact hxk
                  have HGD := Lib.hid hgd
                  have HXK := Lib.hid hxk
                  have HV := Lib.hid (getV_eq hx)
                  clear hset hgr s3 hgd hxk hlen hcx hc3
                  go_upto_region 23 with fail
                  go_cut [14] from 91 to 103 (fun s14 wx => ∃ g : Nat, s14 = .pointer (some ⟨g, 0, none⟩) ∧ wx.cell? ⟨g, 0, none⟩ = some (.int .i64 vs[x].p) ∧ wx.cell? ⟨g, 1, none⟩ = some (.int .i64 vs[x].r) ∧ Below wr.heap.size wr wx)
                  case first =>
                    clear r3 HT HW HR HB M1 B2 TT IA T3 B3 M3 O3 I3 hmem HSET HGR S3 HGD HXK HV hinv BW MW hz hkl XX XY X0 XB hall HQ
                    have t1' : wr.cell? ⟨w.heap.size, 1, none⟩ = some (.slice (some ⟨b, off, none⟩) vs.length cap) := t1
                    clear t1
                    go_region_held3 (fun w' => w'.cell? ⟨w.heap.size, 1, none⟩ = some (.slice (some ⟨b, off, none⟩) vs.length cap) ∧ w'.cell? ⟨b, off + x * 8, none⟩ = some (.int .i64 vs[x].p) ∧ w'.cell? ⟨b, off + x * 8 + 1, none⟩ = some (.int .i64 vs[x].r))
                      (first | exact ⟨t1', c0, c1⟩ | exact ⟨(World.cell?_alloc_lt _ _ _ hbt).trans t1', (World.cell?_alloc_lt _ _ _ hbx).trans c0, (World.cell?_alloc_lt _ _ _ hbx).trans c1⟩)
                      (fail)
                    all_goals
                      go_wp2_with fail
                      go_meet
                    all_goals
                      exact ⟨wr.heap.size, rfl, by simp [go_sem], by simp [go_sem], (bel1 wr _).drew⟩
                  case rest =>
                    obtain ⟨g, rfl, x0, x1, hbz⟩ := hcut
                    have xset := HSET.out.kept hbz HSET.out.lt
                    have hlk := xset.look (t := 101) place_key Tryd.underlying101 zero_bool (vs[x].p, vs[x].r)
                    unfold plEnc at hlk
                    dsimp only at hlk
                    have hpl : placeOf vs (ls.getD k 0) = (vs[x].p, vs[x].r) := by rw [HGD.out]; unfold placeOf; rw [HV.out]
                    have BX : Hid (Below w.heap.size w wc) := BW.out.trans (hbz.mono BW.out.size)
                    have MX : Hid (Marks w.heap.size [{ target := Target.collected D, args := #[] }] wc) := MW.out.keep fun k hk => (hbz.block k (Array.getElem?_eq_some_iff.1 hk).1).trans hk
                    have HBZ := Lib.hid hbz
                    by_cases hin : (vs[x].p, vs[x].r) ∈ S
                    · have hy : Hid (checkE (n : Int) vs v = 22) := by
                        show checkE (n : Int) vs v = 22
                        rw [hz.out, if_neg (hinv.out.bad hlt (by rw [hpl]; exact hin))]
                      simp only [hin, decide_true] at hlk
                      clear hin hpl hbz xset c0 c1 t1 r3
                      go_wp2_with fail
                      (try simp only [Exit.inBlock, Exit.then])
                      refine ret_marks MX.out (v := .int .i64 22) (fun W => by kernel_rfl) ?_
                      intro W hS
                      exact ⟨ret_int hy.out.symm, BX.out.trans hS.below⟩
                    · have hst : Hid (PlaceInv vs ls (k + 1) ((vs[x].p, vs[x].r) :: S)) := by
                        have := hinv.out.step (by rw [hpl]; exact hin)
                        rw [hpl] at this
                        exact this
                      simp only [hin, decide_false] at hlk
                      have XSET := Lib.hid xset
                      clear hin hpl hbz xset c0 c1 t1 r3
                      go_wp2_with (at_mapUpdate; refine wpList_add _ rfl _ _ _ _ _ rfl place_key Tryd.underlying101 gm S XSET.out (vs[x].p, vs[x].r) rfl rfl rfl ?_; intro w5 hset5 hg5)
                      go_roundw
                      case rel => exact ⟨k + 1, (vs[x].p, vs[x].r) :: S, by omega, by go_num, hset5, hst, HGR.out.trans ((grown_below HBZ.out).trans hg5)⟩
                      case measure => simp [intOf]; omega
                · obtain rfl : k = ls.length := by omega
                  have hy : Hid (checkE (n : Int) vs v = 0) := by show checkE (n : Int) vs v = 0; rw [hz.out, if_pos hinv.out.fine]
                  have BW' := BW
                  go_wp2_with fail
                  (try simp only [Exit.inBlock, Exit.then])
                  refine ret_marks MW.out (v := .int .i64 0) (fun W => by kernel_rfl) ?_
                  intro W hS
                  exact ⟨ret_int hy.out.symm, BW.out.trans hS.below⟩
  · have e0 : (begE n v != 0) = true := by simpa using hb0
    have hz := Lib.hid (checkE_beg (n := n) (vs := vs) (v := v) (.inl hb0))
    clear hb0
    go_wp2_with fail
    (try simp only [Exit.inBlock, Exit.then])
    refine ret_marks (Marks.nil w.heap.size _) (v := .int .i64 (begE n v)) (fun W => by kernel_rfl) ?_
    intro W hS
    exact ⟨ret_int (hz.out.symm), B1.out.trans hS.below⟩
end Go.Proofs.YtdfnmapmnmecnaaDoor

/- ref22.first, later, Index. -/
namespace Go.Proofs.YtdfnmapmnmecnaaDoor
open Go.RowKit

def firstBad (v : Vw) (q : Nat) : Int := if v.h q ≠ -1 then 3 else 0
def firstE (v : Vw) : Int := if v.i < 0 ∨ 8 ≤ v.i then 2 else fstE (firstBad v) 5

set_option maxRecDepth 100000 in
set_option maxHeartbeats 1000000 in
theorem first_any (v : Vw) (w : World) : Calls Tryd.prog 65 #[.agg v.cells] w fun e w' => e = .returned (.int .i64 (firstE v)) ∧ Below w.heap.size w w' := by
  have HB := bel1 w
  have H : Hid (firstE v = if v.i < 0 ∨ 8 ≤ v.i then 2 else fstE (firstBad v) 5) := rfl
  have hch := v.cells_h
  unfold Vw.cells at hch ⊢
  have HC := Lib.hid hch
  clear hch
  by_cases hi : v.i < 0 ∨ 8 ≤ v.i
  · go_enter Tryd.func65, Tryd.ntmps65
    go_wp2
    all_goals
      go_ret
      exact ⟨ret_int (by rw [H.out, if_pos hi]), HB _⟩
  · have hi0 : 0 ≤ v.i := by omega
    have hi1 : v.i < 8 := by omega
    go_enter Tryd.func65, Tryd.ntmps65
    go_wp2
    go_loop [3] (fun i => ∃ k : Nat, k ≤ 5 ∧ i = .int .i64 k ∧ Hid (fstE (firstBad v) k = 0)) (fun i => 5 - (intOf i).toNat)
    case atStart => exact ⟨0, by omega, rfl, rfl⟩
    case round =>
      obtain ⟨k, hk, rfl, hall⟩ := hrel
      by_cases hlt : k < 5
      · have hq := HC.out k hlt
        by_cases hm : v.h k = -1
        · have hm' : (v.h k != -1) = false := by simp [hm]
          have hz : Hid (fstE (firstBad v) (k + 1) = 0) := by show fstE (firstBad v) (k + 1) = 0; rw [fstE_step hall.out]; simp [firstBad, hm]
          clear hm
          go_wp2
          go_round
          case rel => exact ⟨k + 1, by omega, by go_num, hz⟩
          case measure => simp [intOf]; omega
        · have hm' : (v.h k != -1) = true := by simpa using hm
          have hz : Hid (fstE (firstBad v) 5 = 3) := by
            show fstE (firstBad v) 5 = 3
            have hb : firstBad v k = 3 := by simp [firstBad, hm]
            rw [fstE_hit hall.out (by rw [hb]; decide) hlt, hb]
          clear hm
          go_wp2
          go_ret
          exact ⟨ret_int (by rw [H.out, if_neg (by omega), hz.out]), HB _⟩
      · obtain rfl : k = 5 := by omega
        go_wp2
        go_ret
        exact ⟨ret_int (by rw [H.out, if_neg (by omega), hall.out]), HB _⟩

def tailBad (v : Vw) (n q : Nat) : Int := if n ≤ q ∧ v.h q ≠ -1 then 3 else 0
def laterE (n : Nat) (vs : List Vw) (v : Vw) : Int :=
  if v.i ≠ 0 then 3 else if fstE (tailBad v n) 5 ≠ 0 then 3 else if fstE (linkE vs v) n ≠ 0 then fstE (linkE vs v) n else if v.h v.p.toNat < 0 then 20 else 0

theorem tail_low {v : Vw} {n : Nat} : fstE (tailBad v n) n = 0 := fstE_zero.2 fun k hk => by unfold tailBad; rw [if_neg (by omega)]

set_option maxRecDepth 100000 in
set_option maxHeartbeats 2000000 in
theorem later_any (n : Nat) (A : Option Addr) (cap : Nat) (vs : List Vw) (v : Vw) (w : World) (B : Nat) (hB : B ≤ w.heap.size) (hA : VAt w B A vs) (hl : vs.length ≤ 2199023255552)
    (hn : n ≤ 5) (hp0 : 0 ≤ v.p) (hp1 : v.p < n) (hr0 : 0 < v.r) (hr1 : v.r ≤ 6) :
    Calls Tryd.prog 66 #[.agg #[.int .i64 n, .slice A vs.length cap], .agg v.cells] w fun e w' => e = .returned (.int .i64 (laterE n vs v)) ∧ Below w.heap.size w w' := by
  have HB := bel2 w
  have hch := v.cells_h
  unfold Vw.cells at hch ⊢
  have HC := Lib.hid hch
  clear hch
  by_cases hi : v.i = 0
  · have hi' : (v.i != 0) = false := by simp [hi]
    have H : Hid (laterE n vs v = if fstE (tailBad v n) 5 ≠ 0 then 3 else if fstE (linkE vs v) n ≠ 0 then fstE (linkE vs v) n else if v.h v.p.toNat < 0 then 20 else 0) := by
      show laterE n vs v = _; unfold laterE; rw [if_neg (by simp [hi])]
    clear hi
    go_enter Tryd.func66, Tryd.ntmps66
    go_wp2
    go_loop [5] (fun i => ∃ k : Nat, n ≤ k ∧ k ≤ 5 ∧ i = .int .i64 k ∧ Hid (fstE (tailBad v n) k = 0)) (fun i => 5 - (intOf i).toNat)
    case atStart => exact ⟨n, by omega, by omega, rfl, tail_low⟩
    case round =>
      obtain ⟨k, hnk, hk, rfl, hall⟩ := hrel
      by_cases hlt : k < 5
      · have hq := HC.out k hlt
        by_cases hm : v.h k = -1
        · have hm' : (v.h k != -1) = false := by simp [hm]
          have hz : Hid (fstE (tailBad v n) (k + 1) = 0) := by show fstE (tailBad v n) (k + 1) = 0; rw [fstE_step hall.out]; simp [tailBad, hm]
          clear hm
          go_wp2
          go_round
          case rel => exact ⟨k + 1, by omega, by omega, by go_num, hz⟩
          case measure => simp [intOf]; omega
        · have hm' : (v.h k != -1) = true := by simpa using hm
          have hz : Hid (fstE (tailBad v n) 5 = 3) := by
            show fstE (tailBad v n) 5 = 3
            have hb : tailBad v n k = 3 := by simp [tailBad, hm, hnk]
            rw [fstE_hit hall.out (by rw [hb]; decide) hlt, hb]
          clear hm
          go_wp2
          go_ret
          exact ⟨ret_int (by rw [H.out, hz.out]; rfl), HB _ _⟩
      · obtain rfl : k = 5 := by omega
        have HT : Hid (fstE (tailBad v n) 5 = 0) := hall
        clear hall hnk hk hlt
        go_wp2
        go_loopw [6] (fun i wr => ∃ k m : Nat, k ≤ n ∧ i = .int .i64 k ∧ wr = ((w.alloc (.cells #[.int .i64 n, .slice A vs.length cap] 24)).alloc (.cells #[.int .i64 v.p, .int .i64 v.r, .int .i64 v.i, .int .i64 v.h0, .int .i64 v.h1, .int .i64 v.h2, .int .i64 v.h3, .int .i64 v.h4] 27)).drewN m ∧ Hid (fstE (linkE vs v) k = 0)) (fun i _ => 5 - (intOf i).toNat)
        case atStart => exact ⟨0, 0, by omega, rfl, rfl, rfl⟩
        case round =>
          obtain ⟨k, m, hk, rfl, rfl, hall⟩ := hrel
          by_cases hlt : k < n
          · have hq := HC.out k (by omega)
            by_cases hm : v.h k = -1
            · rw [hm] at hq
              have hz : Hid (fstE (linkE vs v) (k + 1) = 0) := by show fstE (linkE vs v) (k + 1) = 0; rw [fstE_step hall.out]; simp [linkE, hm]
              clear hm
              go_wp2
              go_quiet (fail)
              go_wp2
              go_roundw
              case rel => exact ⟨k + 1, _, by omega, by go_num, rfl, hz⟩
              case measure => simp [intOf]; omega
            · by_cases hb : v.h k < -1 ∨ (vs.length : Int) ≤ v.h k
              · have hz : Hid (fstE (linkE vs v) n = 6) := by
                  show fstE (linkE vs v) n = 6
                  have hb' : linkE vs v k = 6 := by unfold linkE; rw [if_neg hm, if_pos (by omega)]
                  rw [fstE_hit hall.out (by rw [hb']; decide) hlt, hb']
                clear hm
                go_wp2
                all_goals
                  go_ret
                  exact ⟨ret_int (by rw [H.out, HT.out, hz.out]; rfl), by repeat (first | exact HB _ _ | refine belN ?_ _)⟩
              · obtain ⟨j, hj⟩ := Int.eq_ofNat_of_zero_le (show 0 ≤ v.h k by omega)
                have hjl : j < vs.length := by omega
                rw [hj] at hq
                have hlk : linkE vs v k = if vs[j].p ≠ (k : Int) ∨ vs[j].r ≠ v.r - 1 then 22 else 0 := by
                  unfold linkE
                  rw [if_neg hm, if_neg (by omega), hj, Int.toNat_natCast, getV_eq hjl]
                obtain ⟨b, off, rfl, hb1, c0, c1, _⟩ := hA.row j hjl
                have hb2 : b < w.heap.size := by omega
                clear hb hm hj hA
                by_cases hpk : vs[j].p = (k : Int)
                · by_cases hrk : vs[j].r = v.r - 1
                  · have hz : Hid (fstE (linkE vs v) (k + 1) = 0) := by
                      show fstE (linkE vs v) (k + 1) = 0
                      rw [fstE_step hall.out, hlk, if_neg (by omega)]
                    have e1 : (vs[j].p != (k : Int)) = false := by simp [hpk]
                    have e2 : (vs[j].r != v.r - 1) = false := by simp [hrk]
                    clear hlk hpk hrk
                    go_wp2
                    go_quiet (fail)
                    go_wp2
                    go_roundw
                    case rel => exact ⟨k + 1, _, by omega, by go_num, rfl, hz⟩
                    case measure => simp [intOf]; omega
                  · have hz : Hid (fstE (linkE vs v) n = 22) := by
                      show fstE (linkE vs v) n = 22
                      have hb' : linkE vs v k = 22 := by rw [hlk, if_pos (.inr hrk)]
                      rw [fstE_hit hall.out (by rw [hb']; decide) hlt, hb']
                    have e1 : (vs[j].p != (k : Int)) = false := by simp [hpk]
                    have e2 : (vs[j].r != v.r - 1) = true := by simpa using hrk
                    clear hlk hpk hrk
                    go_wp2
                    go_quiet (fail)
                    go_wp2
                    go_ret
                    exact ⟨ret_int (by rw [H.out, HT.out, hz.out]; rfl), by repeat (first | exact HB _ _ | refine belN ?_ _)⟩
                · have hz : Hid (fstE (linkE vs v) n = 22) := by
                    show fstE (linkE vs v) n = 22
                    have hb' : linkE vs v k = 22 := by rw [hlk, if_pos (.inl hpk)]
                    rw [fstE_hit hall.out (by rw [hb']; decide) hlt, hb']
                  have e1 : (vs[j].p != (k : Int)) = true := by simpa using hpk
                  clear hlk hpk
                  go_wp2
                  go_quiet (fail)
                  go_wp2
                  go_ret
                  exact ⟨ret_int (by rw [H.out, HT.out, hz.out]; rfl), by repeat (first | exact HB _ _ | refine belN ?_ _)⟩
          · obtain rfl : k = n := by omega
            obtain ⟨q, hq0⟩ := Int.eq_ofNat_of_zero_le hp0
            have hq := HC.out q (by omega)
            have HQ := Lib.hid hq0
            have hqt : v.p.toNat = q := by omega
            have h4 : Hid (laterE k vs v = if v.h q < 0 then 20 else 0) := by
              show laterE k vs v = _
              rw [H.out, HT.out, hall.out, hqt]; rfl
            clear hq0
            by_cases hneg : v.h q < 0
            · go_wp2
              go_ret
              exact ⟨ret_int (by rw [h4.out, if_pos (by omega)]), by repeat (first | exact HB _ _ | refine belN ?_ _)⟩
            · go_wp2
              go_ret
              exact ⟨ret_int (by rw [h4.out, if_neg (by omega)]), by repeat (first | exact HB _ _ | refine belN ?_ _)⟩
  · have hi' : (v.i != 0) = true := by simpa using hi
    have H : Hid (laterE n vs v = 3) := by show laterE n vs v = 3; unfold laterE; rw [if_pos hi]
    clear hi
    go_enter Tryd.func66, Tryd.ntmps66
    go_wp2
    go_ret
    exact ⟨ret_int H.out.symm, HB _ _⟩
end Go.Proofs.YtdfnmapmnmecnaaDoor
