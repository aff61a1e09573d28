/- Part Past. Part CheckA. Part CheckB. Part RefG. Part CheckC. Part At. Part Own. Part Ex23. Part ShelfB. Part Build. Part Text. Part Write. Part VText. Part ExF23. Part Aw23. What each part says stands at its head; no part has a condition beyond its own statements. -/
import Derived.Test.YtnikmmdadflefaaGreatDoorProg
import Derived.Test.YtnikmmdadflefaaGreatDoorBb
import Derived.Test.YtnikmmdadflefaaGreatDoorBc
import Derived.Test.YtnikmmdadflefaaGreatDoorBf
import Derived.Deep.QuietTactic
import Derived.BigQuiet
import Derived.Deep.RegionHeld3
import Derived.Deep.LoopGhost
import Derived.StillTactics
import Derived.Deep.DeepCutAuto
import Derived.StillTailTactics
import Derived.Laws.Pointers
import Derived.BigRegion
import Derived.Test.YtnikmmdadflefaaGreatDoorBe
import Derived.Laws.EntriesVeiled
import Derived.Test.YtnikmmdadflefaaGreatDoorBa
import Derived.Shelf.Strings.Builder1
import Derived.Shelf.Small.Wraps
import Derived.Shelf.Strings.BuilderF
import Derived.Shelf.Strings.BuilderK
import Derived.Shelf.Strconv.Itoa0
import Derived.Shelf.Strconv.Itoa1
import Derived.Shelf.LaysM
import Derived.Shelf.Strconv.Itoa2
import Derived.Shelf.Strconv.Itoa3
import Derived.Shelf.Bits.Mul64
import Derived.Shelf.Strings.BuilderCap
import Derived.Shelf.Slices.Turned
import Derived.Shelf.Slices.Equal
import Derived.Ground.Names2Prog
import Derived.Shelf.Slices.Clone
import Derived.Shelf.Slices.SearchI
import Derived.Shelf.Slices.Empties2
import Derived.Lib.FrozenHead2
import Derived.Lib.OthersKept
import Derived.Lib.Builder
import Derived.Lib.AppendStr
import Derived.Laws.Externs

namespace Go.Proofs.YtnikmmdadflefaaGreatDoor
open Go.RowKit Go.Shelf
attribute [local go_sem] Oper.semAt_some
theorem tablemap (w : World) (c1 : Array Value) (t1 : TypeId) : ∃ W0, (w.alloc (.cells c1 t1)).alloc (.map #[] 0) = W0 ∧ W0.heap[w.heap.size]? = some (.cells c1 t1) ∧ SetAt (Value.int .i64) W0 (w.heap.size + 1) [] ∧ W0.heap.size = w.heap.size + 2 ∧ Below w.heap.size w W0 :=
  ⟨_, rfl, blk_old (blk_new _ _) _, by have := SetAt.made (Value.int .i64) (w.alloc (.cells c1 t1)); rwa [World.size_alloc] at this, by simp, (bel1 w _).trans ((Below.refl _ _).alloc (by simp) _)⟩
structure PastRel (w : World) (n : Int) (A : Option Addr) (cap : Nat) (vs : List Vw) (fs : List Nat) (g6 : Nat) (m : Nat) (ds : List Deferred) (w' : World) (seen wait : List Nat) (P : Option Addr) (c : Nat) : Prop where
  num : m = 6 * (vs.length - seen.length) + wait.length
  box : w'.heap[g6]? = some (.cells #[.slice P wait.length c] 49 (0, 0))
  own : Own w' w.heap.size (.slice P wait.length c) (castL wait)
  tab : w'.heap[w.heap.size]? = some (.cells #[.int .i64 n, .slice A vs.length cap] 33 (0, 0))
  set_ : SetAt (Value.int .i64) w' (w.heap.size + 1) (castL seen)
  below : Below w.heap.size w w'
  marks : Marks w.heap.size ds w'
  inv : DfsInv vs fs seen wait
set_option maxRecDepth 100000 in
set_option maxHeartbeats 4000000 in
theorem past_any (n : Int) (A F : Option Addr) (cap fcap : Nat) (vs : List Vw) (fs : List Nat) (w : World) (hT : TArg w A cap vs) (ha : Acyc vs) (hF : IAt w w.heap.size F (castL fs)) (hfs : ∀ c, c ∈ fs → c < vs.length) (hfl : fs.length ≤ 100) :
    Calls Tryz.prog 52 #[.agg #[.int .i64 n, .slice A vs.length cap], .slice F fs.length fcap] w (RetInts (castL (pastL vs fs)) w) := by
  have hmm := @run_makeMap Tryz.prog
  refine calls_of_marks Tryz.func52 rfl ?_
  simp only [Tryz.ntmps52, List.size_toArray, List.length_cons, List.length_nil, Nat.reduceAdd, Nat.reduceSub, Array.replicate_succ, Array.replicate_zero, List.push_toArray, List.append_toArray, List.nil_append, List.cons_append]
  have HF := Lib.hid hF
  clear hF
  go_wp2_with fail
  obtain ⟨W0, hW0, b0, b1, hsz, hB0⟩ := tablemap w #[.int .i64 n, .slice A vs.length cap] 33
  rw [hW0]
  clear hW0
  have c0 := clone_int F fcap (castL fs) W0 ((HF.out.keep hB0).more (by omega)) (by rw [castL_length]; omega)
  rw [castL_length] at c0
  refine c0.mono ?_
  rintro e W1 ⟨v0, rfl, hown, hb⟩
  have d0 := (hb.block _ (by omega)).trans b0
  have d1 : SetAt (Value.int .i64) W1 (w.heap.size + 1) [] := b1.kept hb (by omega)
  have hown' := hown.low (base' := w.heap.size) (by omega)
  have hb' : Below w.heap.size w W1 := hB0.trans (hb.mono (by omega))
  have hs1 := hb.size
  obtain ⟨A0, k0, rfl, hc0, hm0, _⟩ := hown.form
  clear c0 hown b0 b1 hB0 hb
  go_wp2_with fail
  obtain ⟨g6, hg6⟩ : ∃ g6, g6 = W1.heap.size := ⟨_, rfl⟩
  have hg6b : w.heap.size + 2 ≤ g6 := by omega
  have e6 : (W1.alloc (.cells #[.slice A0 (castL fs).length k0] 49)).heap[g6]? = some (.cells #[.slice A0 (castL fs).length k0] 49 (0, 0)) := by rw [hg6]; exact blk_new _ _
  have hst : PastRel w n A cap vs fs g6 (6 * vs.length + fs.length) [] (W1.alloc (.cells #[.slice A0 (castL fs).length k0] 49)) [] fs A0 k0 := by
    rw [castL_length] at e6 hown' ⊢
    exact ⟨by simp, e6, hown'.alloc _, blk_old d0 _, d1.same (Below.heap_alloc _ _ _ d1.lt), hb'.trans ((Below.refl _ _).alloc (by have := hb'.size; omega) _), Marks.nil _ _, DfsInv.start hfs⟩
  rw [← hg6]
  have HT := Lib.hid hT
  clear e6 hT d0 d1 hb' hown'
  refine wp_loop_ghost (fun (m : Nat) (a' : Act) (w' : World) => ∃ (ds : List Deferred) (u7 u9 u14 u15 u16 u17 u18 u19 u20 u21 u22 u23 u24 u25 u26 u27 u28 u29 u30 u31 u32 u33 u34 u35 u36 u37 u38 u39 u40 u41 u42 u43 u44 u45 : Value), (∃ seen wait P c, PastRel w n A cap vs fs g6 m ds w' seen wait P c) ∧ a' = { tmps := #[.agg #[.int .i64 n, .slice A vs.length cap], .slice F fs.length fcap, .pointer (some ⟨w.heap.size, 0, none⟩), undef, .slice none 0 0, .map (some (w.heap.size + 1)), .pointer (some ⟨g6, 0, none⟩), u7, undef, u9, undef, undef, .map (some (w.heap.size + 1)), .slice F fs.length fcap, u14, u15, u16, u17, u18, u19, u20, u21, u22, u23, u24, u25, u26, u27, u28, u29, u30, u31, u32, u33, u34, u35, u36, u37, u38, u39, u40, u41, u42, u43, u44, u45, undef, undef, undef, undef, undef, undef, undef, undef, undef, undef, undef, undef, undef, undef, undef], defers := ds }) (6 * vs.length + fs.length) ?_ ?_
  · exact ⟨[], _, _, _, _, _, _, _, _, _, _, _, _, _, _, _, _, _, _, _, _, _, _, _, _, _, _, _, _, _, _, _, _, _, _, ⟨[], fs, A0, k0, hst⟩, rfl⟩
  clear hst hg6
  rintro m a' wr ⟨ds, u7, u9, u14, u15, u16, u17, u18, u19, u20, u21, u22, u23, u24, u25, u26, u27, u28, u29, u30, u31, u32, u33, u34, u35, u36, u37, u38, u39, u40, u41, u42, u43, u44, u45, ⟨seen, wait, P, c, R⟩, rfl⟩
  rcases List.eq_nil_or_concat wait with rfl | ⟨wait', i, rfl⟩
  · obtain ⟨num, box, own, tab, set_, below, marks, inv⟩ := R
    simp only [List.length_nil] at box own num
    have c6 := blk_cell box 0 rfl
    have ct := blk_cell tab 1 rfl
    have BX := Lib.hid box
    have OW := Lib.hid own
    have TB := Lib.hid tab
    have BL := Lib.hid below
    have MK := Lib.hid marks
    have NU := Lib.hid num
    clear box own tab below marks num
    go_wp2_with fail
    have hlen := (inv.small).1
    have hfew := HT.out.few
    go_loopw [10, 49] (fun o i wr' => ∃ k : Nat, k ≤ vs.length ∧ i = .int .i64 k ∧ Own wr' w.heap.size o (seenTo seen k) ∧ Non w.heap.size wr wr') (fun _ i _ => vs.length - (intOf i).toNat)
    case atStart => exact ⟨0, by omega, rfl, by have : seenTo seen 0 = [] := by simp [seenTo, castL]
                                                rw [this]; exact Own.nil _ _, Non.refl _ _⟩
    case round =>
      obtain ⟨k, hk, rfl, hown, hnon⟩ := hrel
      clear c6 ct
      have HO := Lib.hid hown
      have HN := Lib.hid hnon
      have hset := set_.non hnon
      have hln := seenTo_length seen k
      clear hown hnon
      by_cases hlt : k < vs.length
      · have hlk := hset.look (t := 52) int_key Tryz.underlying52 zero_bool (k : Int)
        by_cases hin : k ∈ seen
        · have hy := Lib.hid (seenTo_yes hin)
          rw [decide_eq_true (mem_castL.2 hin)] at hlk
          clear hin
          go_wp2_with (at_builtin; go_must (refine wpList_app1 rfl _ _ rfl w.heap.size u10 _ (k : Int) rfl HO.out rfl (by omega) (Nat.le_trans BL.out.size HN.out.below.size) ?_); intro v' w1 hown1 hg1 hb1)
          go_roundw
          case rel => exact ⟨k + 1, by omega, by go_num, by rw [hy.out]; exact hown1, HN.out.trans (Non.of_grown hg1 (Nat.le_trans BL.out.size HN.out.below.size) (own_cells HO.out))⟩
          case measure => simp [intOf]; omega
        · have hy := Lib.hid (seenTo_no hin)
          rw [decide_eq_false (fun h => hin (mem_castL.1 h))] at hlk
          clear hin
          go_wp2_with fail
          go_roundw
          case rel => exact ⟨k + 1, by omega, by go_num, by rw [hy.out]; exact HO.out, HN.out⟩
          case measure => simp [intOf]; omega
      · obtain rfl : k = vs.length := by omega
        have hres := Lib.hid (inv.result ha hfs)
        go_wp2_with fail
        refine ret_marks (HN.out.marks MK.out) (v := u10) (fun W => by kernel_rfl) ?_
        intro W hS
        refine ⟨_, rfl, ?_, (BL.out.trans HN.out.below).trans hS.below⟩
        rw [← hres.out]
        exact HO.out.shut hS
  · simp only [List.concat_eq_append] at R
    obtain ⟨num, box, own, tab, set_, below, marks, inv⟩ := R
    have hiv := (inv.good i (by simp)).1
    obtain ⟨A', c', e, hc1, hc2, hIA⟩ := own.form
    simp only [Value.slice.injEq] at e
    obtain ⟨rfl, _, rfl⟩ := e
    obtain ⟨b, off, rfl, hb0, hcell⟩ := hIA.at_ wait'.length (by simp [castL])
    have hci : (castL (wait' ++ [i]))[wait'.length]'(by simp [castL]) = (i : Int) := by simp [castL]
    rw [hci] at hcell
    clear hci hIA
    rw [castL_length] at hc1
    simp only [List.length_append, List.length_cons, List.length_nil, Nat.zero_add] at box own num hc1
    have hsm := inv.small
    have hfew := HT.out.few
    simp only [List.length_append, List.length_cons, List.length_nil, Nat.zero_add] at hsm
    unfold maxLen at hc2
    have c6 := blk_cell box 0 rfl
    have ct := blk_cell tab 1 rfl
    have f6 := blk_froz box 0
    have l6 := blk_lt box
    have BX := Lib.hid box
    have OW := Lib.hid own
    have TB := Lib.hid tab
    have BL := Lib.hid below
    have MK := Lib.hid marks
    have NU := Lib.hid num
    have HI := Lib.hid inv
    clear box own tab below marks num inv
    obtain ⟨X, hX⟩ : ∃ X, X = wr.setCell ⟨g6, 0, none⟩ (.slice (some ⟨b, off, none⟩) wait'.length c) := ⟨_, rfl⟩
    obtain ⟨x6, xs, xo⟩ := set_box BX.out (.slice (some ⟨b, off, none⟩) wait'.length c)
    rw [← hX] at x6 xs xo
    have xset := set_.same (w' := X) (xo _ (by omega))
    have hlk := xset.look (t := 52) int_key Tryz.underlying52 zero_bool (i : Int)
    have X6 := Lib.hid x6
    have XS := Lib.hid xs
    have XO := Lib.hid xo
    have hgX : wr.grownBy X (some g6) := by rw [hX]; exact grown_set BX.out _
    have xown : Own X w.heap.size (.slice (some ⟨b, off, none⟩) wait'.length c) (castL wait') := by
      have h1 := OW.out.kept hgX (.inr (own_type OW.out BX.out (by decide)))
      exact own_cut h1
    have xbl : Below w.heap.size w X := BL.out.grown hgX (by omega) (fun k hk => by cases hk; omega)
    have xmk : Marks w.heap.size ds X := MK.out.keep fun k hk => (XO.out k (fun e => by subst e; rw [BX.out] at hk; cases hk)).trans hk
    have xtab := (XO.out _ (by omega)).trans TB.out
    clear x6 xs xo set_ hgX
    by_cases hin : i ∈ seen
    · rw [decide_eq_true (mem_castL.2 hin), hX] at hlk
      have hsk := Lib.hid (HI.out.skip hin)
      have HX := Lib.hid hX
      have XR : Hid (PastRel w n A cap vs fs g6 (6 * (vs.length - seen.length) + wait'.length) ds X seen wait' (some ⟨b, off, none⟩) c) := ⟨rfl, X6.out, xown, xtab, xset, xbl, xmk, hsk.out⟩
      clear hin hX xset xown xbl xmk xtab
      go_wp2_with fail
      exact ⟨6 * (vs.length - seen.length) + wait'.length, by have := NU.out; omega, ds, _, _, _, _, _, _, _, _, _, _, _, _, _, _, _, _, _, _, _, _, _, _, _, _, _, _, _, _, _, _, _, _, _, _, ⟨seen, wait', _, c, by rw [← HX.out]; exact XR.out⟩, rfl⟩
    · have hroom := HI.out.room hin
      have hpu := Lib.hid (HI.out.push ha hfs hin)
      rw [decide_eq_false (fun h => hin (mem_castL.1 h)), hX] at hlk
      have XN := Lib.hid xown
      have XT := Lib.hid xtab
      have XM := Lib.hid xmk
      have XB := Lib.hid xbl
      have XE := Lib.hid xset
      have HX := Lib.hid hX
      clear hin hX xset xown xbl xmk xtab
      go_wp2_with (at_mapUpdate; refine wpList_add _ rfl _ _ _ _ _ rfl int_key Tryz.underlying52 (w.heap.size + 1) (castL seen) (by rw [← HX.out]; exact XE.out) (i : Int) rfl rfl rfl ?_; intro w1 hset1 hg1
                   rw [← HX.out] at hg1
                   have ct1 := blk_cell ((hg1.block w.heap.size (blk_lt XT.out) (by simp)).trans XT.out) 1 rfl
                   obtain ⟨b', off', rfl, hb1, r0, r1, r2, r3, r4, r5, r6, r7⟩ := (HT.out.rows.keep (XB.out.grown hg1 (by have := XB.out.size; omega) (fun k e => by cases e; omega))).row i hiv
                   have Hset1 := Lib.hid hset1
                   have Hg1 := Lib.hid hg1
                   clear hset1 hg1 hlk)
      have hh := heard_any vs[i] w1
      have hbx := blk_new w1 (.cells vs[i].cells 92)
      have W2 := Lib.hid (BoxIn.start (B := w.heap.size) (g := g6) (xs := castL wait') (w2 := w1.alloc (.cells vs[i].cells 92)) (P := some ⟨b, off, none⟩) (c := c) (by
        rw [castL_length]; exact blk_old ((Hg1.out.block g6 (blk_lt X6.out) (by simp; omega)).trans X6.out) _) (by
        rw [castL_length]; exact (XN.out.kept Hg1.out (by
          right; intro e; obtain ⟨_, h⟩ := own_cells XN.out _ e; obtain ⟨m, es, ck, hm, _⟩ := XE.out; have := h _ hm; cases this)).alloc _))
      have M2 : Hid (Marks w.heap.size ds (w1.alloc (.cells vs[i].cells 92))) := XM.out.keep fun k hk => by
        obtain ⟨m, es, ck, hm, _⟩ := XE.out
        exact blk_old ((Hg1.out.block k (Array.getElem?_eq_some_iff.1 hk).1 (fun e => by cases e; rw [hm] at hk; cases hk)).trans hk) _
      have B2 : Hid (Below w.heap.size w (w1.alloc (.cells vs[i].cells 92))) := (XB.out.grown Hg1.out (by have := XB.out.size; omega) (fun k e => by cases e; omega)).trans ((Below.refl _ _).alloc (by have := XB.out.size; have := Hg1.out.size; omega) _)
      have S2 : Hid (SetAt (Value.int .i64) (w1.alloc (.cells vs[i].cells 92)) (w.heap.size + 1) (castL (i :: seen))) := Hset1.out.same (Below.heap_alloc _ _ _ Hset1.out.lt)
      have T2 := Lib.hid (blk_old ((Hg1.out.block w.heap.size (blk_lt XT.out) (by simp)).trans XT.out) (.cells vs[i].cells 92))
      have hbw : w1.heap.size < (w1.alloc (.cells vs[i].cells 92)).heap.size := by simp
      have hseq := heard1_iter vs[i] w1.heap.size _ hbx
      have hg6w : g6 < w1.heap.size := Nat.lt_of_lt_of_le (blk_lt X6.out) Hg1.out.size
      unfold Vw.cells at hh
      refine hh.mono ?_
      rintro e w2 ⟨rfl, hw2⟩
      have hw2' : w1.alloc (.cells vs[i].cells 92) = w2 := hw2
      rw [hw2'] at W2 M2 B2 S2 T2 hbw hseq hbx
      clear hw2 hw2'
      have hB2 : w.heap.size ≤ w2.heap.size := B2.out.size
      have XX := Lib.hid hseq
      have XY := Lib.hid hbx
      clear hh hseq hbx r0 r1 r2 r3 r4 r5 r6 r7 ct1 c6 f6 l6 ct hcell
      go_wp2_with fail
      refine wp_range rfl (enters_of Tryz.func152 (by kernel_rfl) rfl) XX.out (by rintro k rfl; exact hbw) (fun _ => rfl)
        (fun pre W => BoxIn w.heap.size g6 (castL wait' ++ pre.map fun x => x.1.2) w2 W) (fun _ _ _ => False) (BoxIn.own (castL wait') (fun x : Int × Int => x.2) hB2) (fun _ _ _ _ _ h _ _ => h)
        (by rw [List.map_nil, List.append_nil]; exact W2.out) ?a1 ?assign ?body ?done ?stop
      case assign =>
        intro l x W K hK
        gi_wp2
        exact hK
      case body =>
        intro l pre x W hI hlt
        have hl5 : (heardL vs[i]).length ≤ 5 := by have := kids_length vs[i]; simpa [kids] using this
        have hpl : (castL wait' ++ pre.map fun x => x.1.2).length ≤ 1000000 := by
          rw [List.length_append, castL_length, List.length_map]; omega
        have hsnoc : castL wait' ++ (pre ++ [x]).map (fun x => x.1.2) = (castL wait' ++ pre.map fun x => x.1.2) ++ [x.1.2] := by simp
        obtain ⟨xs, hxs⟩ : ∃ xs, castL wait' ++ pre.map (fun x => x.1.2) = xs := ⟨_, rfl⟩
        rw [hxs] at hI hpl
        obtain ⟨P2, c2, hbx2, ho2⟩ := hI.box
        have q6 := blk_cell hbx2 0 rfl
        have HIb := Lib.hid hI
        have HO := Lib.hid ho2
        have HB2 := Lib.hid hbx2
        have HS := Lib.hid hsnoc
        have HXS := Lib.hid hxs
        clear hI ho2 hbx2 hsnoc hxs
        gi_wp2_with (gi_at_builtin; go_must (refine wpListIn_app1 rfl _ _ rfl w.heap.size (.slice P2 xs.length c2) _ x.1.2 rfl HO.out rfl (by omega) (by have := blk_lt HB2.out; omega) ?_); intro v' w3 hown1 hg3 hb3
                     have h3b := (hg3.block g6 (blk_lt HB2.out) (fun e => own_type HO.out HB2.out (by decide) e.symm)).trans HB2.out
                     have q7 := blk_cell h3b 0 rfl
                     have f7 := blk_froz h3b 0
                     have l7 := blk_lt h3b
                     obtain ⟨A3, k3, rfl, h31, h32, _⟩ := hown1.form
                     have HO3 := Lib.hid hown1
                     have HG3 := Lib.hid hg3
                     clear h3b hown1 hg3 hb3)
        obtain ⟨r1, r2, r3⟩ := HIb.out.push (by omega) HB2.out HO.out HO3.out HG3.out w1.heap.size _ (by omega) XY.out
        simp only [List.length_append, List.length_cons, List.length_nil, Nat.zero_add] at r1 r2 r3
        exact ⟨r1, r2, by dsimp only; rw [HS.out, HXS.out]; exact r3⟩
      case done =>
        intro D ys W hD hys hI hDk
        have hv : getV vs i = vs[i] := getV_eq hiv
        have hl : castL wait' ++ ys.map (fun x => x.1.2) = castL (wait' ++ kids (getV vs i)) := by
          rw [hv, show castL (wait' ++ kids vs[i]) = castL wait' ++ castL (kids vs[i]) from by simp [castL], castL_kids]
          have h2 : ys.map (fun x => x.1.2) = (heardL vs[i]).map (·.2) := by
            have := congrArg (List.map (fun x : Int × Int => x.2)) hys
            rw [← this, List.map_map]; rfl
          rw [h2]
        simp only [hl] at hI
        obtain ⟨P2, c2, hbx2, ho2⟩ := hI.box
        rw [castL_length] at hbx2 ho2
        have hkl := kids_length (getV vs i)
        refine ⟨6 * (vs.length - (i :: seen).length) + (wait' ++ kids (getV vs i)).length, by have := NU.out; simp only [List.length_cons, List.length_append]; omega, _, _, _, _, _, _, _, _, _, _, _, _, _, _, _, _, _, _, _, _, _, _, _, _, _, _, _, _, _, _, _, _, _, _, _, ⟨i :: seen, wait' ++ kids (getV vs i), P2, c2, ⟨rfl, hbx2, ho2, hI.rest _ _ _ T2.out (by decide) (by omega), S2.out.non hI.non, B2.out.trans hI.non.below, M2.out.cons (hI.non.same · _ · rfl) hB2 hD hDk, hpu.out⟩⟩, rfl⟩
      case stop =>
        intro D c pre W _ _ h
        exact h.elim
end Go.Proofs.YtnikmmdadflefaaGreatDoor
namespace Go.Proofs.YtnikmmdadflefaaGreatDoor
open Go.RowKit Go.Shelf
theorem checkE_beg {n : Int} {vs : List Vw} {v : Vw} (h : begE n v ≠ 0 ∨ v.r = 0) : checkE n vs v = begE n v := by unfold checkE; rw [if_pos h]
theorem checkE_link {n : Int} {vs : List Vw} {v : Vw} (h1 : begE n v = 0) (h2 : v.r ≠ 0) (h : fstE (linkE vs v) 5 ≠ 0) : checkE n vs v = fstE (linkE vs v) 5 := by
  unfold checkE; rw [if_neg (by simp [h1, h2]), if_pos h]
theorem checkE_gap {n : Int} {vs : List Vw} {v : Vw} (h1 : begE n v = 0) (h2 : v.r ≠ 0) (h : fstE (linkE vs v) 5 = 0) (hg : v.h v.p.toNat = -1) : checkE n vs v = 20 := by
  unfold checkE; rw [if_neg (by simp [h1, h2]), if_neg (by simp [h]), if_pos hg]
theorem checkE_cons {n : Int} {vs : List Vw} {v : Vw} (h1 : begE n v = 0) (h2 : v.r ≠ 0) (h : fstE (linkE vs v) 5 = 0) (hg : v.h v.p.toNat ≠ -1) : checkE n vs v = if consB vs (pastL vs (kids v)) = true then 0 else 22 := by
  unfold checkE; rw [if_neg (by simp [h1, h2]), if_neg (by simp [h]), if_neg hg]
theorem kids_of_link {vs : List Vw} {v : Vw} (h : fstE (linkE vs v) 5 = 0) : ∀ c, c ∈ kids v → c < vs.length := fun c hc => by
  obtain ⟨_, q, hq, h0, rfl⟩ := mem_kids.1 hc
  exact (linkE_ok (fstE_zero.1 h q hq) (by omega)).2.1
def placeOf (vs : List Vw) (i : Nat) : Int × Int := ((getV vs i).p, (getV vs i).r)
structure PlaceInv (vs : List Vw) (l : List Nat) (k : Nat) (S : List (Int × Int)) : Prop where
  mem : ∀ p, p ∈ S ↔ ∃ j, j < k ∧ p = placeOf vs (l.getD j 0)
  apart : ∀ a b, b < a → a < k → clash vs (l.getD b 0) (l.getD a 0) = false
theorem PlaceInv.start (vs : List Vw) (l : List Nat) : PlaceInv vs l 0 [] := ⟨fun p => by simp, fun a b _ h => by omega⟩
theorem clash_iff {vs : List Vw} {a b : Nat} : clash vs a b = true ↔ placeOf vs a = placeOf vs b := by
  unfold clash placeOf
  simp [Prod.ext_iff]
theorem PlaceInv.step {vs : List Vw} {l : List Nat} {k : Nat} {S : List (Int × Int)} (h : PlaceInv vs l k S) (hn : placeOf vs (l.getD k 0) ∉ S) : PlaceInv vs l (k + 1) (placeOf vs (l.getD k 0) :: S) where
  mem := fun p => by
    simp only [List.mem_cons, h.mem]
    constructor
    · rintro (rfl | ⟨j, hj, rfl⟩)
      · exact ⟨k, by omega, rfl⟩
      · exact ⟨j, by omega, rfl⟩
    · rintro ⟨j, hj, rfl⟩
      by_cases e : j = k
      · subst e; exact .inl rfl
      · exact .inr ⟨j, by omega, rfl⟩
  apart := fun a b hb ha => by
    by_cases e : a = k
    · subst e
      cases hc : clash vs (l.getD b 0) (l.getD a 0) with
      | false => rfl
      | true => exact absurd ((h.mem _).2 ⟨b, hb, (clash_iff.1 hc).symm⟩) hn
    · exact h.apart a b hb (by omega)
theorem PlaceInv.bad {vs : List Vw} {l : List Nat} {k : Nat} {S : List (Int × Int)} (h : PlaceInv vs l k S) (hk : k < l.length) (hn : placeOf vs (l.getD k 0) ∈ S) : ¬ consB vs l = true := by
  intro hc
  obtain ⟨j, hj, e⟩ := (h.mem _).1 hn
  have := consB_iff.1 hc k j hj hk
  rw [clash_iff.2 e.symm] at this
  cases this
theorem PlaceInv.fine {vs : List Vw} {l : List Nat} {S : List (Int × Int)} (h : PlaceInv vs l l.length S) : consB vs l = true := consB_iff.2 fun a b hb ha => h.apart a b hb ha
theorem twoboxes (w : World) (c1 c2 : Array Value) (t1 t2 : TypeId) : ∃ W0, (w.alloc (.cells c1 t1)).alloc (.cells c2 t2) = W0 ∧ W0.heap[w.heap.size]? = some (.cells c1 t1 (0, 0)) ∧ W0.heap[w.heap.size + 1]? = some (.cells c2 t2 (0, 0)) ∧ W0.heap.size = w.heap.size + 2 ∧ Below w.heap.size w W0 :=
  ⟨_, rfl, blk_old (blk_new _ _) _, by have := blk_new (w.alloc (.cells c1 t1)) (.cells c2 t2); rwa [World.size_alloc] at this, by simp, bel2 w _ _⟩
end Go.Proofs.YtnikmmdadflefaaGreatDoor
namespace Go.Proofs.YtnikmmdadflefaaGreatDoor
open Go.RowKit Go.Shelf
attribute [local go_sem] Oper.semAt_some
theorem grown_below {w w' : World} (h : Below w.heap.size w w') {row : Option Nat} : w.grownBy w' row := ⟨h.os, h.tape, h.output, h.size, fun k hk _ => h.block k hk⟩
set_option maxRecDepth 100000 in
set_option maxHeartbeats 4000000 in
theorem check2_any (n : Nat) (A : Option Addr) (cap : Nat) (vs : List Vw) (v : Vw) (w : World) (hT : TArg w A cap vs) (hw : Wf (n : Int) vs) :
    Calls Tryz.prog 151 #[.agg #[.int .i64 n, .slice A vs.length cap], .agg v.cells] w fun e w' => e = .returned (.int .i64 (checkE n vs v)) ∧ Below w.heap.size w w' := by
  have hmm := @run_makeMap Tryz.prog
  have HT := Lib.hid hT
  have HW := Lib.hid hw
  have hfew := hT.few
  have hch := v.cells_h
  have hbeg := beginning_any n v
  clear hT hw
  refine calls_of_marks Tryz.func151 rfl ?_
  simp only [Tryz.ntmps151, List.size_toArray, List.length_cons, List.length_nil, Nat.reduceAdd, Nat.reduceSub, Array.replicate_succ, Array.replicate_zero, List.push_toArray, List.append_toArray, List.nil_append, List.cons_append]
  unfold Vw.cells at hch hbeg ⊢
  have HCH := Lib.hid hch
  clear hch
  go_wp2_with fail
  obtain ⟨W0, hW0, b0, b1, hsz, hB0⟩ := twoboxes w #[.int .i64 n, .slice A vs.length cap] v.cells 33 92
  unfold Vw.cells at hW0 b1
  rw [hW0]
  clear hW0
  refine (hbeg W0).mono ?_
  rintro e w1 ⟨rfl, hb⟩
  have d0 := (hb.block _ (by omega)).trans b0
  have d1 := (hb.block _ (by omega)).trans b1
  have B1 : Hid (Below w.heap.size w w1) := hB0.trans (hb.mono (by omega))
  have l1 : w.heap.size + 1 < w1.heap.size := by have := hb.size; omega
  clear hbeg b0 b1 hsz hB0 hb
  have c0 := blk_cell d0 1 rfl
  have c1 := blk_cell d1 1 rfl
  have D0 := Lib.hid d0
  have D1 := Lib.hid d1
  clear d0 d1
  by_cases hb0 : begE n v = 0
  · have e0 : (begE n v != 0) = false := by simp [hb0]
    by_cases hr : v.r = 0
    · have e1 : (v.r == 0) = true := by simp [hr]
      have hz := Lib.hid (checkE_beg (n := n) (vs := vs) (v := v) (.inr hr))
      clear hb0 hr
      go_wp2_with fail
      (try simp only [Exit.inBlock, Exit.then])
      refine ret_marks (Marks.nil w.heap.size _) (v := .int .i64 (begE n v)) (fun W => by kernel_rfl) ?_
      intro W hS
      exact ⟨ret_int hz.out.symm, B1.out.trans (hS.below)⟩
    · have e1 : (v.r == 0) = false := by simp [hr]
      have hbo := begE_ok hb0
      have HB := Lib.hid hb0
      have HR := Lib.hid hr
      clear hb0 hr
      have c3 := blk_cell D1.out 3 rfl
      have c4 := blk_cell D1.out 4 rfl
      have c5 := blk_cell D1.out 5 rfl
      have c6 := blk_cell D1.out 6 rfl
      have c7 := blk_cell D1.out 7 rfl
      go_wp2_with fail
      go_loopw [29] (fun i wr => ∃ k m : Nat, k ≤ 5 ∧ i = .int .i64 k ∧ wr = w1.drewN m ∧ Hid (fstE (linkE vs v) k = 0)) (fun i _ => 5 - (intOf i).toNat)
      case atStart => exact ⟨0, 0, by omega, rfl, rfl, rfl⟩
      case round =>
        obtain ⟨k, m, hk, rfl, rfl, hall⟩ := hrel
        by_cases hlt : k < 5
        · have hix := arr_index v k hlt
          by_cases hm : v.h k = -1
          · have e2 : (v.h k == -1) = true := by simp [hm]
            have hz : Hid (fstE (linkE vs v) (k + 1) = 0) := by show fstE (linkE vs v) (k + 1) = 0; rw [fstE_step hall.out]; simp [linkE, hm]
            clear hm
            go_wp2_with fail
            go_roundw
            case rel => exact ⟨k + 1, _, by omega, by go_num, rfl, hz⟩
            case measure => simp [intOf]; omega
          · have e2 : (v.h k == -1) = false := by simpa using hm
            by_cases hb : v.h k < 0 ∨ (vs.length : Int) ≤ v.h k
            · have hz : Hid (fstE (linkE vs v) 5 = 6) := by
                show fstE (linkE vs v) 5 = 6
                have hb' : linkE vs v k = 6 := by unfold linkE; rw [if_neg hm, if_pos hb]
                rw [fstE_hit hall.out (by rw [hb']; decide) hlt, hb']
              clear hm
              rcases hb with hb | hb
              · go_wp2_with fail
                (try simp only [Exit.inBlock, Exit.then])
                refine ret_marks (Marks.nil w.heap.size _) (v := .int .i64 6) (fun W => by kernel_rfl) ?_
                intro W hS
                exact ⟨ret_int (by rw [checkE_link HB.out HR.out (by rw [hz.out]; decide), hz.out]), by first | exact (belN B1.out _).trans hS.below | exact (belN (belN B1.out _) _).trans hS.below⟩
              · have hb1 : ¬ v.h k < 0 := by omega
                go_wp2_with fail
                (try simp only [Exit.inBlock, Exit.then])
                refine ret_marks (Marks.nil w.heap.size _) (v := .int .i64 6) (fun W => by kernel_rfl) ?_
                intro W hS
                exact ⟨ret_int (by rw [checkE_link HB.out HR.out (by rw [hz.out]; decide), hz.out]), by first | exact (belN B1.out _).trans hS.below | exact (belN (belN B1.out _) _).trans hS.below⟩
            · obtain ⟨j, hj⟩ := Int.eq_ofNat_of_zero_le (show 0 ≤ v.h k by omega)
              have hjl : j < vs.length := by omega
              rw [hj] at hix e2
              have hlk : linkE vs v k = if vs[j].p ≠ (k : Int) ∨ vs[j].r ≠ v.r - 1 then 22 else 0 := by
                unfold linkE
                rw [if_neg hm, if_neg (by omega), hj, Int.toNat_natCast, getV_eq hjl]
              obtain ⟨b, off, rfl, hb1, r0, r1, _⟩ := (HT.out.rows.keep B1.out).row j hjl
              have hb2 : b < w1.heap.size := by omega
              clear hb hm hj c3 c4 c5 c6 c7
              by_cases hpk : vs[j].p = (k : Int)
              · by_cases hrk : vs[j].r = v.r - 1
                · have hz : Hid (fstE (linkE vs v) (k + 1) = 0) := by
                    show fstE (linkE vs v) (k + 1) = 0
                    rw [fstE_step hall.out, hlk, if_neg (by omega)]
                  have e3 : (vs[j].p != (k : Int)) = false := by simp [hpk]
                  have e4 : (vs[j].r != v.r - 1) = false := by simp [hrk]
                  clear hlk hpk hrk
                  go_wp2_with fail
                  go_quiet (fail)
                  go_wp2_with fail
                  go_roundw
                  case rel => exact ⟨k + 1, _, by omega, by go_num, rfl, hz⟩
                  case measure => simp [intOf]; omega
                · have hz : Hid (fstE (linkE vs v) 5 = 22) := by
                    show fstE (linkE vs v) 5 = 22
                    have hb' : linkE vs v k = 22 := by rw [hlk, if_pos (.inr hrk)]
                    rw [fstE_hit hall.out (by rw [hb']; decide) hlt, hb']
                  have e3 : (vs[j].p != (k : Int)) = false := by simp [hpk]
                  have e4 : (vs[j].r != v.r - 1) = true := by simpa using hrk
                  clear hlk hpk hrk
                  go_wp2_with fail
                  go_quiet (fail)
                  go_wp2_with fail
                  (try simp only [Exit.inBlock, Exit.then])
                  refine ret_marks (Marks.nil w.heap.size _) (v := .int .i64 22) (fun W => by kernel_rfl) ?_
                  intro W hS
                  exact ⟨ret_int (by rw [checkE_link HB.out HR.out (by rw [hz.out]; decide), hz.out]), by first | exact (belN B1.out _).trans hS.below | exact (belN (belN B1.out _) _).trans hS.below⟩
              · have hz : Hid (fstE (linkE vs v) 5 = 22) := by
                  show fstE (linkE vs v) 5 = 22
                  have hb' : linkE vs v k = 22 := by rw [hlk, if_pos (.inl hpk)]
                  rw [fstE_hit hall.out (by rw [hb']; decide) hlt, hb']
                have e3 : (vs[j].p != (k : Int)) = true := by simpa using hpk
                clear hlk hpk
                go_wp2_with fail
                go_quiet (fail)
                go_wp2_with fail
                (try simp only [Exit.inBlock, Exit.then])
                refine ret_marks (Marks.nil w.heap.size _) (v := .int .i64 22) (fun W => by kernel_rfl) ?_
                intro W hS
                exact ⟨ret_int (by rw [checkE_link HB.out HR.out (by rw [hz.out]; decide), hz.out]), by first | exact (belN B1.out _).trans hS.below | exact (belN (belN B1.out _) _).trans hS.below⟩
        · obtain rfl : k = 5 := by omega
          obtain ⟨wa, hwa⟩ : ∃ wa, w1.drewN m = wa := ⟨_, rfl⟩
          have A0 : Hid (wa.heap[w.heap.size]? = some (.cells #[.int .i64 n, .slice A vs.length cap] 33 (0, 0))) := by rw [← hwa]; exact D0.out
          have A1 : Hid (wa.heap[w.heap.size + 1]? = some (.cells v.cells 92 (0, 0))) := by rw [← hwa]; exact D1.out
          have AB : Hid (Below w.heap.size w wa) := by rw [← hwa]; exact belN B1.out m
          have la : w.heap.size + 1 < wa.heap.size := by rw [← hwa]; exact l1
          rw [hwa]
          clear hwa c0 c1 c3 c4 c5 c6 c7 D0 D1 B1 l1
          obtain ⟨q, hq0⟩ := Int.eq_ofNat_of_zero_le hbo.1
          have hq5 : q < 5 := by have := hbo.2.1; have := HW.out.2.1; omega
          have hq := blk_cell A1.out (3 + q) (v.cells_h q hq5)
          have c0 : wa.cell? ⟨w.heap.size + 1, 0, none⟩ = some (.int .i64 (q : Int)) := by rw [← hq0]; exact blk_cell A1.out 0 rfl
          have HQ := Lib.hid hq0
          have hqt : v.p.toNat = q := by omega
          by_cases hg : v.h q = -1
          · have e2 : (v.h q == -1) = true := by simp [hg]
            have hz := Lib.hid (checkE_gap HB.out HR.out hall.out (by rw [hqt]; exact hg))
            clear hg hq0 hbo
            go_wp2_with fail
            (try simp only [Exit.inBlock, Exit.then])
            refine ret_marks (Marks.nil w.heap.size _) (v := .int .i64 20) (fun W => by kernel_rfl) ?_
            intro W hS
            exact ⟨ret_int (hz.out.symm), AB.out.trans hS.below⟩
          · have e2 : (v.h q == -1) = false := by simpa using hg
            have hz := Lib.hid (checkE_cons HB.out HR.out hall.out (by rw [hqt]; exact hg))
            have hlk := hall.out
            have hp : v.p = (q : Int) := hq0
            have hkl := Lib.hid (kids_of_link hall.out)
            have hh := heard_any v
            have v0 : wa.cell? ⟨w.heap.size + 1, 0, none⟩ = some (.int .i64 v.p) := blk_cell A1.out 0 rfl
            have v1 := blk_cell A1.out 1 rfl
            have v2 := blk_cell A1.out 2 rfl
            have v3 := blk_cell A1.out 3 rfl
            have v4 := blk_cell A1.out 4 rfl
            have v5 := blk_cell A1.out 5 rfl
            have v6 := blk_cell A1.out 6 rfl
            have v7 := blk_cell A1.out 7 rfl
            have VV := Lib.hid (And.intro v0 (And.intro v1 (And.intro v2 (And.intro v3 (And.intro v4 (And.intro v5 (And.intro v6 v7)))))))
            clear v0 v1 v2 v3 v4 v5 v6 v7 hh hp hlk
            clear hg hq0 hbo
            go_upto_region 16 with fail
            obtain ⟨v0, v1, v2, v3, v4, v5, v6, v7⟩ := VV.out
            clear hq c0 HCH
            go_wp2_with fail
            obtain ⟨g8, hg8⟩ : ∃ g8, g8 = wa.heap.size := ⟨_, rfl⟩
            have hh := heard_any v (wa.alloc (.cells #[.slice none 0 0] 49))
            have o8 := blk_old (blk_new wa (.cells #[.slice none 0 0] 49)) (.cells v.cells 92)
            have o9 := blk_new (wa.alloc (.cells #[.slice none 0 0] 49)) (.cells v.cells 92)
            have oB : Below w.heap.size w ((wa.alloc (.cells #[.slice none 0 0] 49)).alloc (.cells v.cells 92)) := AB.out.trans ((bel2 wa _ _).mono AB.out.size)
            have o0 := blk_old (blk_old A0.out (.cells #[.slice none 0 0] 49)) (.cells v.cells 92)
            simp only [World.size_alloc] at hh o9
            rw [← hg8] at hh o8 o9 la ⊢
            refine hh.mono ?_
            rintro e wb ⟨rfl, hwb⟩
            rw [hwb] at o8 o9 oB o0
            have hbw : g8 + 1 < wb.heap.size := blk_lt o9
            clear hwb hh hg8 v0 v1 v2 v3 v4 v5 v6 v7 VV A0 A1 AB
            have XX := Lib.hid (heard1_iter v (g8 + 1) wb o9)
            have XY := Lib.hid o9
            have X0 := Lib.hid o0
            have XB := Lib.hid oB
            have hBb : w.heap.size ≤ wb.heap.size := oB.size
            have W2 := Lib.hid (BoxIn.start (B := w.heap.size) (g := g8) (xs := []) (w2 := wb) o8 (Own.nil _ _))
            clear o8 o9 o0 oB
            go_wp2_with fail
            refine wp_range rfl (enters_of Tryz.func152 (by kernel_rfl) rfl) XX.out (by rintro k rfl; exact hbw) (fun _ => rfl)
              (fun pre W => BoxIn w.heap.size g8 (([] : List Int) ++ pre.map fun x : { x // x ∈ heardL v } => x.1.2) wb W) (fun _ _ _ => False) (BoxIn.own [] (fun x : Int × Int => x.2) hBb) (fun _ _ _ _ _ h _ _ => h)
              W2.out ?a1 ?assign ?body ?done ?stop
            case assign =>
              intro l x W K hK
              gi_wp2
              exact hK
            case body =>
              intro l pre x W hI hlt
              have hl5 : (heardL v).length ≤ 5 := by have := kids_length v; simpa [kids] using this
              have hpl : (([] : List Int) ++ pre.map fun x : { x // x ∈ heardL v } => x.1.2).length ≤ 1000000 := by
                rw [List.length_append, List.length_map]; simp; omega
              have hsnoc : ([] : List Int) ++ (pre ++ [x]).map (fun x : { x // x ∈ heardL v } => x.1.2) = (([] : List Int) ++ pre.map fun x : { x // x ∈ heardL v } => x.1.2) ++ [x.1.2] := by simp
              obtain ⟨xs, hxs⟩ : ∃ xs, ([] : List Int) ++ pre.map (fun x : { x // x ∈ heardL v } => x.1.2) = xs := ⟨_, rfl⟩
              rw [hxs] at hI hpl
              obtain ⟨P2, c2, hbx2, ho2⟩ := hI.box
              have q6 := blk_cell hbx2 0 rfl
              have HIb := Lib.hid hI
              have HO := Lib.hid ho2
              have HB2 := Lib.hid hbx2
              have HS := Lib.hid hsnoc
              have HXS := Lib.hid hxs
              clear hI ho2 hbx2 hsnoc hxs
              gi_wp2_with (gi_at_builtin; go_must (refine wpListIn_app1 rfl _ _ rfl w.heap.size (.slice P2 xs.length c2) _ x.1.2 rfl HO.out rfl (by omega) (by have := blk_lt HB2.out; omega) ?_); intro v' w3 hown1 hg3 hb3
                           have h3b := (hg3.block g8 (blk_lt HB2.out) (fun e => own_type HO.out HB2.out (by decide) e.symm)).trans HB2.out
                           have q7 := blk_cell h3b 0 rfl
                           have f7 := blk_froz h3b 0
                           have l7 := blk_lt h3b
                           obtain ⟨A3, k3, rfl, h31, h32, _⟩ := hown1.form
                           have HO3 := Lib.hid hown1
                           have HG3 := Lib.hid hg3
                           clear h3b hown1 hg3 hb3)
              obtain ⟨r1, r2, r3⟩ := HIb.out.push (by omega) HB2.out HO.out HO3.out HG3.out (g8 + 1) _ (by omega) XY.out
              simp only [List.length_append, List.length_cons, List.length_nil, Nat.zero_add] at r1 r2 r3
              exact ⟨r1, r2, by dsimp only; rw [HS.out, HXS.out]; exact r3⟩
            case stop =>
              intro D c pre W _ _ h
              exact h.elim
            case done =>
              intro D ys W hD hys hI hDk
              have hl : ([] : List Int) ++ ys.map (fun x : { x // x ∈ heardL v } => x.1.2) = castL (kids v) := by
                rw [castL_kids]
                have := congrArg (List.map (fun x : Int × Int => x.2)) hys
                rw [← this, List.map_map]; rfl
              simp only [hl] at hI
              obtain ⟨P2, c2, hbx2, ho2⟩ := hI.box
              obtain ⟨A2', c2', e, hc1, hc2, hIA⟩ := ho2.form
              simp only [Value.slice.injEq] at e
              obtain ⟨rfl, _, rfl⟩ := e
              rw [castL_length] at hbx2 ho2
              have M1 := Lib.hid ((Marks.nil w.heap.size wb).cons (hI.non.same · _ · rfl) hBb hD hDk)
              have T1 := hI.rest _ _ _ X0.out (by decide) (by omega)
              have q8 := blk_cell hbx2 0 rfl
              have q0 := blk_cell T1 0 rfl
              have q1 := blk_cell T1 1 rfl
              have B2 := Lib.hid (XB.out.trans hI.non.below)
              have lt0 := blk_lt T1
              have lt8 := blk_lt hbx2
              have TT := Lib.hid T1
              have IA := Lib.hid hIA
              clear hI hbx2 ho2 hIA T1 W2
              go_wp2_with fail
              obtain ⟨gm, hgm⟩ : ∃ gm, gm = W.heap.size := ⟨_, rfl⟩
              have m0 := SetAt.made plEnc W
              have mB : Below w.heap.size w (W.alloc (.map #[] 0)) := B2.out.trans ((Below.refl _ _).alloc B2.out.size _)
              have mT := blk_old TT.out (.map #[] 0)
              have mI := IA.out.up ((Below.refl _ W).alloc (Nat.le_refl _) (.map #[] 0))
              have mM : Marks w.heap.size _ (W.alloc (.map #[] 0)) := M1.out.keep fun k hk => blk_old hk _
              have hsz : (W.alloc (.map #[] 0)).heap.size = gm + 1 := by simp [hgm]
              obtain ⟨Wm, hWm⟩ : ∃ Wm, W.alloc (.map #[] 0) = Wm := ⟨_, rfl⟩
              rw [← hgm, hWm] at m0
              rw [hWm] at mB mT mI mM hsz
              rw [← hgm] at lt0 lt8 ⊢
              rw [hWm]
              have hpast := past_any n A P2 cap c2 vs (kids v) Wm (HT.out.keep mB) HW.out.acyc mI hkl.out (by have := kids_length v; omega)
              refine hpast.mono ?_
              rintro e W3 ⟨v3, rfl, ho3, hb3⟩
              obtain ⟨P3, c3, rfl, hc31, hc32, hI3⟩ := ho3.form
              rw [castL_length] at hc31 ho3
              have s3 := m0.kept hb3 (by omega)
              have T3 := Lib.hid ((hb3.block _ (by omega)).trans mT)
              have B3 := Lib.hid (mB.trans (hb3.mono (by omega)))
              have M3 : Hid (Marks w.heap.size [{ target := Target.collected D, args := #[] }] W3) := mM.keep fun k hk => (hb3.block k (Array.getElem?_eq_some_iff.1 hk).1).trans hk
              have O3 := Lib.hid ho3
              have I3 := Lib.hid hI3
              have sz3 : gm + 1 ≤ W3.heap.size := by have := hb3.size; omega
              have hll : (pastL vs (kids v)).length ≤ vs.length := by have := past_len vs (kids v); rwa [castL_length] at this
              have hmem := Lib.hid (fun x (hx : x ∈ pastL vs (kids v)) => (mem_pastL.1 hx).1)
              obtain ⟨ls, hls⟩ : ∃ ls, pastL vs (kids v) = ls := ⟨_, rfl⟩
              rw [castL_length, hls]
              rw [hls] at hc31 hz I3 O3 hll hmem
              have HSZ := Lib.hid hsz
              clear hls hpast m0 mB mT mI mM hb3 ho3 hI3 hWm hgm hsz q0 q1 q8
              go_wp2_with fail
              go_loopw [87] (fun i wr => ∃ (k : Nat) (S : List (Int × Int)), k ≤ ls.length ∧ i = .int .i64 k ∧ SetAt plEnc wr gm S ∧ Hid (PlaceInv vs ls k S) ∧ W3.grownBy wr (some gm)) (fun i _ => ls.length - (intOf i).toNat)
              case atStart => exact ⟨0, [], by omega, rfl, s3, PlaceInv.start _ _, World.grownBy.refl _ _⟩
              case round =>
                obtain ⟨k, S, hk, rfl, hset, hinv, hgr⟩ := hrel
                have BW : Hid (Below w.heap.size w wr) := B3.out.grown hgr (by have := B3.out.size; omega) (fun k e => by cases e; omega)
                have MW : Hid (Marks w.heap.size [{ target := Target.collected D, args := #[] }] wr) := M3.out.keep fun k hk => by
                  obtain ⟨_, es, ck, hm, _⟩ := s3
                  exact (hgr.block k (Array.getElem?_eq_some_iff.1 hk).1 (fun e => by cases e; rw [hm] at hk; cases hk)).trans hk
                by_cases hlt : k < ls.length
                · have hx := hmem.out ls[k] (List.getElem_mem hlt)
                  obtain ⟨x, hxk⟩ : ∃ x, ls[k] = x := ⟨_, rfl⟩
                  rw [hxk] at hx
                  have hlen : (castL ls).length = ls.length := castL_length ls
                  obtain ⟨b3, off3, rfl, hb3, hc3⟩ := I3.out.at_ k (by omega)
                  have hge : gm + 1 ≤ b3 := by have := (O3.out.lt b3 rfl).1; have := HSZ.out; omega
                  have hcx : (castL ls)[k]'(by omega) = (x : Int) := by simp [castL, hxk]
                  rw [hcx] at hc3
                  have r3 := (World.cell?_of_block (hgr.block b3 hb3 (by simp; omega))).trans hc3
                  obtain ⟨b, off, rfl, hbb, c0, c1, _⟩ := (HT.out.rows.keep BW.out).row x hx
                  have t1 := blk_cell ((hgr.block w.heap.size (blk_lt T3.out) (by simp; omega)).trans T3.out) 1 rfl
                  have hbx : b < wr.heap.size := by have := BW.out.size; omega
                  have hbt : w.heap.size < wr.heap.size := by have := hgr.size; omega
                  have hs0 : (0 : Int) ≤ (x : Int) := by omega
                  have hs1 : (x : Int) < (vs.length : Int) := by omega
                  have HSET := Lib.hid hset
                  have HGR := Lib.hid hgr
                  have S3 := Lib.hid s3
                  have hgd : ls.getD k 0 = x := by rw [List.getD_eq_getElem?_getD, List.getElem?_eq_getElem hlt]; exact hxk
                  have HGD := Lib.hid hgd
                  have HXK := Lib.hid hxk
                  have HV := Lib.hid (getV_eq hx)
                  clear hset hgr s3 hgd hxk hlen hcx hc3
                  go_upto_region 23 with fail
                  go_cut [14] from 91 to 103 (fun s14 wx => ∃ g : Nat, s14 = .pointer (some ⟨g, 0, none⟩) ∧ wx.cell? ⟨g, 0, none⟩ = some (.int .i64 vs[x].p) ∧ wx.cell? ⟨g, 1, none⟩ = some (.int .i64 vs[x].r) ∧ Below wr.heap.size wr wx)
                  case first =>
                    clear r3 HT HW HR HB M1 B2 TT IA T3 B3 M3 O3 I3 hmem HSET HGR S3 HGD HXK HV hinv BW MW hz hkl XX XY X0 XB hall HQ
                    have t1' : wr.cell? ⟨w.heap.size, 1, none⟩ = some (.slice (some ⟨b, off, none⟩) vs.length cap) := t1
                    clear t1
                    go_region_held3 (fun w' => w'.cell? ⟨w.heap.size, 1, none⟩ = some (.slice (some ⟨b, off, none⟩) vs.length cap) ∧ w'.cell? ⟨b, off + x * 8, none⟩ = some (.int .i64 vs[x].p) ∧ w'.cell? ⟨b, off + x * 8 + 1, none⟩ = some (.int .i64 vs[x].r))
                      (first | exact ⟨t1', c0, c1⟩ | exact ⟨(World.cell?_alloc_lt _ _ _ hbt).trans t1', (World.cell?_alloc_lt _ _ _ hbx).trans c0, (World.cell?_alloc_lt _ _ _ hbx).trans c1⟩)
                      (fail)
                    all_goals
                      go_wp2_with fail
                      go_meet
                    all_goals
                      exact ⟨wr.heap.size, rfl, by simp [go_sem], by simp [go_sem], (bel1 wr _).drew⟩
                  case rest =>
                    obtain ⟨g, rfl, x0, x1, hbz⟩ := hcut
                    have xset := HSET.out.kept hbz HSET.out.lt
                    have hlk := xset.look (t := 244) place_key Tryz.underlying244 zero_bool (vs[x].p, vs[x].r)
                    unfold plEnc at hlk
                    dsimp only at hlk
                    have hpl : placeOf vs (ls.getD k 0) = (vs[x].p, vs[x].r) := by rw [HGD.out]; unfold placeOf; rw [HV.out]
                    have BX : Hid (Below w.heap.size w wc) := BW.out.trans (hbz.mono BW.out.size)
                    have MX : Hid (Marks w.heap.size [{ target := Target.collected D, args := #[] }] wc) := MW.out.keep fun k hk => (hbz.block k (Array.getElem?_eq_some_iff.1 hk).1).trans hk
                    have HBZ := Lib.hid hbz
                    by_cases hin : (vs[x].p, vs[x].r) ∈ S
                    · have hy : Hid (checkE (n : Int) vs v = 22) := by
                        show checkE (n : Int) vs v = 22
                        rw [hz.out, if_neg (hinv.out.bad hlt (by rw [hpl]; exact hin))]
                      simp only [hin, decide_true] at hlk
                      clear hin hpl hbz xset c0 c1 t1 r3
                      go_wp2_with fail
                      (try simp only [Exit.inBlock, Exit.then])
                      refine ret_marks MX.out (v := .int .i64 22) (fun W => by kernel_rfl) ?_
                      intro W hS
                      exact ⟨ret_int hy.out.symm, BX.out.trans hS.below⟩
                    · have hst : Hid (PlaceInv vs ls (k + 1) ((vs[x].p, vs[x].r) :: S)) := by
                        have := hinv.out.step (by rw [hpl]; exact hin)
                        rw [hpl] at this
                        exact this
                      simp only [hin, decide_false] at hlk
                      have XSET := Lib.hid xset
                      clear hin hpl hbz xset c0 c1 t1 r3
                      go_wp2_with (at_mapUpdate; refine wpList_add _ rfl _ _ _ _ _ rfl place_key Tryz.underlying244 gm S XSET.out (vs[x].p, vs[x].r) rfl rfl rfl ?_; intro w5 hset5 hg5)
                      go_roundw
                      case rel => exact ⟨k + 1, (vs[x].p, vs[x].r) :: S, by omega, by go_num, hset5, hst, HGR.out.trans ((grown_below HBZ.out).trans hg5)⟩
                      case measure => simp [intOf]; omega
                · obtain rfl : k = ls.length := by omega
                  have hy : Hid (checkE (n : Int) vs v = 0) := by show checkE (n : Int) vs v = 0; rw [hz.out, if_pos hinv.out.fine]
                  have BW' := BW
                  go_wp2_with fail
                  (try simp only [Exit.inBlock, Exit.then])
                  refine ret_marks MW.out (v := .int .i64 0) (fun W => by kernel_rfl) ?_
                  intro W hS
                  exact ⟨ret_int hy.out.symm, BW.out.trans hS.below⟩
  · have e0 : (begE n v != 0) = true := by simpa using hb0
    have hz := Lib.hid (checkE_beg (n := n) (vs := vs) (v := v) (.inl hb0))
    clear hb0
    go_wp2_with fail
    (try simp only [Exit.inBlock, Exit.then])
    refine ret_marks (Marks.nil w.heap.size _) (v := .int .i64 (begE n v)) (fun W => by kernel_rfl) ?_
    intro W hS
    exact ⟨ret_int (hz.out.symm), B1.out.trans hS.below⟩
end Go.Proofs.YtnikmmdadflefaaGreatDoor
namespace Go.Proofs.YtnikmmdadflefaaGreatDoor
open Go.RowKit
theorem TArg.take {w : World} {A : Option Addr} {cap : Nat} {vs : List Vw} (h : TArg w A cap vs) (k : Nat) : TArg w A cap (vs.take k) :=
  ⟨h.rows.take k, by have := h.lec; simp; omega, h.lem, by have := h.few; simp; omega⟩
end Go.Proofs.YtnikmmdadflefaaGreatDoor
namespace Go.Proofs.YtnikmmdadflefaaGreatDoor
open Go.RowKit
theorem check_take (n : Nat) (A : Option Addr) (cap : Nat) (vs : List Vw) (k : Nat) (hk : k ≤ vs.length) (v : Vw) (w : World) (hT : TArg w A cap vs) (hw : Wf (n : Int) (vs.take k)) :
    Calls Tryz.prog 151 #[.agg #[.int .i64 n, .slice A k cap], .agg v.cells] w fun e w' => e = .returned (.int .i64 (checkE n (vs.take k) v)) ∧ Below w.heap.size w w' := by
  have := check2_any n A cap (vs.take k) v w (hT.take k) hw
  rwa [List.length_take, Nat.min_eq_left hk] at this
theorem mem_step {vs S : List Vw} {k : Nat} (hlt : k < vs.length) (h : ∀ x, x ∈ S ↔ x ∈ vs.take k) : ∀ x, x ∈ vs[k] :: S ↔ x ∈ vs.take (k + 1) := by
  intro x
  rw [List.mem_cons, h, List.take_add_one, List.getElem?_eq_getElem hlt]
  simp only [Option.toList, List.mem_append, List.mem_singleton]
  exact or_comm
def vEnc (v : Vw) : Value := .agg v.cells
theorem view_key' : KeyOk Tryz.prog 92 vEnc := view_key
theorem tablemapV (w : World) : ∃ W0, w.alloc (.map #[] 0) = W0 ∧ SetAt vEnc W0 w.heap.size [] ∧ W0.heap.size = w.heap.size + 1 ∧ Below w.heap.size w W0 :=
  ⟨_, rfl, SetAt.made vEnc w, by simp, (Below.refl _ _).alloc (Nat.le_refl _) _⟩
set_option maxRecDepth 100000 in
set_option maxHeartbeats 4000000 in
theorem vcheck_any (n : Int) (A : Option Addr) (cap : Nat) (vs : List Vw) (w : World) (hT : TArg w A cap vs) :
    Calls Tryz.prog 104 #[.agg #[.int .i64 n, .slice A vs.length cap]] w fun e w' => e = .returned (.int .i64 (CheckE n vs)) ∧ Below w.heap.size w w' := by
  have HT := Lib.hid hT
  have hfew := hT.few
  have hmm := @run_makeMap Tryz.prog
  have HB := bel1 w
  clear hT
  by_cases hn : n < 1 ∨ 5 < n
  · have hz : Hid (CheckE n vs = 1) := by show CheckE n vs = 1; unfold CheckE; rw [if_pos hn]
    go_enter Tryz.func104, Tryz.ntmps104
    by_cases h1 : n < 1
    · clear hn
      go_wp2_with fail
      go_ret
      exact ⟨ret_int hz.out.symm, HB _⟩
    · have h5 : 5 < n := by omega
      clear hn
      go_wp2_with fail
      go_ret
      exact ⟨ret_int hz.out.symm, HB _⟩
  · have h1 : ¬ n < 1 := by omega
    have h5 : ¬ 5 < n := by omega
    by_cases hm : 8192 < vs.length
    · have hz : Hid (CheckE n vs = 5) := by show CheckE n vs = 5; unfold CheckE; rw [if_neg hn, if_pos hm]
      clear hn
      go_enter Tryz.func104, Tryz.ntmps104
      go_wp2_with fail
      go_ret
      exact ⟨ret_int hz.out.symm, HB _⟩
    · have hz : Hid (CheckE n vs = fstE (rowE n vs) vs.length) := by show CheckE n vs = _; unfold CheckE; rw [if_neg hn, if_neg hm]
      obtain ⟨N, rfl⟩ := Int.eq_ofNat_of_zero_le (show 0 ≤ n by omega)
      have hn1 : 1 ≤ N := by omega
      have hn5 : N ≤ 5 := by omega
      clear hn
      go_enter Tryz.func104, Tryz.ntmps104
      go_wp2_with fail
      obtain ⟨gm, hgm⟩ : ∃ gm, gm = w.heap.size + 1 := ⟨_, rfl⟩
      obtain ⟨W0, hW0, m0, hsz, hB0⟩ := tablemapV (w.alloc (.cells #[.int .i64 N, .slice A vs.length cap] 33))
      have b0 := (hB0.block w.heap.size (by simp)).trans (blk_new w (.cells #[.int .i64 N, .slice A vs.length cap] 33))
      have B0 := Lib.hid ((HB (.cells #[.int .i64 N, .slice A vs.length cap] 33)).trans (hB0.mono (by simp)))
      rw [hW0]
      simp only [World.size_alloc] at m0 hsz
      rw [← hgm] at m0 hsz ⊢
      clear hW0 hB0
      have hgw : w.heap.size < gm := by omega
      have hsz0 : gm < W0.heap.size := by omega
      have HGM := Lib.hid hgm
      clear hgm hsz HB
      go_loopw [25] (fun i wr => ∃ (k : Nat) (S : List Vw), k ≤ vs.length ∧ i = .int .i64 k ∧ Hid (fstE (rowE N vs) k = 0) ∧ SetAt vEnc wr gm S ∧ Hid (∀ x, x ∈ S ↔ x ∈ vs.take k) ∧ W0.grownBy wr (some gm)) (fun i _ => vs.length - (intOf i).toNat)
      case atStart => exact ⟨0, [], by omega, rfl, rfl, m0, by show ∀ x, x ∈ [] ↔ x ∈ vs.take 0; simp, World.grownBy.refl _ _⟩
      case round =>
        obtain ⟨k, S, hk, rfl, hall, hset, hS, hgr⟩ := hrel
        have BW : Hid (Below w.heap.size w wr) := B0.out.grown hgr (by omega) (fun k e => by cases e; omega)
        have d0 := (hgr.block w.heap.size (by omega) (by simp; omega)).trans b0
        have t0 := blk_cell d0 0 rfl
        have t1 := blk_cell d0 1 rfl
        have hgwr : w.heap.size < wr.heap.size := by have := hgr.size; omega
        have HGR := Lib.hid hgr
        have D0 := Lib.hid d0
        have HSET := Lib.hid hset
        clear hgr d0 hset
        by_cases hlt : k < vs.length
        · have hwf : Wf (N : Int) (vs.take k) := ⟨by omega, by omega, fun j hj => by
            simp at hj
            rw [rowE_take (by omega)]
            exact fstE_zero.1 hall.out j (by omega)⟩
          have hTr := HT.out.keep BW.out
          have hcap : k ≤ cap := by have := hTr.lec; omega
          have hk0 : (0 : Int) ≤ (k : Int) := by omega
          have hk1 : (k : Int) ≤ (cap : Int) := by omega
          have hk2 : (k : Int) < (vs.length : Int) := by omega
          obtain ⟨b, off, rfl, hb1, c0, c1, c2, c3, c4, c5, c6, c7⟩ := hTr.rows.row k hlt
          have HTr := Lib.hid hTr
          have HWF := Lib.hid hwf
          clear hTr hwf
          go_upto_region 9 with fail
          refine wp_one ?_
          intro W1 e0 hsz1 hB1
          obtain ⟨g, hg⟩ : ∃ g, g = wr.heap.size := ⟨_, rfl⟩
          rw [← hg] at e0 ⊢
          have hg1 : g < W1.heap.size := by omega
          have s0 := (hB1.cell (p := ⟨w.heap.size, 0, none⟩) hgwr).trans t0
          have s1 := (hB1.cell (p := ⟨w.heap.size, 1, none⟩) hgwr).trans t1
          have hgw1 : w.heap.size < W1.heap.size := by omega
          have mset := HSET.out.kept hB1 HSET.out.lt
          have hT1 := HTr.out.keep hB1
          have HTX : Hid (∀ X : World, Below W1.heap.size W1 X → TArg X (some ⟨b, off, none⟩) cap vs) := fun X hX => hT1.keep hX
          have q0 := blk_cell e0 0 rfl
          have q1 := blk_cell e0 1 rfl
          have q2 := blk_cell e0 2 rfl
          have q3 := blk_cell e0 3 rfl
          have q4 := blk_cell e0 4 rfl
          have q5 := blk_cell e0 5 rfl
          have q6 := blk_cell e0 6 rfl
          have q7 := blk_cell e0 7 rfl
          have hb1w : Hid (Below wr.heap.size wr W1) := hB1
          have MS := Lib.hid mset
          have HSZ1 := Lib.hid hsz1
          have HGG := Lib.hid hg
          clear c0 c1 c2 c3 c4 c5 c6 c7 t0 t1 hT1 hB1 e0 hgwr hb1 mset hsz1 hg
          go_region_held3 (fun w' => w'.cell? ⟨w.heap.size, 0, none⟩ = some (.int .i64 N) ∧ w'.cell? ⟨w.heap.size, 1, none⟩ = some (.slice (some ⟨b, off, none⟩) vs.length cap) ∧
              w'.cell? ⟨g, 0, none⟩ = some (.int .i64 vs[k].p) ∧ w'.cell? ⟨g, 1, none⟩ = some (.int .i64 vs[k].r) ∧ w'.cell? ⟨g, 2, none⟩ = some (.int .i64 vs[k].i) ∧
              w'.cell? ⟨g, 3, none⟩ = some (.int .i64 vs[k].h0) ∧ w'.cell? ⟨g, 4, none⟩ = some (.int .i64 vs[k].h1) ∧ w'.cell? ⟨g, 5, none⟩ = some (.int .i64 vs[k].h2) ∧
              w'.cell? ⟨g, 6, none⟩ = some (.int .i64 vs[k].h3) ∧ w'.cell? ⟨g, 7, none⟩ = some (.int .i64 vs[k].h4))
            (first
              | exact ⟨s0, s1, q0, q1, q2, q3, q4, q5, q6, q7⟩
              | exact keep10 (W0 := W1) (B := W1.heap.size) (belU hb2) hgw1 hg1 ⟨s0, s1, q0, q1, q2, q3, q4, q5, q6, q7⟩)
            ((go_at_call 151; refine (check_take N _ cap vs k (Nat.le_of_lt hlt) vs[k] _ (HTX.out _ (Below.refl _ _).drew) HWF.out).mono ?_; rintro e w2 ⟨rfl, hb2⟩))
          have hrow : rowE N vs k = if checkE N (vs.take k) vs[k] ≠ 0 then checkE N (vs.take k) vs[k] else if vs[k] ∈ vs.take k then 7 else 0 := by
            unfold rowE; rw [getV_eq hlt]
          have HROW := Lib.hid hrow
          clear hrow
          have hB2 : Below W1.heap.size W1 w2 := belU hb2
          have x2 : Hid (Below w.heap.size w w2) := BW.out.trans (hb1w.out.trans (hB2.mono (by have := HGG.out; omega)) |>.mono BW.out.size)
          have G2 : Hid (W0.grownBy w2 (some gm)) := HGR.out.trans ((grown_below hb1w.out).trans (grown_below hB2))
          have MS2 := MS.out.kept hB2 MS.out.lt
          obtain ⟨y0, y1, r0, r1, r2, r3, r4, r5, r6, r7⟩ := keep10 hB2 hgw1 hg1 ⟨s0, s1, q0, q1, q2, q3, q4, q5, q6, q7⟩
          have hlk := MS2.look (t := 225) view_key' Tryz.underlying225 zero_bool vs[k]
          unfold vEnc Vw.cells at hlk
          have M2 := Lib.hid MS2
          clear hb2 hB2 s0 s1 q0 q1 q2 q3 q4 q5 q6 q7 MS2
          by_cases hc : checkE N (vs.take k) vs[k] = 0
          · have e2 : (checkE N (vs.take k) vs[k] != 0) = false := by simp [hc]
            have HC := Lib.hid hc
            clear hc
            by_cases hin : vs[k] ∈ S
            · have hz7 : Hid (fstE (rowE N vs) vs.length = 7) := by
                have hm7 := (hS.out _).1 hin
                show _ = _
                rw [fstE_hit hall.out (by rw [HROW.out, if_neg (by rw [HC.out]; simp), if_pos hm7]; decide) hlt, HROW.out, if_neg (by rw [HC.out]; simp), if_pos hm7]
              simp only [hin, decide_true] at hlk
              clear hin
              go_wp2_with fail
              go_ret
              exact ⟨ret_int (by rw [hz.out, hz7.out]), x2.out⟩
            · have hz7 : Hid (fstE (rowE N vs) (k + 1) = 0) := by
                have hm7 := fun h => hin ((hS.out _).2 h)
                show _ = _
                rw [fstE_step hall.out, HROW.out, if_neg (by rw [HC.out]; simp), if_neg hm7]
              simp only [hin, decide_false] at hlk
              clear hin
              go_wp2_with (at_mapUpdate; refine wpList_add _ rfl _ _ _ _ _ rfl view_key' Tryz.underlying225 gm S M2.out vs[k] rfl rfl rfl ?_; intro w5 hset5 hg5)
              go_roundw
              case rel => exact ⟨k + 1, vs[k] :: S, by omega, by go_num, hz7, hset5, mem_step hlt hS.out, G2.out.trans hg5⟩
              case measure => simp [intOf]; omega
          · have e2 : (checkE N (vs.take k) vs[k] != 0) = true := by simpa using hc
            have HC := Lib.hid hc
            clear hc
            go_wp2_with fail
            go_ret
            exact ⟨ret_int (by rw [hz.out, fstE_hit hall.out (by rw [HROW.out, if_pos HC.out]; exact HC.out) hlt, HROW.out, if_pos HC.out]), x2.out⟩
        · obtain rfl : k = vs.length := by omega
          go_wp2_with fail
          go_ret
          exact ⟨ret_int (by rw [hz.out, hall.out]), BW.out⟩
end Go.Proofs.YtnikmmdadflefaaGreatDoor
namespace Go.Proofs.YtnikmmdadflefaaGreatDoor
open Go.RowKit
def inB (vs : List Vw) (i : Int) : Bool := decide (0 ≤ i ∧ i < (vs.length : Int))
def atE (n : Int) (vs : List Vw) (l : List Int) : Int := if CheckE n vs ≠ 0 then CheckE n vs else if l.all (inB vs) = true then 0 else 6
theorem atE_bad {n : Int} {vs : List Vw} {l : List Int} (h : CheckE n vs ≠ 0) : atE n vs l = CheckE n vs := by unfold atE; rw [if_pos h]
theorem atE_all {n : Int} {vs : List Vw} {l : List Int} (h : CheckE n vs = 0) (ha : l.all (inB vs) = true) : atE n vs l = 0 := by unfold atE; rw [if_neg (by simp [h]), if_pos ha]
theorem atE_six {n : Int} {vs : List Vw} {l : List Int} (h : CheckE n vs = 0) (ha : l.all (inB vs) ≠ true) : atE n vs l = 6 := by unfold atE; rw [if_neg (by simp [h]), if_neg ha]
theorem all_hit {vs : List Vw} {l : List Int} {k : Nat} (hk : k < l.length) (h : inB vs l[k] = false) : l.all (inB vs) ≠ true := fun ha => by
  have := List.all_eq_true.1 ha _ (List.getElem_mem hk)
  rw [h] at this; cases this
theorem all_stepA {vs : List Vw} {l : List Int} {k : Nat} (hk : k < l.length) (ha : (l.take k).all (inB vs) = true) (h : inB vs l[k] = true) : (l.take (k + 1)).all (inB vs) = true := by
  rw [List.take_add_one, List.getElem?_eq_getElem hk, List.all_append, ha]
  simp [h]
set_option maxRecDepth 100000 in
set_option maxHeartbeats 4000000 in
theorem vat_any (n : Int) (A L : Option Addr) (cap lcap : Nat) (vs : List Vw) (l : List Int) (w : World) (hT : TArg w A cap vs) (hL : IAt w w.heap.size L l) (hl : l.length ≤ 1000) :
    Calls Tryz.prog 51 #[.agg #[.int .i64 n, .slice A vs.length cap], .slice L l.length lcap] w fun e w' => e = .returned (.int .i64 (atE n vs l)) ∧ Below w.heap.size w w' := by
  have HT := Lib.hid hT
  have HL := Lib.hid hL
  have hfew := hT.few
  clear hT hL
  go_enter Tryz.func51, Tryz.ntmps51
  go_wp2_with fail
  obtain ⟨W0, hW0, b0, hsz, hB0⟩ := onebox w #[.int .i64 n, .slice A vs.length cap] 33
  rw [hW0]
  clear hW0
  refine (vcheck_any n A cap vs W0 (HT.out.keep hB0)).mono ?_
  rintro e w1 ⟨rfl, hb⟩
  have d0 := (hb.block _ (by omega)).trans b0
  have B1 : Hid (Below w.heap.size w w1) := hB0.trans (hb.mono (by omega))
  have l1 : w.heap.size < w1.heap.size := by have := hb.size; omega
  have t1 := blk_cell d0 1 rfl
  clear b0 hsz hB0 hb d0
  by_cases hc : CheckE n vs = 0
  · have e0 : (CheckE n vs != 0) = false := by simp [hc]
    have HC := Lib.hid hc
    clear hc
    go_wp2_with fail
    go_loop [15] (fun i => ∃ k : Nat, k ≤ l.length ∧ i = .int .i64 k ∧ Hid ((l.take k).all (inB vs) = true)) (fun i => l.length - (intOf i).toNat)
    case atStart => exact ⟨0, by omega, rfl, by show (l.take 0).all (inB vs) = true; simp⟩
    case round =>
      obtain ⟨k, hk, rfl, hall⟩ := hrel
      by_cases hlt : k < l.length
      · obtain ⟨b, off, rfl, hbl, r0⟩ := HL.out.at_ k hlt
        have r1 := (B1.out.cell (p := ⟨b, off + k, none⟩) hbl).trans r0
        have hb2 : b < w1.heap.size := by omega
        obtain ⟨i, hi⟩ : ∃ i, l[k] = i := ⟨_, rfl⟩
        rw [hi] at r1
        clear r0
        by_cases h1 : i < 0
        · have hz := Lib.hid (atE_six HC.out (all_hit hlt (by unfold inB; rw [hi]; simp; omega)))
          clear hi
          go_wp2_with fail
          go_ret
          exact ⟨ret_int hz.out.symm, B1.out⟩
        · by_cases h2 : (vs.length : Int) ≤ i
          · have hz := Lib.hid (atE_six HC.out (all_hit hlt (by unfold inB; rw [hi]; simp; omega)))
            clear hi
            go_wp2_with fail
            go_ret
            exact ⟨ret_int hz.out.symm, B1.out⟩
          · have hz := Lib.hid (all_stepA hlt hall.out (by unfold inB; rw [hi]; simp; omega))
            clear hi
            go_wp2_with fail
            go_round
            case rel => exact ⟨k + 1, by omega, by go_num, hz⟩
            case measure => simp [intOf]; omega
      · obtain rfl : k = l.length := by omega
        have hz := Lib.hid (atE_all HC.out (by have := hall.out; rwa [List.take_length] at this))
        go_wp2_with fail
        go_ret
        exact ⟨ret_int hz.out.symm, B1.out⟩
  · have e0 : (CheckE n vs != 0) = true := by simpa using hc
    have hz := Lib.hid (atE_bad (l := l) hc)
    clear hc
    go_wp2_with fail
    go_ret
    exact ⟨ret_int hz.out.symm, B1.out⟩
end Go.Proofs.YtnikmmdadflefaaGreatDoor
namespace Go.Proofs.YtnikmmdadflefaaGreatDoor
open Go.RowKit
theorem inB_iff {vs : List Vw} {i : Int} : inB vs i = true ↔ 0 ≤ i ∧ i < (vs.length : Int) := by unfold inB; simp
theorem atE_ok {n : Int} {vs : List Vw} {l : List Int} (h : atE n vs l = 0) : Wf n vs ∧ vs.length ≤ 8192 ∧ ∀ i, i ∈ l → 0 ≤ i ∧ i < (vs.length : Int) := by
  unfold atE at h
  split at h
  · rename_i h1; exact absurd h h1
  · rename_i h1
    split at h
    · rename_i h2
      have := Wf.of_CheckE (by simpa using h1)
      exact ⟨this.1, this.2, fun i hi => inB_iff.1 (List.all_eq_true.1 h2 i hi)⟩
    · cases h
def RetTwo (r : Int × Int) (w : World) (e : Ending) (w' : World) : Prop := e = .returned (.tuple #[.int .i64 r.1, .int .i64 r.2]) ∧ Below w.heap.size w w'
theorem RetTwo.of {r : Int × Int} {w w' : World} {a c : Int} (h : r = (a, c)) (hb : Below w.heap.size w w') : RetTwo r w (.returned (.tuple #[.int .i64 a, .int .i64 c])) w' := ⟨by rw [h], hb⟩
theorem Wf.beg {n : Int} {vs : List Vw} (h : Wf n vs) {i : Nat} (hi : i < vs.length) : begE n vs[i] = 0 := by
  have := (checkE_ok (rowE_ok (h.2.2 i hi)).1).1
  rwa [getV_eq hi] at this
end Go.Proofs.YtnikmmdadflefaaGreatDoor
namespace Go.Proofs.YtnikmmdadflefaaGreatDoor
open Go.RowKit
attribute [local go_sem] Oper.semAt_some
def exMv (p : Int) : Mv := ⟨⟨2, p, 3, 0, 0, 0, 0⟩, 0⟩
def exC1 : Cs := ⟨[0, 0], [[0, 0]], []⟩
def exC2 : Cs := ⟨[0, 1], [[0, 0]], []⟩
def exPb : Pb := ⟨⟨2, 2, 1, [exC1, exC2]⟩, ⟨2, [[exMv 1, exMv 3]]⟩, 1⟩
set_option maxHeartbeats 1000000 in
theorem move_any (p : Int) (w : World) : Calls Tryz.prog 110 #[.int .i64 p] w fun e w' => e = .returned (.agg #[.int .i64 2, .int .i64 p, .int .i64 3, .int .i64 0, .int .i64 0, .int .i64 0, .int .i64 0, .int .i64 0]) ∧ Below w.heap.size w w' := by
  go_enter Tryz.func110, Tryz.ntmps110
  go_wp2_with fail
  refine bodyPost_ret (v := .agg #[.int .i64 2, .int .i64 p, .int .i64 3, .int .i64 0, .int .i64 0, .int .i64 0, .int .i64 0, .int .i64 0]) (by simp [results, Tryz.results110, go_sem]) rfl ⟨rfl, ?_⟩
  first
    | exact bel1 w _
    | (refine Below.setCell ?_ (Nat.le_refl _) _
       refine Below.setCell ?_ (Nat.le_refl _) _
       refine Below.setCell ?_ (Nat.le_refl _) _
       refine Below.setCell ?_ (Nat.le_refl _) _
       refine Below.setCell ?_ (Nat.le_refl _) _
       refine Below.setCell ?_ (Nat.le_refl _) _
       refine Below.setCell ?_ (Nat.le_refl _) _
       refine Below.setCell ?_ (Nat.le_refl _) _
       exact bel1 w _)
theorem pb_store7 {w X : World} {g B : Nat} {a0 a1 a2 a3 a4 a5 a6 : Value} (v0 v1 v2 v3 v4 v5 v6 : Value) (hg : X.heap[g]? = some (.cells #[a0, a1, a2, a3, a4, a5, a6] 29 (0, 0))) (hB : Below B w X) (h1 : B ≤ g) :
    (((((((X.setCell ⟨g, 0, none⟩ v0).setCell ⟨g, 1, none⟩ v1).setCell ⟨g, 2, none⟩ v2).setCell ⟨g, 3, none⟩ v3).setCell ⟨g, 4, none⟩ v4).setCell ⟨g, 5, none⟩ v5).setCell ⟨g, 6, none⟩ v6).heap[g]? = some (.cells #[v0, v1, v2, v3, v4, v5, v6] 29 (0, 0)) ∧ Below B w (((((((X.setCell ⟨g, 0, none⟩ v0).setCell ⟨g, 1, none⟩ v1).setCell ⟨g, 2, none⟩ v2).setCell ⟨g, 3, none⟩ v3).setCell ⟨g, 4, none⟩ v4).setCell ⟨g, 5, none⟩ v5).setCell ⟨g, 6, none⟩ v6) ∧ (∀ k, k ≠ g → (((((((X.setCell ⟨g, 0, none⟩ v0).setCell ⟨g, 1, none⟩ v1).setCell ⟨g, 2, none⟩ v2).setCell ⟨g, 3, none⟩ v3).setCell ⟨g, 4, none⟩ v4).setCell ⟨g, 5, none⟩ v5).setCell ⟨g, 6, none⟩ v6).heap[k]? = X.heap[k]?) ∧ (((((((X.setCell ⟨g, 0, none⟩ v0).setCell ⟨g, 1, none⟩ v1).setCell ⟨g, 2, none⟩ v2).setCell ⟨g, 3, none⟩ v3).setCell ⟨g, 4, none⟩ v4).setCell ⟨g, 5, none⟩ v5).setCell ⟨g, 6, none⟩ v6).heap.size = X.heap.size := by
  have k0 : (X.setCell ⟨g, 0, none⟩ v0).heap[g]? = some (.cells #[v0, a1, a2, a3, a4, a5, a6] 29 (0, 0)) := heap_setCell_same _ g 0 _ _ v0 hg
  have k1 : ((X.setCell ⟨g, 0, none⟩ v0).setCell ⟨g, 1, none⟩ v1).heap[g]? = some (.cells #[v0, v1, a2, a3, a4, a5, a6] 29 (0, 0)) := heap_setCell_same _ g 1 _ _ v1 k0
  have k2 : (((X.setCell ⟨g, 0, none⟩ v0).setCell ⟨g, 1, none⟩ v1).setCell ⟨g, 2, none⟩ v2).heap[g]? = some (.cells #[v0, v1, v2, a3, a4, a5, a6] 29 (0, 0)) := heap_setCell_same _ g 2 _ _ v2 k1
  have k3 : ((((X.setCell ⟨g, 0, none⟩ v0).setCell ⟨g, 1, none⟩ v1).setCell ⟨g, 2, none⟩ v2).setCell ⟨g, 3, none⟩ v3).heap[g]? = some (.cells #[v0, v1, v2, v3, a4, a5, a6] 29 (0, 0)) := heap_setCell_same _ g 3 _ _ v3 k2
  have k4 : (((((X.setCell ⟨g, 0, none⟩ v0).setCell ⟨g, 1, none⟩ v1).setCell ⟨g, 2, none⟩ v2).setCell ⟨g, 3, none⟩ v3).setCell ⟨g, 4, none⟩ v4).heap[g]? = some (.cells #[v0, v1, v2, v3, v4, a5, a6] 29 (0, 0)) := heap_setCell_same _ g 4 _ _ v4 k3
  have k5 : ((((((X.setCell ⟨g, 0, none⟩ v0).setCell ⟨g, 1, none⟩ v1).setCell ⟨g, 2, none⟩ v2).setCell ⟨g, 3, none⟩ v3).setCell ⟨g, 4, none⟩ v4).setCell ⟨g, 5, none⟩ v5).heap[g]? = some (.cells #[v0, v1, v2, v3, v4, v5, a6] 29 (0, 0)) := heap_setCell_same _ g 5 _ _ v5 k4
  have k6 : (((((((X.setCell ⟨g, 0, none⟩ v0).setCell ⟨g, 1, none⟩ v1).setCell ⟨g, 2, none⟩ v2).setCell ⟨g, 3, none⟩ v3).setCell ⟨g, 4, none⟩ v4).setCell ⟨g, 5, none⟩ v5).setCell ⟨g, 6, none⟩ v6).heap[g]? = some (.cells #[v0, v1, v2, v3, v4, v5, v6] 29 (0, 0)) := heap_setCell_same _ g 6 _ _ v6 k5
  refine ⟨k6, ?_, fun k hk => ?_, by simp⟩
  · refine Below.setCell (p := ⟨g, 6, none⟩) ?_ h1 _
    refine Below.setCell (p := ⟨g, 5, none⟩) ?_ h1 _
    refine Below.setCell (p := ⟨g, 4, none⟩) ?_ h1 _
    refine Below.setCell (p := ⟨g, 3, none⟩) ?_ h1 _
    refine Below.setCell (p := ⟨g, 2, none⟩) ?_ h1 _
    refine Below.setCell (p := ⟨g, 1, none⟩) ?_ h1 _
    refine Below.setCell (p := ⟨g, 0, none⟩) ?_ h1 _
    exact hB
  · exact ((Below.heap_setCell _ ⟨g, 6, none⟩ v6 k hk).trans ((Below.heap_setCell _ ⟨g, 5, none⟩ v5 k hk).trans ((Below.heap_setCell _ ⟨g, 4, none⟩ v4 k hk).trans ((Below.heap_setCell _ ⟨g, 3, none⟩ v3 k hk).trans ((Below.heap_setCell _ ⟨g, 2, none⟩ v2 k hk).trans ((Below.heap_setCell _ ⟨g, 1, none⟩ v1 k hk).trans (Below.heap_setCell _ ⟨g, 0, none⟩ v0 k hk)))))))
theorem iat_blk {W : World} {b : Nat} {xs : List Int} {t : TypeId} (h : W.heap[b]? = some (.cells ((xs.map (Value.int .i64)).toArray) t (0, 0))) : IAt W W.heap.size (some ⟨b, 0, none⟩) xs := fun _ =>
  ⟨b, 0, rfl, blk_lt h, fun i hi => by rw [Nat.zero_add]; exact blk_cell h i (by simp [hi])⟩
theorem lat_one {W : World} {b : Nat} {v : List Int} {A : Option Addr} {c : Nat} {t : TypeId} (h : W.heap[b]? = some (.cells #[.slice A v.length c] t (0, 0))) (h2 : IAt W W.heap.size A v) : LAt W W.heap.size (some ⟨b, 0, none⟩) [v] := fun _ =>
  ⟨b, 0, rfl, blk_lt h, fun i hi => by
    obtain rfl : i = 0 := by simpa using hi
    exact ⟨A, c, blk_cell h 0 rfl, h2⟩⟩
set_option maxRecDepth 100000 in
set_option maxHeartbeats 2000000 in
theorem example_any (w : World) : Calls Tryz.prog 56 #[] w fun e w' => ∃ A kc SV ks, e = .returned (.agg (exPb.vs A kc SV ks)) ∧ CAt w' w'.heap.size A exPb.t.cases ∧ SAt w' w'.heap.size SV exPb.a.sts ∧ Below w.heap.size w w' := by
  go_enter Tryz.func56, Tryz.ntmps56
  go_wp2_with fail
  obtain ⟨a0, ha0, e0, hs0, hb0⟩ := onebox w #[.int .i64 0, .int .i64 0, .int .i64 0, .slice none 0 0, .int .i64 0, .slice none 0 0, .int .i64 0] 29
  obtain ⟨a1, ha1, e1, hs1, hb1⟩ := onebox a0 #[.int .i64 0, .int .i64 0] 3
  obtain ⟨a2, ha2, e2, hs2, hb2⟩ := onebox a1 #[.int .i64 0, .int .i64 0] 3
  obtain ⟨a3, ha3, e3, hs3, hb3⟩ := onebox a2 #[.slice (some ⟨w.heap.size + 1 + 1, 0, none⟩) 2 2] 49
  obtain ⟨a4, ha4, e4, hs4, hb4⟩ := onebox a3 #[.int .i64 0, .int .i64 1] 3
  obtain ⟨a5, ha5, e5, hs5, hb5⟩ := onebox a4 #[.int .i64 0, .int .i64 0] 3
  obtain ⟨a6, ha6, e6, hs6, hb6⟩ := onebox a5 #[.slice (some ⟨w.heap.size + 1 + 1 + 1 + 1 + 1, 0, none⟩) 2 2] 49
  obtain ⟨a7, ha7, e7, hs7, hb7⟩ := onebox a6 #[.slice (some ⟨w.heap.size + 1, 0, none⟩) 2 2, .slice (some ⟨w.heap.size + 1 + 1 + 1, 0, none⟩) 1 1, .slice none 0 0, .slice (some ⟨w.heap.size + 1 + 1 + 1 + 1, 0, none⟩) 2 2, .slice (some ⟨w.heap.size + 1 + 1 + 1 + 1 + 1 + 1, 0, none⟩) 1 1, .slice none 0 0] 73
  obtain ⟨a8, ha8, e8, hs8, hb8⟩ := onebox a7 #[.int .i64 2, .int .i64 2, .int .i64 1, .slice (some ⟨w.heap.size + 1 + 1 + 1 + 1 + 1 + 1 + 1, 0, none⟩) 2 2] 24
  rw [ha0, ha1, ha2, ha3, ha4, ha5, ha6, ha7, ha8]
  rw [hs0] at e1
  rw [hs0] at hs1
  rw [hs1] at e2
  rw [hs1] at hs2
  rw [hs2] at e3
  rw [hs2] at hs3
  rw [hs3] at e4
  rw [hs3] at hs4
  rw [hs4] at e5
  rw [hs4] at hs5
  rw [hs5] at e6
  rw [hs5] at hs6
  rw [hs6] at e7
  rw [hs6] at hs7
  rw [hs7] at e8
  rw [hs7] at hs8
  have d0 : a8.heap[w.heap.size]? = _ := (hb8.block _ (by omega)).trans ((hb7.block _ (by omega)).trans ((hb6.block _ (by omega)).trans ((hb5.block _ (by omega)).trans ((hb4.block _ (by omega)).trans ((hb3.block _ (by omega)).trans ((hb2.block _ (by omega)).trans ((hb1.block _ (by omega)).trans (e0))))))))
  have d1 : a8.heap[w.heap.size + 1]? = _ := (hb8.block _ (by omega)).trans ((hb7.block _ (by omega)).trans ((hb6.block _ (by omega)).trans ((hb5.block _ (by omega)).trans ((hb4.block _ (by omega)).trans ((hb3.block _ (by omega)).trans ((hb2.block _ (by omega)).trans (e1)))))))
  have d2 : a8.heap[w.heap.size + 1 + 1]? = _ := (hb8.block _ (by omega)).trans ((hb7.block _ (by omega)).trans ((hb6.block _ (by omega)).trans ((hb5.block _ (by omega)).trans ((hb4.block _ (by omega)).trans ((hb3.block _ (by omega)).trans (e2))))))
  have d3 : a8.heap[w.heap.size + 1 + 1 + 1]? = _ := (hb8.block _ (by omega)).trans ((hb7.block _ (by omega)).trans ((hb6.block _ (by omega)).trans ((hb5.block _ (by omega)).trans ((hb4.block _ (by omega)).trans (e3)))))
  have d4 : a8.heap[w.heap.size + 1 + 1 + 1 + 1]? = _ := (hb8.block _ (by omega)).trans ((hb7.block _ (by omega)).trans ((hb6.block _ (by omega)).trans ((hb5.block _ (by omega)).trans (e4))))
  have d5 : a8.heap[w.heap.size + 1 + 1 + 1 + 1 + 1]? = _ := (hb8.block _ (by omega)).trans ((hb7.block _ (by omega)).trans ((hb6.block _ (by omega)).trans (e5)))
  have d6 : a8.heap[w.heap.size + 1 + 1 + 1 + 1 + 1 + 1]? = _ := (hb8.block _ (by omega)).trans ((hb7.block _ (by omega)).trans (e6))
  have d7 : a8.heap[w.heap.size + 1 + 1 + 1 + 1 + 1 + 1 + 1]? = _ := (hb8.block _ (by omega)).trans (e7)
  have d8 : a8.heap[w.heap.size + 1 + 1 + 1 + 1 + 1 + 1 + 1 + 1]? = _ := e8
  have hB8 : Below w.heap.size w a8 := ((((((((hb0).trans (hb1.mono (by omega))).trans (hb2.mono (by omega))).trans (hb3.mono (by omega))).trans (hb4.mono (by omega))).trans (hb5.mono (by omega))).trans (hb6.mono (by omega))).trans (hb7.mono (by omega))).trans (hb8.mono (by omega))
  have D0 := Lib.hid d0
  have D1 := Lib.hid d1
  have D2 := Lib.hid d2
  have D3 := Lib.hid d3
  have D4 := Lib.hid d4
  have D5 := Lib.hid d5
  have D6 := Lib.hid d6
  have D7 := Lib.hid d7
  have D8 := Lib.hid d8
  have HB8 := Lib.hid hB8
  clear ha0 e0 hb0 d0 ha1 e1 hb1 d1 ha2 e2 hb2 d2 ha3 e3 hb3 d3 ha4 e4 hb4 d4 ha5 e5 hb5 d5 ha6 e6 hb6 d6 ha7 e7 hb7 d7 ha8 e8 hb8 d8 hB8
  have D8' := D8.out
  refine wp_region_mix [(0, true), (1, true), (3, true), (2, false), (4, false), (5, false), (6, false), (7, false), (8, false), (9, false)] (fun W => W.heap[w.heap.size + 1 + 1 + 1 + 1 + 1 + 1 + 1 + 1]? = some (.cells #[.int .i64 2, .int .i64 2, .int .i64 1, .slice (some ⟨w.heap.size + 1 + 1 + 1 + 1 + 1 + 1 + 1, 0, none⟩) 2 2] 24 (0, 0))) (by kernel_rfl) (by kernel_rfl) D8' ?_
  clear D8'
  repeat
    apply mix_float rfl
    · rintro K' hK' W y0
      have x0 : W.cell? ⟨w.heap.size + 1 + 1 + 1 + 1 + 1 + 1 + 1 + 1, 0, none⟩ = some (.int .i64 2) := blk_cell y0 0 rfl
      have x1 : W.cell? ⟨w.heap.size + 1 + 1 + 1 + 1 + 1 + 1 + 1 + 1, 1, none⟩ = some (.int .i64 2) := blk_cell y0 1 rfl
      have x2 : W.cell? ⟨w.heap.size + 1 + 1 + 1 + 1 + 1 + 1 + 1 + 1, 2, none⟩ = some (.int .i64 1) := blk_cell y0 2 rfl
      have x3 : W.cell? ⟨w.heap.size + 1 + 1 + 1 + 1 + 1 + 1 + 1 + 1, 3, none⟩ = some (.slice (some ⟨w.heap.size + 1 + 1 + 1 + 1 + 1 + 1 + 1, 0, none⟩) 2 2) := blk_cell y0 3 rfl
      clear y0
      go_simp
      exact hK'
  refine mix_op rfl ?_
  intro K' hK'
  go_simp
  refine (move_any 1 a8.drew).mono ?_
  rintro e m1 ⟨rfl, hm1⟩
  have HM1 : Hid (Below a8.heap.size a8 m1) := (Below.refl _ a8).drew.trans hm1
  have hz1 := HM1.out.size
  refine hK' _ _ ((HM1.out.block _ (by omega)).trans D8.out) ?_
  clear hK' K' hm1
  refine mix_op rfl ?_
  intro K' hK'
  go_simp
  refine (move_any 3 m1).mono ?_
  rintro e m2 ⟨rfl, hm2⟩
  have HM2 : Hid (Below a8.heap.size a8 m2) := HM1.out.trans (hm2.mono hz1)
  have hz2 := HM2.out.size
  refine hK' _ _ ((HM2.out.block _ (by omega)).trans D8.out) ?_
  clear hK' K' hm2
  refine mix_op rfl ?_
  intro K' hK'
  go_simp
  obtain ⟨m3, hm3, c3, hs3', hb3'⟩ := onebox m2 #[.int .i64 2, .int .i64 1, .int .i64 3, .int .i64 0, .int .i64 0, .int .i64 0, .int .i64 0, .int .i64 0, .int .i64 2, .int .i64 3, .int .i64 3, .int .i64 0, .int .i64 0, .int .i64 0, .int .i64 0, .int .i64 0] 159
  rw [hm3]
  have HM3 : Hid (Below a8.heap.size a8 m3) := HM2.out.trans (hb3'.mono hz2)
  have hz3 := HM3.out.size
  refine hK' _ _ ((HM3.out.block _ (by omega)).trans D8.out) ?_
  clear hK' K' hm3
  refine mix_op rfl ?_
  intro K' hK'
  go_simp
  obtain ⟨m4, hm4, c4, hs4', hb4'⟩ := onebox m3 #[.slice (some ⟨m2.heap.size, 0, none⟩) 2 2] 157
  rw [hm4]
  have HM4 : Hid (Below a8.heap.size a8 m4) := HM3.out.trans (hb4'.mono hz3)
  have hz4 := HM4.out.size
  refine hK' _ _ ((HM4.out.block _ (by omega)).trans D8.out) ?_
  clear hK' K' hm4
  refine mix_op rfl ?_
  intro K' hK'
  go_simp
  refine hK' _ _ ((HM4.out.block _ (by omega)).trans D8.out) ?_
  clear hK' K'
  refine mix_op rfl ?_
  intro K' hK'
  go_simp
  refine hK' _ _ ((HM4.out.block _ (by omega)).trans D8.out) ?_
  clear hK' K'
  have d0 := (HM4.out.block _ (by omega)).trans D0.out
  have y0 : m4.cell? ⟨w.heap.size, 0, none⟩ = some (.int .i64 0) := blk_cell d0 0 rfl
  have f0 := blk_froz d0 0
  have y1 : m4.cell? ⟨w.heap.size, 1, none⟩ = some (.int .i64 0) := blk_cell d0 1 rfl
  have f1 := blk_froz d0 1
  have y2 : m4.cell? ⟨w.heap.size, 2, none⟩ = some (.int .i64 0) := blk_cell d0 2 rfl
  have f2 := blk_froz d0 2
  have y3 : m4.cell? ⟨w.heap.size, 3, none⟩ = some (.slice none 0 0) := blk_cell d0 3 rfl
  have f3 := blk_froz d0 3
  have y4 : m4.cell? ⟨w.heap.size, 4, none⟩ = some (.int .i64 0) := blk_cell d0 4 rfl
  have f4 := blk_froz d0 4
  have y5 : m4.cell? ⟨w.heap.size, 5, none⟩ = some (.slice none 0 0) := blk_cell d0 5 rfl
  have f5 := blk_froz d0 5
  have y6 : m4.cell? ⟨w.heap.size, 6, none⟩ = some (.int .i64 0) := blk_cell d0 6 rfl
  have f6 := blk_froz d0 6
  have HD0' := Lib.hid d0
  clear d0
  refine mix_seal rfl (by kernel_rfl) ?_
  intro K' hK'
  go_simp
  refine hK' (fun _ => True) _ _ trivial ?_
  refine mix_done ?_
  clear hK' K'
  obtain ⟨k1, k2, k3, k4⟩ := pb_store7 (.int .i64 2) (.int .i64 2) (.int .i64 1) (.slice (some ⟨w.heap.size + 1 + 1 + 1 + 1 + 1 + 1 + 1, 0, none⟩) 2 2) (.int .i64 2) (.slice (some ⟨m2.heap.size + 1, 0, none⟩) 1 1) (.int .i64 1) HD0'.out (HB8.out.trans (HM4.out.mono (by omega))) (Nat.le_refl _)
  obtain ⟨WF, hWF⟩ : ∃ WF, (((((((m4.setCell ⟨w.heap.size, 0, none⟩ (.int .i64 2)).setCell ⟨w.heap.size, 1, none⟩ (.int .i64 2)).setCell ⟨w.heap.size, 2, none⟩ (.int .i64 1)).setCell ⟨w.heap.size, 3, none⟩ (.slice (some ⟨w.heap.size + 1 + 1 + 1 + 1 + 1 + 1 + 1, 0, none⟩) 2 2)).setCell ⟨w.heap.size, 4, none⟩ (.int .i64 2)).setCell ⟨w.heap.size, 5, none⟩ (.slice (some ⟨m2.heap.size + 1, 0, none⟩) 1 1)).setCell ⟨w.heap.size, 6, none⟩ (.int .i64 1)) = WF := ⟨_, rfl⟩
  rw [hWF] at k1 k2 k3 k4 ⊢
  have K1 := Lib.hid k1
  have K2 := Lib.hid k2
  have K3 := Lib.hid k3
  have K4 := Lib.hid k4
  clear k1 k2 k3 k4 hWF y0 y1 y2 y3 y4 y5 y6 f0 f1 f2 f3 f4 f5 f6
  go_wp2_with fail
  have z0 := blk_cell K1.out 0 rfl
  have z1 := blk_cell K1.out 1 rfl
  have z2 := blk_cell K1.out 2 rfl
  have z3 := blk_cell K1.out 3 rfl
  have z4 := blk_cell K1.out 4 rfl
  have z5 := blk_cell K1.out 5 rfl
  have z6 := blk_cell K1.out 6 rfl
  refine bodyPost_ret (v := .agg #[.int .i64 2, .int .i64 2, .int .i64 1, .slice (some ⟨w.heap.size + 1 + 1 + 1 + 1 + 1 + 1 + 1, 0, none⟩) 2 2, .int .i64 2, .slice (some ⟨m2.heap.size + 1, 0, none⟩) 1 1, .int .i64 1]) (by simp [results, Tryz.results56, go_sem, z0, z1, z2, z3, z4, z5, z6]) rfl ?_
  have hk : ∀ k, k ≠ w.heap.size → k < a8.heap.size → WF.heap[k]? = a8.heap[k]? := fun k h1 h2 => (K3.out k h1).trans (HM4.out.block k h2)
  have g1 := (hk _ (by omega) (by omega)).trans D1.out
  have g2 := (hk _ (by omega) (by omega)).trans D2.out
  have g3 := (hk _ (by omega) (by omega)).trans D3.out
  have g4 := (hk _ (by omega) (by omega)).trans D4.out
  have g5 := (hk _ (by omega) (by omega)).trans D5.out
  have g6 := (hk _ (by omega) (by omega)).trans D6.out
  have g7 := (hk _ (by omega) (by omega)).trans D7.out
  have g8 := (K3.out m2.heap.size (by omega)).trans ((hb4'.block _ (by omega)).trans c3)
  have c5 := c4
  rw [hs3'] at c5
  have g9 := (K3.out (m2.heap.size + 1) (by omega)).trans c5
  have i1 := iat_blk (xs := [0, 0]) g1
  have i2 := iat_blk (xs := [0, 0]) g2
  have i4 := iat_blk (xs := [0, 1]) g4
  have i5 := iat_blk (xs := [0, 0]) g5
  have l3 := lat_one (v := [0, 0]) g3 i2
  have l6 := lat_one (v := [0, 0]) g6 i5
  refine ⟨some ⟨w.heap.size + 1 + 1 + 1 + 1 + 1 + 1 + 1, 0, none⟩, 2, some ⟨m2.heap.size + 1, 0, none⟩, 1, rfl, fun _ => ⟨_, 0, rfl, blk_lt g7, fun i hi => ?_⟩, fun _ => ⟨_, 0, rfl, blk_lt g9, fun i hi => ?_⟩, K2.out⟩
  · have h2 : i = 0 ∨ i = 1 := by have : i < 2 := hi; omega
    rcases h2 with rfl | rfl
    · exact ⟨_, _, _, blk_cell g7 0 rfl, blk_cell g7 1 rfl, blk_cell g7 2 rfl, ⟨_, 2, rfl, i1⟩, ⟨_, 1, rfl, l3⟩, ⟨none, 0, rfl, LAt.nil _ _ _⟩⟩
    · exact ⟨_, _, _, blk_cell g7 3 rfl, blk_cell g7 4 rfl, blk_cell g7 5 rfl, ⟨_, 2, rfl, i4⟩, ⟨_, 1, rfl, l6⟩, ⟨none, 0, rfl, LAt.nil _ _ _⟩⟩
  · have h2 : i = 0 := by have : i < 1 := hi; omega
    subst h2
    refine ⟨_, 2, blk_cell g9 0 rfl, fun _ => ⟨_, 0, rfl, blk_lt g8, fun j hj k u hu => ?_⟩⟩
    have h3 : j = 0 ∨ j = 1 := by have : j < 2 := hj; omega
    have hk8 : k < 8 := by
      rcases h3 with rfl | rfl
      · exact (Array.getElem?_eq_some_iff.1 hu).1
      · exact (Array.getElem?_eq_some_iff.1 hu).1
    rcases h3 with rfl | rfl
    · refine blk_cell g8 (0 + 0 * 8 + k) ?_
      rw [← hu]
      have h8 : k = 0 ∨ k = 1 ∨ k = 2 ∨ k = 3 ∨ k = 4 ∨ k = 5 ∨ k = 6 ∨ k = 7 := by omega
      rcases h8 with rfl | rfl | rfl | rfl | rfl | rfl | rfl | rfl <;> rfl
    · refine blk_cell g8 (0 + 1 * 8 + k) ?_
      rw [← hu]
      have h8 : k = 0 ∨ k = 1 ∨ k = 2 ∨ k = 3 ∨ k = 4 ∨ k = 5 ∨ k = 6 ∨ k = 7 := by omega
      rcases h8 with rfl | rfl | rfl | rfl | rfl | rfl | rfl | rfl <;> rfl
end Go.Proofs.YtnikmmdadflefaaGreatDoor
namespace Go.Proofs
open Go.Shelf
def Tryz.lays171_ren : Go.Shelf.Ren := ⟨fun | 171 => 141 | 243 => 171 | 246 => 186 | 283 => 190 | 284 => 191 | 285 => 192 | 286 => 193 | 129 => 198 | 317 => 197 | 318 => 199 | 319 => 200 | 320 => 201 | 337 => 203 | 338 => 204 | n => n, fun | 3 => 3 | 9 => 9 | 2 => 2 | 4 => 4 | 171 => 256 | 0 => 0 | 53 => 239 | 37 => 148 | 5 => 5 | 173 => 259 | 212 => 266 | 51 => 236 | 20 => 20 | 213 => 267 | 46 => 217 | 232 => 270 | 233 => 271 | n => n, fun | 17 => 0 | 18 => 1 | 19 => 2 | n => n⟩
theorem Tryz.lays171 : Go.Proofs.Lays.n171 Tryz.prog Tryz.lays171_ren := {
  mixed := by kernel_rfl
  f129 := Tryz.func198.trans (congrArg some (by kernel_rfl))
  f171 := Tryz.func141.trans (congrArg some (by kernel_rfl))
  f243 := Tryz.func171.trans (congrArg some (by kernel_rfl))
  f246 := Tryz.func186.trans (congrArg some (by kernel_rfl))
  f283 := Tryz.func190.trans (congrArg some (by kernel_rfl))
  f284 := Tryz.func191.trans (congrArg some (by kernel_rfl))
  f285 := Tryz.func192.trans (congrArg some (by kernel_rfl))
  f286 := Tryz.func193.trans (congrArg some (by kernel_rfl))
  f317 := Tryz.func197.trans (congrArg some (by kernel_rfl))
  f318 := Tryz.func199.trans (congrArg some (by kernel_rfl))
  f319 := Tryz.func200.trans (congrArg some (by kernel_rfl))
  f320 := Tryz.func201.trans (congrArg some (by kernel_rfl))
  f337 := Tryz.func203.trans (congrArg some (by kernel_rfl))
  f338 := Tryz.func204.trans (congrArg some (by kernel_rfl))
  t0 := Tryz.underlying0
  a0 := Tryz.isAgg0
  z0 := Tryz.sizeOf0
  v0 := Tryz.zeroValue0
  t2 := Tryz.underlying2
  a2 := Tryz.isAgg2
  z2 := Tryz.sizeOf2
  v2 := Tryz.zeroValue2
  t3 := Tryz.underlying3
  a3 := Tryz.isAgg3
  z3 := Tryz.sizeOf3
  v3 := Tryz.zeroValue3
  t4 := Tryz.underlying4
  a4 := Tryz.isAgg4
  z4 := Tryz.sizeOf4
  v4 := Tryz.zeroValue4
  t5 := Tryz.underlying5
  a5 := Tryz.isAgg5
  z5 := Tryz.sizeOf5
  v5 := Tryz.zeroValue5
  t9 := Tryz.underlying9
  a9 := Tryz.isAgg9
  z9 := Tryz.sizeOf9
  v9 := Tryz.zeroValue9
  t20 := Tryz.underlying20
  a20 := Tryz.isAgg20
  z20 := Tryz.sizeOf20
  v20 := Tryz.zeroValue20
  t37 := Tryz.underlying148
  a37 := Tryz.isAgg148
  z37 := Tryz.sizeOf148
  v37 := Tryz.zeroValue148
  t46 := Tryz.underlying217
  a46 := Tryz.isAgg217
  z46 := Tryz.sizeOf217
  v46 := Tryz.zeroValue217
  t51 := Tryz.underlying236
  a51 := Tryz.isAgg236
  z51 := Tryz.sizeOf236
  v51 := Tryz.zeroValue236
  t53 := Tryz.underlying239
  a53 := Tryz.isAgg239
  z53 := Tryz.sizeOf239
  v53 := Tryz.zeroValue239
  t171 := Tryz.underlying256
  a171 := Tryz.isAgg256
  z171 := Tryz.sizeOf256
  v171 := Tryz.zeroValue256
  t173 := Tryz.underlying259
  a173 := Tryz.isAgg259
  z173 := Tryz.sizeOf259
  v173 := Tryz.zeroValue259
  t212 := Tryz.underlying266
  a212 := Tryz.isAgg266
  z212 := Tryz.sizeOf266
  v212 := Tryz.zeroValue266
  t213 := Tryz.underlying267
  a213 := Tryz.isAgg267
  z213 := Tryz.sizeOf267
  t232 := Tryz.underlying270
  a232 := Tryz.isAgg270
  z232 := Tryz.sizeOf270
  v232 := Tryz.zeroValue270
  t233 := Tryz.underlying271
  a233 := Tryz.isAgg271
  z233 := Tryz.sizeOf271
  v233 := Tryz.zeroValue271
  g17 := by kernel_rfl
  g18 := by kernel_rfl
  g19 := by kernel_rfl }
open Go.RowKit Go.Sort Go.Lib in
/-- THE ROAD WITHOUT THE TABLE: 0 <= i < 100: NO PREMISE ON THE WORLD, AND THE WORLD IS AS IT WAS: a row that keeps its argument in that range need list no table ('laid = []'). (LAID: no walk: one application.) -/
theorem Tryz.strconv_Itoa_small (i : Nat) (hi : i < 100) (w : World) :
    Calls Tryz.prog 141 #[.int .i64 i] w fun e w' => e = .returned (.string ⟨(Lib.decDigits i).toArray⟩) ∧ w' = w := Any.strconv_Itoa_small Tryz.lays171 i hi w
end Go.Proofs
namespace Go.Proofs.YtnikmmdadflefaaGreatDoor
open Go.RowKit
theorem size_builder : (Tryz.prog.info? 150).map (·.size) = some 2 := by kernel_rfl
theorem info_byte : (Tryz.prog.info? 5).map (fun i => (i.zero, i.size, i.bytes)) = some (some (.int .u8 0), 1, 1) := by kernel_rfl
theorem lies_builder : liesAt Tryz.prog Tryz.prog.depth 150 (2 / Tryz.prog.cellsOf 150) 0 150 1 = true := by kernel_rfl
def BldAt (B b : Nat) (l : List UInt8) (w : World) : Prop := Lib.IsBuilderF 150 5 B b (Lib.byteCells l) w
def Kept (b : Nat) (w w' : World) : Prop := Lib.OthersKept 5 (some b) w w'
set_option maxHeartbeats 1000000 in
set_option maxRecDepth 100000 in
theorem bcopy_used (b : Nat) (w : World) (h0 : w.cell? ⟨b, 0, none⟩ = some (.pointer (some ⟨b, 0, none⟩))) :
    Calls Tryz.prog 170 #[.pointer (some ⟨b, 0, none⟩)] w fun e w' => e = .returned (.tuple #[]) ∧ w' = w := by
  obtain ⟨j, hj, _⟩ := Option.map_eq_some_iff.1 size_builder
  go_enter Tryz.func170, Tryz.ntmps170
  go_wp2
  rw [Lib.run_neq_ptr_same w _ Tryz.underlying147 hj]
  go_wp2
  go_end0
  exact ⟨rfl, rfl⟩
set_option maxHeartbeats 1000000 in
set_option maxRecDepth 100000 in
theorem bcopy_fresh (b : Nat) (w : World) (h0 : w.cell? ⟨b, 0, none⟩ = some (.pointer none)) (hsh : w.shape? b = some (150, 2)) (hfz : w.frozen? ⟨b, 0, none⟩ = false) :
    Calls Tryz.prog 170 #[.pointer (some ⟨b, 0, none⟩)] w fun e w' => e = .returned (.tuple #[]) ∧ w' = w.setCell ⟨b, 0, none⟩ (.pointer (some ⟨b, 0, none⟩)) := by
  obtain ⟨j, hj, hjs⟩ := Option.map_eq_some_iff.1 size_builder
  go_enter Tryz.func170, Tryz.ntmps170
  go_wp2
  rw [Lib.run_to_unsafe w ⟨b, 0, none⟩ Tryz.underlying147 Tryz.underlying251 hj (by rw [hjs]; decide) hsh (Nat.zero_lt_succ 1)]
  simp only [Result.andThen]
  rw [Oper.upon_value]
  go_wp2
  rw [run_callFunc_extern Tryz.func185 (by kernel_rfl) (by kernel_rfl) (by kernel_rfl) (e := Extern.AbiNoEscape.same) (by kernel_rfl)]
  rw [Lib.run_noEscape]
  simp only [Result.andThen]
  rw [Oper.upon_value]
  go_wp2
  rw [Lib.run_from_unsafe w ⟨b, 0, none⟩ Tryz.underlying251 Tryz.underlying147 hj hsh lies_builder]
  simp only [Result.andThen]
  rw [Oper.upon_value]
  go_wp2
  go_end0
  exact ⟨rfl, rfl⟩
theorem bcopy_any (B b : Nat) (bs : List Value) (w : World) (h : Lib.IsBuilderF 150 5 B b bs w) :
    Calls Tryz.prog 170 #[.pointer (some ⟨b, 0, none⟩)] w fun e w' => e = .returned (.tuple #[]) ∧ (Lib.BuilderAtF 150 5 B b (.pointer (some ⟨b, 0, none⟩)) bs w' ∧ Below B w w' ∧ Lib.OthersKept 5 (some b) w w') := by
  rcases h with h | h
  · refine (bcopy_fresh b w h.cell0 h.shape h.frozen0).mono ?_
    rintro e w' ⟨rfl, rfl⟩
    exact ⟨rfl, h.used _, (Below.refl B w).setCell (p := ⟨b, 0, none⟩) h.1 _, (Lib.OthersKept.refl _ _ w).setCell ⟨b, 0, none⟩ rfl _⟩
  · refine (bcopy_used b w h.cell0).mono ?_
    rintro e w' ⟨rfl, rfl⟩
    exact ⟨rfl, h, Below.refl B _, Lib.OthersKept.refl _ _ _⟩
set_option maxHeartbeats 2000000 in
set_option maxRecDepth 100000 in
theorem bwrite_any (B b : Nat) (l : List UInt8) (s : ByteArray) (w : World) (h : BldAt B b l w) (hlen : l.length + s.size ≤ 140737488355328) (hBw : B ≤ w.heap.size) :
    Calls Tryz.prog 140 #[.pointer (some ⟨b, 0, none⟩), .string s] w fun e w' => e = .returned (.tuple #[.int .i64 s.size, .nilIface]) ∧ BldAt B b (l ++ s.data.toList) w' ∧ Below B w w' ∧ Kept b w w' := by
  obtain ⟨i0, hi, hz0, hz1, hz2⟩ := info_parts info_byte
  have hll : (Lib.byteCells l).length = l.length := by simp [Lib.byteCells]
  have HLL := Lib.hid hll
  clear hll
  unfold BldAt at h
  have HB := Lib.hid h
  clear h
  go_enter Tryz.func140, Tryz.ntmps140
  go_wp2_with (go_at_call 170; refine (bcopy_any B b _ _ HB.out).mono ?_)
  rintro e w1 ⟨rfl, h1, hb1, hk1⟩
  obtain ⟨hB, v, hbk, hown, hne⟩ := h1
  have c0 : w1.cell? ⟨b, 0, none⟩ = some (.pointer (some ⟨b, 0, none⟩)) := by rw [Lib.cell_of_heap hbk]; rfl
  have c1 : w1.cell? ⟨b, 1, none⟩ = some v := by rw [Lib.cell_of_heap hbk]; rfl
  go_wp2_with (at_builtin; refine Lib.wpList_append_own_stringF _ rfl _ _ 148 9 rfl B 5 i0 Tryz.underlying148 Tryz.underlying9 hi hz0 hz1 hz2 _ _ _ rfl hown s rfl ?c3 ?c4 ?c5 ?_)
  case c3 => rw [HLL.out]; unfold maxLen; omega
  case c4 => rw [HLL.out]; omega
  case c5 => have := hb1.size; omega
  intro v' w2 hown' hgrow _
  have hlt : b < w1.heap.size := by
    rcases Nat.lt_or_ge b w1.heap.size with h' | h'
    · exact h'
    · simp [Array.getElem?_eq_none h'] at hbk
  have hb2 : w2.heap[b]? = some (.cells #[.pointer (some ⟨b, 0, none⟩), v] 150 (0, 0)) := by
    rw [hgrow.block b hlt (fun e => hne e.symm)]
    exact hbk
  have d0 : w2.cell? ⟨b, 0, none⟩ = some (.pointer (some ⟨b, 0, none⟩)) := by rw [Lib.cell_of_heap hb2]; rfl
  have d1 : w2.cell? ⟨b, 1, none⟩ = some v := by rw [Lib.cell_of_heap hb2]; rfl
  have f1 : w2.frozen? ⟨b, 1, none⟩ = false := Lib.frozen_of_heap hb2 1
  obtain ⟨ao, n', cap, rfl⟩ : ∃ ao n' cap, v' = .slice ao n' cap := by
    rcases hown'.2 with ⟨hv, _⟩ | ⟨g, cap, cur, fz, hv, _⟩
    · exact ⟨_, _, _, hv⟩
    · exact ⟨_, _, _, hv⟩
  go_wp2
  go_ret2
  refine ⟨rfl, ?_, ?_, (hk1.grown hgrow (Lib.ownsRowF_kind hown)).setCell ⟨b, 1, none⟩ rfl _⟩
  · have e : Lib.byteCells (l ++ s.data.toList) = Lib.byteCells l ++ Lib.strCells s := by simp [Lib.byteCells, Lib.strCells]
    unfold BldAt
    rw [e]
    exact Or.inr (Lib.BuilderAtF.put (T := 150) (e := 5) hB hb2 (bs' := Lib.byteCells l ++ Lib.strCells s) (by simpa [Lib.strCells_length] using hown') (by decide))
  · exact (hb1.grown hgrow (by have := hb1.size; omega) (fun k hk => (hown.lt k hk).1)).setCell (p := ⟨b, 1, none⟩) hB _
theorem bwrite_ex (B b : Nat) (l : List UInt8) (s : ByteArray) (w : World) (h : BldAt B b l w) (hlen : l.length + s.size ≤ 140737488355328) (hBw : B ≤ w.heap.size) :
    Calls Tryz.prog 140 #[.pointer (some ⟨b, 0, none⟩), .string s] w fun e w' => ∃ k : Int, e = .returned (.tuple #[.int .i64 k, .nilIface]) ∧ BldAt B b (l ++ s.data.toList) w' ∧ Below B w w' ∧ Kept b w w' :=
  (bwrite_any B b l s w h hlen hBw).mono fun _ _ h => ⟨_, h⟩
theorem BldAt.fresh (w : World) : BldAt w.heap.size w.heap.size [] (w.alloc (.cells #[.pointer none, .slice none 0 0] 150)) :=
  Or.inl ⟨Nat.le_refl _, .slice none 0 0, blk_new _ _, ⟨rfl, Or.inl ⟨rfl, rfl⟩⟩, by simp [Value.ownBlock]⟩
theorem BldAt.same {B b : Nat} {l : List UInt8} {w w' : World} (h : BldAt B b l w) (hs : ∀ (k : Nat) (o : Obj), w.heap[k]? = some o → o.isCells = true → w'.heap[k]? = some o) : BldAt B b l w' := by
  have key : ∀ p, Lib.BuilderAtF 150 5 B b p (Lib.byteCells l) w → Lib.BuilderAtF 150 5 B b p (Lib.byteCells l) w' := by
    rintro p ⟨hB, v, hb, ⟨hl, ho⟩, hne⟩
    refine ⟨hB, v, hs _ _ hb rfl, ⟨hl, ?_⟩, hne⟩
    rcases ho with ho | ⟨g, cap, cur, fz, hv, h1, h2, h3⟩
    · exact Or.inl ho
    · exact Or.inr ⟨g, cap, cur, fz, hv, h1, hs _ _ h2 rfl, h3⟩
  exact h.elim (fun h => Or.inl (key _ h)) (fun h => Or.inr (key _ h))
theorem BldAt.lt {B b : Nat} {l : List UInt8} {w : World} (h : BldAt B b l w) : B ≤ b ∧ b < w.heap.size := by
  rcases h with h | h <;> exact ⟨h.1, h.lt⟩
theorem BldAt.alloc {B b : Nat} {l : List UInt8} {w : World} (h : BldAt B b l w) (o : Obj) : BldAt B b l (w.alloc o) := h.same fun _ _ hk _ => blk_old hk o
theorem BldAt.drew {B b : Nat} {l : List UInt8} {w : World} (h : BldAt B b l w) : BldAt B b l w.drew := h
theorem BldAt.set {B b g : Nat} {l : List UInt8} {w : World} {cs : Array Value} {t : TypeId} (h : BldAt B b l w) (hg : w.heap[g]? = some (.cells cs t (0, 0))) (ht : t ≠ 5) (hb : g ≠ b) (k : Nat) (u : Value) : BldAt B b l (w.setCell ⟨g, k, none⟩ u) := by
  have key : ∀ p, Lib.BuilderAtF 150 5 B b p (Lib.byteCells l) w → Lib.BuilderAtF 150 5 B b p (Lib.byteCells l) (w.setCell ⟨g, k, none⟩ u) := by
    rintro p ⟨hB, v, hbk, ⟨hl, ho⟩, hne⟩
    refine ⟨hB, v, (Below.heap_setCell _ _ _ _ (fun e => hb e.symm)).trans hbk, ⟨hl, ?_⟩, hne⟩
    rcases ho with ho | ⟨g', cap, cur, fz, hv, h1, h2, h3⟩
    · exact Or.inl ho
    · refine Or.inr ⟨g', cap, cur, fz, hv, h1, (Below.heap_setCell _ _ _ _ (fun e => ?_)).trans h2, h3⟩
      have e' : g' = g := e
      subst e'
      rw [hg] at h2
      cases h2
      exact ht rfl
  exact h.elim (fun h => Or.inl (key _ h)) (fun h => Or.inr (key _ h))
structure WrIn (B b gs : Nat) (l : List UInt8) (sg : UInt8) (w2 W : World) : Prop where
  bld : BldAt B b l W
  sign : W.heap[gs]? = some (.cells #[.string ⟨#[sg]⟩] 9 (0, 0))
  below : Below B w2 W
  rest : ∀ (k : Nat) (o : Obj), w2.heap[k]? = some o → k ≠ b → k ≠ gs → (∀ c fz, o ≠ .cells c 5 fz) → W.heap[k]? = some o
theorem WrIn.turn {B b gs : Nat} {l : List UInt8} {sg : UInt8} {w2 W W' : World} {row : Option Nat} (h : WrIn B b gs l sg w2 W) (hB : B ≤ w2.heap.size) (hg : W.grownBy W' row) (hr : ∀ r, row = some r → w2.heap.size ≤ r ∧ ∃ o : Obj, W.heap[r]? = some o ∧ o.isCells = false) : WrIn B b gs l sg w2 W' where
  bld := h.bld.same fun k o hk ho => (grownBy_keeps_cells hg (fun r e => (hr r e).2) hk ho).trans hk
  sign := (grownBy_keeps_cells hg (fun r e => (hr r e).2) h.sign rfl).trans h.sign
  below := h.below.grown hg (by have := h.below.size; omega) fun r e => by have := (hr r e).1; omega
  rest := fun k o hk h1 h2 h3 => by
    have h4 := h.rest k o hk h1 h2 h3
    refine (hg.block k (blk_lt h4) fun e => ?_).trans h4
    have := (hr k e.symm).1
    have := blk_lt hk
    omega
end Go.Proofs.YtnikmmdadflefaaGreatDoor
namespace Go.Proofs.YtnikmmdadflefaaGreatDoor
def dgt (x : Int) : UInt8 := UInt8.ofNat (48 + x.toNat)
def sep : UInt8 → List (List UInt8) → List UInt8
  | _, [] => []
  | s, x :: xs => s :: (x ++ sep 44 xs)
theorem sep_snoc : ∀ (s : UInt8) (l : List (List UInt8)) (x : List UInt8), sep s (l ++ [x]) = sep s l ++ ((if l = [] then s else 44) :: x)
  | s, [], x => by simp [sep]
  | s, y :: l, x => by
    have := sep_snoc 44 l x
    simp only [List.cons_append, sep, this, List.append_assoc]
    by_cases h : l = [] <;> simp [h]
theorem sep_length : ∀ (s : UInt8) (l : List (List UInt8)) (m : Nat), (∀ x, x ∈ l → x.length ≤ m) → (sep s l).length ≤ l.length * (m + 1)
  | _, [], _, _ => by simp [sep]
  | s, x :: l, m, h => by
    have h1 := h x (by simp)
    have h2 := sep_length 44 l m fun y hy => h y (by simp [hy])
    simp only [sep, List.length_cons, List.length_append]
    rw [Nat.add_mul]
    omega
def wordsF (vs : List Vw) : Nat → Nat → List UInt8
  | 0, _ => []
  | f + 1, i => if (getV vs i).r = 0 then [dgt (getV vs i).p, 58, dgt (getV vs i).i] else dgt (getV vs i).p :: (sep 40 ((kids (getV vs i)).map (wordsF vs f)) ++ [41])
def words (vs : List Vw) (i : Nat) : List UInt8 := wordsF vs (i + 1) i
theorem wordsF_fuel {vs : List Vw} (ha : Acyc vs) : ∀ (i f : Nat), i < vs.length → i < f → wordsF vs f i = words vs i := by
  intro i
  induction i using Nat.strongRecOn with
  | _ i ih =>
    intro f hi hf
    obtain ⟨g, rfl⟩ : ∃ g, f = g + 1 := ⟨f - 1, by omega⟩
    unfold words
    simp only [wordsF]
    split
    · rfl
    · congr 3
      apply List.map_congr_left
      intro c hc
      have := ha i hi c hc
      rw [ih c this g (by omega) (by omega), ih c this i (by omega) this]
theorem words_zero {vs : List Vw} {i : Nat} (hr : (getV vs i).r = 0) : words vs i = [dgt (getV vs i).p, 58, dgt (getV vs i).i] := by
  unfold words wordsF; rw [if_pos hr]
theorem words_later {vs : List Vw} (ha : Acyc vs) {i : Nat} (hi : i < vs.length) (hr : (getV vs i).r ≠ 0) : words vs i = dgt (getV vs i).p :: (sep 40 ((kids (getV vs i)).map (words vs)) ++ [41]) := by
  unfold words
  rw [wordsF, if_neg hr]
  congr 3
  apply List.map_congr_left
  intro c hc
  have := ha i hi c hc
  exact wordsF_fuel ha c i (by omega) this
theorem kids_len5 (v : Vw) : (kids v).length ≤ 5 := by
  unfold kids heardL heardTo
  rw [List.length_map]
  split
  · exact Nat.le_trans (List.length_filterMap_le _ _) (by simp)
  · simp
def wlen : Nat → Nat
  | 0 => 3
  | r + 1 => 2 + 5 * (wlen r + 1)
theorem wlen_mono {a b : Nat} (h : a ≤ b) : wlen a ≤ wlen b := by
  induction b with
  | zero => obtain rfl : a = 0 := by omega
            exact Nat.le_refl _
  | succ b ih =>
    by_cases e : a = b + 1
    · subst e; exact Nat.le_refl _
    · have := ih (by omega)
      simp only [wlen]; omega
theorem Wf.row_ok {n : Int} {vs : List Vw} (h : Wf n vs) {i : Nat} (hi : i < vs.length) : checkE n (vs.take i) (getV vs i) = 0 := (rowE_ok (h.2.2 i hi)).1
theorem Wf.kid {n : Int} {vs : List Vw} (h : Wf n vs) {i c : Nat} (hi : i < vs.length) (hc : c ∈ kids (getV vs i)) : c < i ∧ (getV vs c).r = (getV vs i).r - 1 := by
  have h1 := h.acyc i hi c hc
  have h2 := kid_ok (h.row_ok hi) hc
  rw [getV_take h1] at h2
  exact ⟨h1, h2.2⟩
theorem Wf.begv {n : Int} {vs : List Vw} (h : Wf n vs) {i : Nat} (hi : i < vs.length) : begE n (getV vs i) = 0 := (checkE_ok (h.row_ok hi)).1
theorem Wf.nodup {n : Int} {vs : List Vw} (h : Wf n vs) {i j : Nat} (hi : i < vs.length) (hj : j < vs.length) (e : getV vs i = getV vs j) : i = j := by
  have key : ∀ i j, i < j → j < vs.length → getV vs i = getV vs j → False := fun i j hij hj e => by
    have := (rowE_ok (h.2.2 j hj)).2
    refine this ?_
    rw [← e, getV_eq (show i < vs.length by omega), List.mem_iff_getElem]
    exact ⟨i, by simp; omega, by simp⟩
  rcases Nat.lt_trichotomy i j with h1 | h1 | h1
  · exact absurd (key i j h1 hj e) id
  · exact h1
  · exact absurd (key j i h1 hi e.symm) id
theorem Wf.own_kid {n : Int} {vs : List Vw} (h : Wf n vs) {i : Nat} (hi : i < vs.length) (hr : (getV vs i).r ≠ 0) : ((getV vs i).h (getV vs i).p.toNat).toNat ∈ kids (getV vs i) := by
  have hb := begE_ok (h.begv hi)
  obtain ⟨h1, h2⟩ := checkE_ok (h.row_ok hi)
  obtain ⟨hl, hg, _⟩ := h2 hr
  have hp5 : (getV vs i).p.toNat < 5 := by have := h.2.1; omega
  have := linkE_ok (hl _ hp5) hg
  exact mem_kids.2 ⟨by omega, _, hp5, this.1, rfl⟩
theorem words_len {n : Int} {vs : List Vw} (h : Wf n vs) : ∀ i, i < vs.length → (words vs i).length ≤ wlen (getV vs i).r.toNat := by
  intro i
  induction i using Nat.strongRecOn with
  | _ i ih =>
    intro hi
    by_cases hr : (getV vs i).r = 0
    · rw [words_zero hr, hr]; simp [wlen]
    · have hb := begE_ok (h.begv hi)
      obtain ⟨r, hre⟩ : ∃ r, (getV vs i).r.toNat = r + 1 := ⟨(getV vs i).r.toNat - 1, by omega⟩
      rw [words_later h.acyc hi hr, hre]
      have h5 := kids_len5 (getV vs i)
      have := sep_length 40 ((kids (getV vs i)).map (words vs)) (wlen r) (by
        intro x hx
        obtain ⟨c, hc, rfl⟩ := List.mem_map.1 hx
        obtain ⟨k1, k2⟩ := h.kid hi hc
        have := ih c k1 (by omega)
        rwa [show (getV vs c).r.toNat = r from by omega] at this)
      rw [List.length_map] at this
      have h2 : (kids (getV vs i)).length * (wlen r + 1) ≤ 5 * (wlen r + 1) := Nat.mul_le_mul_right _ h5
      simp only [List.length_cons, List.length_append, List.length_nil, wlen]
      omega
end Go.Proofs.YtnikmmdadflefaaGreatDoor
namespace Go.Proofs.YtnikmmdadflefaaGreatDoor
open Go.RowKit Go.Shelf
attribute [local go_sem] Oper.semAt_some
theorem BldAt.belowAll {B b : Nat} {l : List UInt8} {w w' : World} (h : BldAt B b l w) (hb : Below w.heap.size w w') : BldAt B b l w' := h.same fun k _ hk _ => (hb.block k (blk_lt hk)).trans hk
theorem kept_blk {b k : Nat} {w w' : World} {cs : Array Value} {t : TypeId} (h : Kept b w w') (hk : w.heap[k]? = some (.cells cs t (0, 0))) (hb : k ≠ b) (ht : t ≠ 5) : w'.heap[k]? = some (.cells cs t (0, 0)) :=
  h k _ hk (by simpa using hb) (fun c fz e => by cases e; exact ht rfl)
theorem Kept.of_below {b : Nat} {w w' : World} (h : Below w.heap.size w w') : Kept b w w' := fun k _ hk _ _ => (h.block k (blk_lt hk)).trans hk
theorem Kept.trans {b : Nat} {w w' w'' : World} (h : Kept b w w') (h' : Kept b w' w'') : Kept b w w'' := Lib.OthersKept.trans h h'
theorem Kept.shut {b : Nat} {w w' W : World} (h : Kept b w w') (hs : Below w.heap.size w' W) : Kept b w W := fun k o hk h1 h2 => (hs.block k (blk_lt hk)).trans (h k o hk h1 h2)
theorem Kept.drewL {b : Nat} {w w' : World} (h : Kept b w.drew w') : Kept b w w' := h
def RetWrite (B b : Nat) (l s : List UInt8) (w : World) (e : Ending) (w' : World) : Prop := e = .returned (.tuple #[]) ∧ BldAt B b (l ++ s) w' ∧ Below B w w' ∧ Kept b w w'
def WriteSaid (vs : List Vw) (i : Nat) : Prop := ∀ (n : Int) (A : Option Addr) (cap B b : Nat) (l : List UInt8) (w : World), TArg w A cap vs → VAt w B A vs → BldAt B b l w → B ≤ w.heap.size → l.length + wlen (getV vs i).r.toNat ≤ 65536 →
  Calls Tryz.prog 90 #[.pointer (some ⟨b, 0, none⟩), .agg #[.int .i64 n, .slice A vs.length cap], .int .i64 i] w (RetWrite B b l (words vs i) w)
theorem itoa_one (x : Int) (h0 : 0 ≤ x) (h1 : x < 10) (w : World) : Calls Tryz.prog 141 #[.int .i64 x] w fun e w' => e = .returned (.string ⟨#[dgt x]⟩) ∧ w' = w := by
  obtain ⟨k, rfl⟩ := Int.eq_ofNat_of_zero_le h0
  refine (Tryz.strconv_Itoa_small k (by omega) w).mono ?_
  rintro e w' ⟨rfl, rfl⟩
  refine ⟨?_, rfl⟩
  rw [Lib.decDigits_one (by omega)]
  rfl
theorem wsz1 {l : List UInt8} (a : UInt8) (h : l.length + 3 ≤ 65536) : l.length + (⟨#[a]⟩ : ByteArray).size ≤ 140737488355328 := by
  have h1 : (⟨#[a]⟩ : ByteArray).size = 1 := rfl
  omega
theorem wsz2 {l : List UInt8} (a b c : UInt8) (h : l.length + 3 ≤ 65536) : (l ++ [a]).length + ((⟨#[b]⟩ : ByteArray) ++ ⟨#[c]⟩).size ≤ 140737488355328 := by
  have h1 : ((⟨#[b]⟩ : ByteArray) ++ ⟨#[c]⟩).size = 2 := by rw [ByteArray.size_append]; rfl
  rw [h1, List.length_append]
  simp only [List.length_cons, List.length_nil]
  omega
theorem wsz3 {l : List UInt8} {m : Nat} (a : UInt8) (h : l.length + 1 + m ≤ 65536) : l.length + (⟨#[a]⟩ : ByteArray).size ≤ 140737488355328 := by
  have h1 : (⟨#[a]⟩ : ByteArray).size = 1 := rfl
  omega
theorem TArg.of_vat {w W : World} {A : Option Addr} {cap B : Nat} {vs : List Vw} (h : TArg w A cap vs) (hV : VAt w B A vs) (hb : Below B w W) (hB : B ≤ w.heap.size) : TArg W A cap vs :=
  ⟨(hV.keep hb).more (by have := hb.size; omega), h.lec, h.lem, h.few⟩
theorem part_len {vs : List Vw} {l : List UInt8} {p : UInt8} {pre : List Nat} {r M : Nat} (h : ∀ c, c ∈ pre → (words vs c).length ≤ wlen r) (hp : pre.length < 5) (hl : l.length + wlen (r + 1) ≤ M) (s : UInt8) :
    (l ++ p :: sep s (pre.map (words vs))).length + 1 + wlen r ≤ M := by
  have h1 := sep_length s (pre.map (words vs)) (wlen r) (by
    intro x hx
    obtain ⟨c, hc, rfl⟩ := List.mem_map.1 hx
    exact h c hc)
  rw [List.length_map] at h1
  have h2 : pre.length * (wlen r + 1) ≤ 4 * (wlen r + 1) := Nat.mul_le_mul_right _ (by omega)
  simp only [wlen] at hl
  simp only [List.length_append, List.length_cons]
  omega
set_option maxRecDepth 100000 in
set_option maxHeartbeats 2000000 in
theorem write_of {m : Int} {vs : List Vw} (hw : Wf m vs) {i : Nat} (hi : i < vs.length) (ih : ∀ c, c ∈ kids (getV vs i) → WriteSaid vs c) : WriteSaid vs i := by
  intro n A cap B b l w hT hV hB hBw hlen
  have HT := Lib.hid hT
  have HV := Lib.hid hV
  have HB := Lib.hid hB
  have hfew := hT.few
  have hblt := hB.lt
  have hbl : (Lib.byteCells l).length = l.length := by simp [Lib.byteCells]
  have hle : (Lib.byteCells l).length ≤ 65536 := by omega
  have HBL := Lib.hid hbl
  have HW := Lib.hid hw
  have IH := Lib.hid ih
  clear hT hV hB hbl hw ih
  refine calls_of_marks Tryz.func90 rfl ?_
  simp only [Tryz.ntmps90, List.size_toArray, List.length_cons, List.length_nil, Nat.reduceAdd, Nat.reduceSub, Array.replicate_succ, Array.replicate_zero, List.push_toArray, List.append_toArray, List.nil_append, List.cons_append]
  go_wp2_with fail
  obtain ⟨W0, hW0, b0, b1, hsz, hB0⟩ := twoboxes w #[.pointer (some ⟨b, 0, none⟩)] #[.int .i64 n, .slice A vs.length cap] 147 33
  rw [hW0]
  clear hW0
  have B0 : Hid (BldAt B b l W0) := HB.out.belowAll hB0
  refine (Tryz.Builder_Len_f B b _ W0 B0.out).mono ?_
  rintro e w1 ⟨rfl, rfl⟩
  have t0 := blk_cell b0 0 rfl
  have t1 : w1.cell? ⟨w.heap.size + 1, 1, none⟩ = some (.slice A vs.length cap) := blk_cell b1 1 rfl
  have K0 := Lib.hid b0
  have K1 := Lib.hid b1
  have BL := Lib.hid hB0
  obtain ⟨b', off, rfl, hb1, c0, c1, c2, c3, c4, c5, c6, c7⟩ := (HT.out.keep hB0).rows.row i hi
  have hi0 : (0 : Int) ≤ (i : Int) := by omega
  have hi1 : (i : Int) < (vs.length : Int) := by omega
  have hbg := begE_ok (HW.out.beg hi)
  have hm5 := HW.out.2.1
  have hp9 : vs[i].p < 10 := by omega
  have hp0 : 0 ≤ vs[i].p := hbg.1
  clear b0 b1 hB0
  go_upto_region 3 with fail
  refine wp_one ?_
  intro W2 g0 hsz2 hB2
  have g1 : W2.heap[w1.heap.size]? = some (.cells vs[i].cells 92 (0, 0)) := g0
  have q0 : W2.cell? ⟨w1.heap.size, 0, none⟩ = some (.int .i64 vs[i].p) := blk_cell g1 0 rfl
  have s0 : W2.cell? ⟨w.heap.size, 0, none⟩ = some (.pointer (some ⟨b, 0, none⟩)) := blk_cell ((hB2.block _ (by omega)).trans K0.out) 0 rfl
  have B2 : Hid (BldAt B b l W2) := B0.out.belowAll hB2
  have KK0 : Hid (W2.heap[w.heap.size]? = some (.cells #[.pointer (some ⟨b, 0, none⟩)] 147 (0, 0))) := (hB2.block _ (by omega)).trans K0.out
  have KK1 : Hid (W2.heap[w.heap.size + 1]? = some (.cells #[.int .i64 n, .slice (some ⟨b', off, none⟩) vs.length cap] 33 (0, 0))) := (hB2.block _ (by omega)).trans K1.out
  have G1 := Lib.hid g1
  have BW : Hid (Below w.heap.size w W2) := BL.out.trans (hB2.mono (by omega))
  have lw2 : w.heap.size + 3 ≤ W2.heap.size := by omega
  obtain ⟨g, hgb⟩ : ∃ g, w.heap.size + 2 = g := ⟨_, rfl⟩
  rw [hsz, hgb] at q0 G1
  rw [hgb]
  have HG := Lib.hid hgb
  clear g0 g1 c0 c1 c2 c3 c4 c5 c6 c7 t0 t1 hsz2 hB2 hgb K0 K1 BL B0 hsz
  refine wp_region_still_tail 4 (by kernel_rfl) (by kernel_rfl) ?_
  simp only [List.take_succ_cons, List.take_zero, List.drop_succ_cons, List.drop_zero]
  still_step
  still_step
  still_step
  still_call (itoa_one vs[i].p hp0 hp9 _)
  refine wpStill_nil ?_
  have hlw := wlen_mono (Nat.zero_le (getV vs i).r.toNat)
  have hl3 : l.length + 3 ≤ 65536 := by have e3 : wlen 0 = 3 := rfl; omega
  have hgv : getV vs i = vs[i] := getV_eq hi
  have HGV := Lib.hid hgv
  clear hgv
  by_cases hr : vs[i].r = 0
  · have e1 : (vs[i].r == 0) = true := by simp [hr]
    have hz : Hid (words vs i = [dgt vs[i].p, 58, dgt vs[i].i]) := by show _ = _; rw [words_zero (by rw [HGV.out]; exact hr), HGV.out]
    have hin0 := (hbg.2.2.2.2.1 hr).1
    have hin9 : vs[i].i < 10 := by have := (hbg.2.2.2.2.1 hr).2; omega
    clear hr hbg
    go_wp2_with (go_at_call 140; refine (bwrite_ex B b l ⟨#[dgt vs[i].p]⟩ _ B2.out.drew (wsz1 _ hl3) (Nat.le_trans hBw BW.out.size)).mono ?_; rintro e w3 ⟨sz3, rfl, hb3, hB3, hk3⟩; clear q0 s0
                 have L1 := Lib.hid (kept_blk hk3.drewL G1.out (by have := HG.out; omega) (by decide))
                 have L2 := Lib.hid (kept_blk hk3.drewL KK0.out (by omega) (by decide))
                 have L3 := Lib.hid (kept_blk hk3.drewL KK1.out (by omega) (by decide))
                 have x0 : w3.cell? ⟨g, 1, none⟩ = some (.int .i64 vs[i].r) := blk_cell L1.out 1 rfl
                 have B3 := Lib.hid hb3
                 have Bw3 := Lib.hid (belU hB3)
                 have Kw3 := Lib.hid hk3.drewL
                 clear hb3 hB3 hk3)
    have s0 : w3.cell? ⟨w.heap.size, 0, none⟩ = some (.pointer (some ⟨b, 0, none⟩)) := blk_cell L2.out 0 rfl
    have q2 : w3.cell? ⟨g, 2, none⟩ = some (.int .i64 vs[i].i) := blk_cell L1.out 2 rfl
    refine wp_region_still_tail 5 (by kernel_rfl) (by kernel_rfl) ?_
    simp only [List.take_succ_cons, List.take_zero, List.drop_succ_cons, List.drop_zero]
    still_step
    still_step
    still_step
    still_call (itoa_one vs[i].i hin0 hin9 _)
    still_step
    refine wpStill_nil ?_
    go_wp2_with fail
    refine (bwrite_ex B b (l ++ [dgt vs[i].p]) _ _ B3.out.drew (wsz2 _ _ _ hl3) (Nat.le_trans (Nat.le_trans hBw BW.out.size) Bw3.out.size)).mono ?_
    rintro e w4 ⟨sz4, rfl, hb4, hB4, hk4⟩
    have HB4 := Lib.hid hb4
    have BB4 := Lib.hid hB4
    have HK4 := Lib.hid hk4
    clear hb4 hB4 hk4
    go_wp2_with fail
    refine ret_marks (Marks.nil w.heap.size _) (v := .tuple #[]) (fun W => by kernel_rfl) ?_
    intro W hS
    refine ⟨rfl, ?_, ?_, ?_⟩
    · have := HB4.out.same (w' := W) hS.same
      rw [hz.out]
      simpa using this
    · exact ((BW.out.mono hBw).trans (Bw3.out.trans (belU BB4.out))).trans (hS.below.mono hBw)
    · exact ((Kept.of_below BW.out).trans (Kw3.out.trans HK4.out.drewL)).shut hS.below
  · have e1 : (vs[i].r == 0) = false := by simp [hr]
    have hr' : (getV vs i).r ≠ 0 := by rw [HGV.out]; exact hr
    have hz := Lib.hid (words_later HW.out.acyc hi hr')
    have HR := Lib.hid hr'
    have hr1 : 0 < vs[i].r := by have := hbg.2.2.1; omega
    clear hr hbg hr'
    go_wp2_with (go_at_call 140; refine (bwrite_ex B b l ⟨#[dgt vs[i].p]⟩ _ B2.out.drew (wsz1 _ hl3) (Nat.le_trans hBw BW.out.size)).mono ?_; rintro e w3 ⟨sz3, rfl, hb3, hB3, hk3⟩; clear q0 s0
                 have L1 := Lib.hid (kept_blk hk3.drewL G1.out (by have := HG.out; omega) (by decide))
                 have L2 := Lib.hid (kept_blk hk3.drewL KK0.out (by omega) (by decide))
                 have L3 := Lib.hid (kept_blk hk3.drewL KK1.out (by omega) (by decide))
                 have x0 : w3.cell? ⟨g, 1, none⟩ = some (.int .i64 vs[i].r) := blk_cell L1.out 1 rfl
                 have B3 := Lib.hid hb3
                 have Bw3 := Lib.hid (belU hB3)
                 have Kw3 := Lib.hid hk3.drewL
                 have q0 : w3.cell? ⟨g, 0, none⟩ = some (.int .i64 vs[i].p) := blk_cell L1.out 0 rfl
                 have q2 : w3.cell? ⟨g, 2, none⟩ = some (.int .i64 vs[i].i) := blk_cell L1.out 2 rfl
                 have q3 : w3.cell? ⟨g, 3, none⟩ = some (.int .i64 vs[i].h0) := blk_cell L1.out 3 rfl
                 have q4 : w3.cell? ⟨g, 4, none⟩ = some (.int .i64 vs[i].h1) := blk_cell L1.out 4 rfl
                 have q5 : w3.cell? ⟨g, 5, none⟩ = some (.int .i64 vs[i].h2) := blk_cell L1.out 5 rfl
                 have q6 : w3.cell? ⟨g, 6, none⟩ = some (.int .i64 vs[i].h3) := blk_cell L1.out 6 rfl
                 have q7 : w3.cell? ⟨g, 7, none⟩ = some (.int .i64 vs[i].h4) := blk_cell L1.out 7 rfl
                 have hg3 : g < w3.heap.size := blk_lt L1.out
                 clear hb3 hB3 hk3)
    obtain ⟨W4, hW4, s4, hsz4, hB4⟩ := onebox w3 #[.string ⟨#[40]⟩] 9
    rw [hW4]
    obtain ⟨gs, hgs⟩ : ∃ gs, w3.heap.size = gs := ⟨_, rfl⟩
    rw [hgs] at s4 ⊢
    have hh := heard_any vs[i] W4
    have hbx := blk_new W4 (.cells vs[i].cells 92)
    have hseq := heard1_iter vs[i] W4.heap.size _ hbx
    have lgs : gs < W4.heap.size := by omega
    have hwgs : w.heap.size + 3 ≤ gs := by have h1 := BW.out.size; have h2 := Bw3.out.size; omega
    have Bld4 : BldAt B b (l ++ [dgt vs[i].p]) W4 := B3.out.belowAll hB4
    have S5 := blk_old s4 (.cells vs[i].cells 92)
    have Bld5 := Bld4.alloc (.cells vs[i].cells 92)
    have A0 := blk_old ((hB4.block _ (by omega)).trans L2.out) (.cells vs[i].cells 92)
    have A1 := blk_old ((hB4.block _ (by omega)).trans L3.out) (.cells vs[i].cells 92)
    have B5 : Below B w (W4.alloc (.cells vs[i].cells 92)) := ((BW.out.mono hBw).trans (Bw3.out.trans (hB4.mono (by have h1 := BW.out.size; have h2 := Bw3.out.size; omega)))).trans ((bel1 W4 _).mono (by have h1 := BW.out.size; omega))
    have KW5 : Kept b w (W4.alloc (.cells vs[i].cells 92)) := ((Kept.of_below BW.out).trans (Kw3.out.trans (Kept.of_below hB4))).trans (Kept.of_below (bel1 W4 _))
    have hbw : W4.heap.size < (W4.alloc (.cells vs[i].cells 92)).heap.size := by simp
    unfold Vw.cells at hh
    clear q0 q2 q3 q4 q5 q6 q7 x0 hW4 hB4 s4
    refine hh.mono ?_
    rintro e w5 ⟨rfl, hw5⟩
    have hw5' : W4.alloc (.cells vs[i].cells 92) = w5 := hw5
    rw [hw5'] at hbx hseq S5 Bld5 A0 A1 B5 KW5 hbw
    clear hw5 hw5'
    have XX := Lib.hid hseq
    have XS := Lib.hid S5
    have XB := Lib.hid Bld5
    have XA0 := Lib.hid A0
    have XA1 := Lib.hid A1
    have XV := Lib.hid hbx
    have XW := Lib.hid B5
    have XK := Lib.hid KW5
    have HGS := Lib.hid hgs
    have HS4 := Lib.hid hsz4
    clear hseq S5 Bld5 A0 A1 hbx B5 KW5 hh hgs hsz4 Bld4
    have hB5 : B ≤ w5.heap.size := by have h1 := XW.out.size; omega
    go_wp2_with fail
    refine wp_range rfl (enters_of Tryz.func152 (by kernel_rfl) rfl) XX.out (by rintro k rfl; exact hbw) (fun _ => rfl)
      (fun pre W => WrIn B b gs (l ++ dgt vs[i].p :: sep 40 (pre.map fun x => words vs x.1.2.toNat)) (if pre = [] then 40 else 44) w5 W) (fun _ _ _ => False) (fun _ _ _ _ h hg hr => h.turn hB5 hg hr) (fun _ _ _ _ _ h _ _ => h)
      ⟨XB.out, XS.out, Below.refl _ _, fun _ _ h _ _ _ => h⟩ ?a1 ?assign ?body ?done ?stop
    case assign =>
      intro l x W K hK
      gi_wp2
      exact hK
    case body =>
      intro l' pre x W hI hlt
      have hl5 : (heardL vs[i]).length ≤ 5 := by have := kids_len5 vs[i]; simpa [kids] using this
      obtain ⟨hx0, q, hq5, hxq, hxn⟩ := mem_heardL.1 x.2
      have hxk : x.1.2.toNat ∈ kids (getV vs i) := by rw [HGV.out]; exact List.mem_map.2 ⟨x.1, x.2, rfl⟩
      obtain ⟨c, hc⟩ := Int.eq_ofNat_of_zero_le (show 0 ≤ x.1.2 by rw [hxq]; exact hxn)
      have hct : x.1.2.toNat = c := by omega
      rw [hct] at hxk
      have hkc := HW.out.kid hi hxk
      have hcl : c < vs.length := by omega
      obtain ⟨r, hre⟩ : ∃ r, (getV vs i).r.toNat = r + 1 := ⟨(getV vs i).r.toNat - 1, by have := HGV.out; rw [this]; omega⟩
      have hrc : (getV vs c).r.toNat = r := by have := hkc.2; omega
      have hpk : ∀ y, y ∈ pre.map (fun x => x.1.2.toNat) → (words vs y).length ≤ wlen r := by
        intro y hy
        obtain ⟨z, _, rfl⟩ := List.mem_map.1 hy
        have hzk : z.1.2.toNat ∈ kids (getV vs i) := by rw [HGV.out]; exact List.mem_map.2 ⟨z.1, z.2, rfl⟩
        have hz := HW.out.kid hi hzk
        have := words_len HW.out z.1.2.toNat (by omega)
        rwa [show (getV vs z.1.2.toNat).r.toNat = r from by have := hz.2; omega] at this
      have hmm : pre.map (fun x => words vs x.1.2.toNat) = (pre.map fun x => x.1.2.toNat).map (words vs) := by rw [List.map_map]; rfl
      have hbud := part_len (l := l) (p := dgt vs[i].p) hpk (by rw [List.length_map]; omega) (by rw [← hre]; exact hlen) 40
      have hsnoc : (pre ++ [x]).map (fun x => words vs x.1.2.toNat) = pre.map (fun x => words vs x.1.2.toNat) ++ [words vs c] := by simp [hct]
      rw [← hmm] at hbud
      obtain ⟨ws, hws⟩ : ∃ ws, pre.map (fun x => words vs x.1.2.toNat) = ws := ⟨_, rfl⟩
      have hnil : (pre = []) ↔ (ws = []) := by rw [← hws, List.map_eq_nil_iff]
      obtain ⟨sg, hsg⟩ : ∃ sg : UInt8, (if pre = [] then 40 else 44) = sg := ⟨_, rfl⟩
      have hnew : l ++ dgt vs[i].p :: sep 40 (ws ++ [words vs c]) = ((l ++ dgt vs[i].p :: sep 40 ws) ++ [sg]) ++ words vs c := by
        rw [sep_snoc, ← hsg]
        simp only [hnil]
        simp
      rw [hws, hsg] at hI
      rw [hws] at hbud
      have e0 := blk_cell (hI.rest _ _ XA0.out (by omega) (by omega) (fun c fz e => by cases e)) 0 rfl
      have e1' : W.cell? ⟨w.heap.size + 1, 0, none⟩ = some (.int .i64 n) := blk_cell (hI.rest _ _ XA1.out (by omega) (by omega) (fun c fz e => by cases e)) 0 rfl
      have e2 : W.cell? ⟨w.heap.size + 1, 1, none⟩ = some (.slice (some ⟨b', off, none⟩) vs.length cap) := blk_cell (hI.rest _ _ XA1.out (by omega) (by omega) (fun c fz e => by cases e)) 1 rfl
      have e3 : W.cell? ⟨gs, 0, none⟩ = some (.string ⟨#[sg]⟩) := blk_cell hI.sign 0 rfl
      have hBW : B ≤ W.heap.size := by have := hI.below.size; omega
      have HI := Lib.hid hI
      have HN := Lib.hid hnew
      have HS := Lib.hid hsnoc
      have HWS := Lib.hid hws
      have HXV := Lib.hid hc
      have HRC := Lib.hid hrc
      have hxe : (x.1.2 : Int) = (c : Int) := hc
      clear hI hnew hsnoc hws hc hct hsg hnil hmm hpk hre hxq hrc
      gi_wp2_with fail
      refine ⟨trivial, (CallsIn.inRound l' ((callsIn_wide (n := 6)).2 (bwrite_ex B b _ _ W HI.out.bld (wsz3 _ hbud) hBW))).mono ?_⟩
      rintro e W1 ⟨k1, rfl, hb1', hB1, hk1⟩
      have f0 := blk_cell (kept_blk hk1 (HI.out.rest _ _ XA0.out (by omega) (by omega) (fun c fz e => by cases e)) (by omega) (by decide)) 0 rfl
      have f1 : W1.cell? ⟨w.heap.size + 1, 0, none⟩ = some (.int .i64 n) := blk_cell (kept_blk hk1 (HI.out.rest _ _ XA1.out (by omega) (by omega) (fun c fz e => by cases e)) (by omega) (by decide)) 0 rfl
      have f2 : W1.cell? ⟨w.heap.size + 1, 1, none⟩ = some (.slice (some ⟨b', off, none⟩) vs.length cap) := blk_cell (kept_blk hk1 (HI.out.rest _ _ XA1.out (by omega) (by omega) (fun c fz e => by cases e)) (by omega) (by decide)) 1 rfl
      have HB1 := Lib.hid hb1'
      have HBl1 := Lib.hid hB1
      have HK1 := Lib.hid hk1
      have hBW1 : B ≤ W1.heap.size := Nat.le_trans hBW hB1.size
      have Bw1 : Hid (Below B w W1) := XW.out.trans (HI.out.below.trans hB1)
      clear e0 e1' e2 e3 hb1' hB1 hk1
      gi_wp2_with fail
      refine ⟨trivial, (CallsIn.inRound l' ((callsIn_wide (n := 6)).2 (IH.out c hxk n _ cap B b _ W1 (TArg.of_vat HT.out HV.out Bw1.out hBw) (HV.out.keep Bw1.out) HB1.out hBW1 (by have h1 := HRC.out; rw [h1, List.length_append]; simp only [List.length_cons, List.length_nil]; omega)))).mono ?_⟩
      rintro e W2' ⟨rfl, hb2, hB2, hk2⟩
      have hsg2 : W2'.heap[gs]? = some (.cells #[.string ⟨#[sg]⟩] 9 (0, 0)) := kept_blk hk2 (kept_blk HK1.out HI.out.sign (by omega) (by decide)) (by omega) (by decide)
      have g0 := blk_cell hsg2 0 rfl
      have g1 := blk_froz hsg2 0
      have HSG := Lib.hid hsg2
      have HB2 := Lib.hid hb2
      have HBl2 := Lib.hid hB2
      have HK2 := Lib.hid hk2
      clear f0 f1 f2 hsg2 hb2 hB2 hk2
      gi_wp2_with fail
      have hk12 : Kept b W (W2'.setCell ⟨gs, 0, none⟩ (.string ⟨#[44]⟩)) → True := fun _ => trivial
      have rest : ∀ (k : Nat) (o : Obj), W.heap[k]? = some o → k ≠ b → k ≠ gs → (∀ c fz, o ≠ .cells c 5 fz) → (W2'.setCell ⟨gs, 0, none⟩ (.string ⟨#[44]⟩)).heap[k]? = some o := fun k o hk h1 h2 h3 =>
        (Below.heap_setCell _ _ _ _ h2).trans (HK2.out k o (HK1.out k o hk (by simpa using h1) h3) (by simpa using h1) h3)
      have hsize : W.heap.size ≤ (W2'.setCell ⟨gs, 0, none⟩ (.string ⟨#[44]⟩)).heap.size := by have h1 := HBl1.out.size; have h2 := HBl2.out.size; simp; omega
      refine ⟨⟨hsize, fun k o hk hko hcl => rest k o hko (by omega) (by omega) (fun c fz e => by rw [e] at hcl; cases hcl)⟩, ⟨hsize, fun k hk _ => ?_⟩, ?_⟩
      · subst hk
        have h1 := HI.out.rest _ _ XV.out (by omega) (by omega) (fun c fz e => by cases e)
        rw [rest _ _ h1 (by omega) (by omega) (fun c fz e => by cases e), h1]
      · dsimp only
        rw [HS.out, HWS.out, HN.out, if_neg (by simp)]
        refine ⟨HB2.out.set HSG.out (by decide) (by omega) 0 _, ?_, (HI.out.below.trans (HBl1.out.trans HBl2.out)).setCell (by simp; omega) _, fun k o hk h1 h2 h3 => rest k o (HI.out.rest k o hk h1 h2 h3) h1 h2 h3⟩
        simp [World.setCell, Array.getElem?_modify, HSG.out]
    case done =>
      intro D ys W hD hys hI hDk
      have hyl : ys.map (fun x => words vs x.1.2.toNat) = (kids (getV vs i)).map (words vs) := by
        have := congrArg (List.map (fun x : Int × Int => words vs x.2.toNat)) hys
        rw [List.map_map] at this
        rw [HGV.out]
        unfold kids
        rw [List.map_map]
        exact this
      rw [hyl] at hI
      have hk0 : (kids (getV vs i)) ≠ [] := fun e => by have := HW.out.own_kid hi HR.out; rw [e] at this; cases this
      have e0 := blk_cell (hI.rest _ _ XA0.out (by omega) (by omega) (fun c fz e => by cases e)) 0 rfl
      have hBW : B ≤ W.heap.size := by have := hI.below.size; omega
      have hwl := words_len HW.out i hi
      rw [hz.out] at hwl
      have hfin : (l ++ dgt vs[i].p :: sep 40 ((kids (getV vs i)).map (words vs))).length + 1 + 0 ≤ 65536 := by
        rw [HGV.out] at hwl hlen ⊢
        simp only [List.length_append, List.length_cons, List.length_nil] at hwl ⊢
        omega
      have hlist : l ++ words vs i = (l ++ dgt vs[i].p :: sep 40 ((kids (getV vs i)).map (words vs))) ++ [41] := by
        rw [hz.out, HGV.out]; simp
      obtain ⟨L, hL⟩ : ∃ L, l ++ dgt vs[i].p :: sep 40 ((kids (getV vs i)).map (words vs)) = L := ⟨_, rfl⟩
      rw [hL] at hI hfin hlist
      have HI := Lib.hid hI
      have HLL := Lib.hid hlist
      have HDK := Lib.hid hDk
      clear hyl hI hk0 hwl hlist hL hDk hys
      go_wp2_with fail
      refine (bwrite_ex B b L _ _ HI.out.bld (wsz3 _ hfin) hBW).mono ?_
      rintro e W9 ⟨k9, rfl, hb9, hB9, hk9⟩
      have HB9 := Lib.hid hb9
      have HBl9 := Lib.hid hB9
      have HK9 := Lib.hid hk9
      clear e0 hb9 hB9 hk9
      go_wp2_with fail
      have hD9 : W9.heap[D]? = some (.deferred (some [])) := HK9.out D _ HDK.out (by simp; omega) (fun c fz e => by cases e)
      have hmk : Marks w.heap.size [{ target := .collected D, args := #[] }] W9 := ⟨[D], rfl, by simp, fun r hr => by simp at hr; subst hr; exact ⟨by omega, hD9⟩⟩
      refine end_marks hmk (v := .tuple #[]) (fun W => by kernel_rfl) ?_
      intro X hS
      refine ⟨rfl, ?_, ?_, ?_⟩
      · rw [HLL.out]
        exact HB9.out.same hS.same
      · exact (XW.out.trans (HI.out.below.trans HBl9.out)).trans (hS.below.mono hBw)
      · refine Kept.shut (w' := W9) ?_ hS.below
        intro k o hk h1 h2
        have hkb : k ≠ b := by simpa using h1
        have hkl := blk_lt hk
        exact HK9.out k o (HI.out.rest k o (XK.out k o hk h1 h2) hkb (by omega) h2) h1 h2
    case stop =>
      intro D c pre W _ _ h
      exact h.elim
end Go.Proofs.YtnikmmdadflefaaGreatDoor
namespace Go.Proofs.YtnikmmdadflefaaGreatDoor
open Go.RowKit
def Lows (vs : List Vw) : Prop := ∀ i, i < vs.length → ¬ (4 < (getV vs i).r ∧ (getV vs i).r ≤ 6)
theorem Lows.len {n : Int} {vs : List Vw} (hw : Wf n vs) (hl : Lows vs) {i : Nat} (hi : i < vs.length) : wlen (getV vs i).r.toNat ≤ 2967 := by
  have hb := begE_ok (hw.begv hi)
  have := hl i hi
  have h4 : (getV vs i).r.toNat ≤ 4 := by omega
  exact wlen_mono h4
def FitsV (n : Int) (vs : List Vw) (i : Int) : Prop := ∀ j : Nat, i = (j : Int) → j < vs.length → Wf n vs → wlen (getV vs j).r.toNat ≤ 65536
theorem Lows.fits {n : Int} {vs : List Vw} (hl : Lows vs) (i : Int) : FitsV n vs i := fun j _ hj hw => Nat.le_trans (hl.len hw hj) (by decide)
def textE (n : Int) (vs : List Vw) (i : Int) : List UInt8 × Int := if atE n vs [i] ≠ 0 then ([], atE n vs [i]) else (words vs i.toNat, 0)
def RetText (r : List UInt8 × Int) (w : World) (e : Ending) (w' : World) : Prop := e = .returned (.tuple #[.string ⟨r.1.toArray⟩, .int .i64 r.2]) ∧ Below w.heap.size w w'
theorem textE_bad {n : Int} {vs : List Vw} {i : Int} (h : atE n vs [i] ≠ 0) : textE n vs i = ([], atE n vs [i]) := by unfold textE; rw [if_pos h]
theorem textE_yes {n : Int} {vs : List Vw} {i : Nat} (h : atE n vs [(i : Int)] = 0) : textE n vs i = (words vs i, 0) := by unfold textE; rw [if_neg (by simp [h]), Int.toNat_natCast]
theorem RetText.of {r : List UInt8 × Int} {w w' : World} {l : List UInt8} {s : ByteArray} {c : Int} (h : r = (l, c)) (hs : s = ⟨l.toArray⟩) (hb : Below w.heap.size w w') : RetText r w (.returned (.tuple #[.string s, .int .i64 c])) w' := by subst h; subst hs; exact ⟨rfl, hb⟩
theorem write_any {n : Int} {vs : List Vw} (hw : Wf n vs) : ∀ i, i < vs.length → WriteSaid vs i := by
  intro i
  induction i using Nat.strongRecOn with
  | _ i ih =>
    intro hi
    exact write_of hw hi fun c hc => by
      have := hw.acyc i hi c hc
      exact ih c this (by omega)
set_option maxRecDepth 100000 in
set_option maxHeartbeats 4000000 in
theorem vtextG_any (n : Int) (A : Option Addr) (cap : Nat) (vs : List Vw) (i : Int) (hlo : FitsV n vs i) (w : World) (hT : TArg w A cap vs) :
    Calls Tryz.prog 41 #[.agg #[.int .i64 n, .slice A vs.length cap], .int .i64 i] w (RetText (textE n vs i) w) := by
  have HT := Lib.hid hT
  have hfew := hT.few
  have HLO := Lib.hid hlo
  clear hT hlo
  go_enter Tryz.func41, Tryz.ntmps41
  go_wp2_with fail
  obtain ⟨W0, hW0, b0, hsz, hB0⟩ := onebox w #[.int .i64 n, .slice A vs.length cap] 33
  rw [hW0]
  clear hW0
  have hI : IAt (W0.alloc (.cells #[.int .i64 i] 3)) (W0.alloc (.cells #[.int .i64 i] 3)).heap.size (some ⟨w.heap.size + 1, 0, none⟩) [i] := by have := IAt.box W0 i 3; rwa [hsz] at this
  have hbx := bel1 W0 (.cells #[.int .i64 i] 3)
  refine (vat_any n A (some ⟨w.heap.size + 1, 0, none⟩) cap 1 vs [i] (W0.alloc (.cells #[.int .i64 i] 3)) (HT.out.keep (hB0.trans (hbx.mono (by omega)))) hI (by simp)).mono ?_
  rintro e w1 ⟨rfl, hb⟩
  have d0 := (hb.block _ (by simp; omega)).trans ((hbx.block _ (by omega)).trans b0)
  have B1 : Hid (Below w.heap.size w w1) := hB0.trans ((hbx.trans (hb.mono (by simp))).mono (by omega))
  have l1 : w.heap.size < w1.heap.size := by have := hb.size; simp at this; omega
  clear hI hbx
  have t0 := blk_cell d0 0 rfl
  have t1 := blk_cell d0 1 rfl
  have HD := Lib.hid d0
  clear b0 hsz hB0 hb d0
  by_cases hc : atE n vs [i] = 0
  · have e0 : (atE n vs [i] != 0) = false := by simp [hc]
    obtain ⟨hwf, _, hin⟩ := atE_ok hc
    obtain ⟨h0, h1⟩ := hin i (by simp)
    obtain ⟨j, rfl⟩ := Int.eq_ofNat_of_zero_le h0
    have hj : j < vs.length := by omega
    have hz := Lib.hid (textE_yes hc)
    have hlen := HLO.out j rfl hj hwf
    have HW := Lib.hid hwf
    clear hc hin hwf
    go_wp2_with fail
    refine (write_any HW.out j hj n A cap w1.heap.size w1.heap.size [] _ (HT.out.keep (B1.out.trans ((bel1 w1 _).mono B1.out.size))) ((HT.out.rows.keep (B1.out.trans ((bel1 w1 _).mono B1.out.size))).more B1.out.size) (BldAt.fresh w1) (by simp) (by simp only [List.length_nil]; omega)).mono ?_
    rintro e w2 ⟨rfl, hb2, hB2, _⟩
    have hB2' : Hid (Below w.heap.size w w2) := (B1.out.trans ((bel1 w1 _).mono B1.out.size)).trans (hB2.mono B1.out.size)
    have hwl := words_len HW.out j hj
    rw [List.nil_append] at hb2
    have hbl : (Lib.byteCells (words vs j)).length ≤ 65536 := by simp only [Lib.byteCells, List.length_map]; omega
    have HB2 := Lib.hid hb2
    have lw2 : w1.heap.size ≤ w2.heap.size := by have := hB2.size; simp at this; omega
    clear hb2 hB2 t0 t1
    go_wp2_with fail
    refine (Tryz.Builder_Len_f w1.heap.size w1.heap.size _ w2 HB2.out).mono ?_
    rintro e w3 ⟨rfl, rfl⟩
    go_wp2_with fail
    refine (Tryz.Builder_String_any_k w1.heap.size w1.heap.size _ w3 HB2.out lw2).mono ?_
    rintro e w4 ⟨rfl, _, hB4, _⟩
    have B4 : Hid (Below w.heap.size w w4) := hB2'.out.trans (hB4.mono B1.out.size)
    clear hB4
    go_wp2_with fail
    go_ret2
    exact RetText.of hz.out rfl B4.out
  · have e0 : (atE n vs [i] != 0) = true := by simpa using hc
    have hz := Lib.hid (textE_bad hc)
    clear hc
    go_wp2_with fail
    go_ret2
    exact RetText.of hz.out rfl B1.out
theorem vtext_any (n : Int) (A : Option Addr) (cap : Nat) (vs : List Vw) (hlo : Lows vs) (i : Int) (w : World) (hT : TArg w A cap vs) :
    Calls Tryz.prog 41 #[.agg #[.int .i64 n, .slice A vs.length cap], .int .i64 i] w (RetText (textE n vs i) w) := vtextG_any n A cap vs i (hlo.fits i) w hT
end Go.Proofs.YtnikmmdadflefaaGreatDoor
namespace Go.Proofs.YtnikmmdadflefaaGreatDoor
def exSy : Sy := (buildE exPb).1
theorem ex_few : fewPB exPb = true := by decide +kernel
theorem ex_fewx : FewX exPb := (few_x ex_few).1
theorem ex_ok : (buildE exPb).2 = 0 := by decide +kernel
theorem ex_low : LowP exPb := by
  refine ⟨⟨by decide, fun c hc => ?_⟩, by decide, fun l hl => ?_⟩
  · have : c = exC1 ∨ c = exC2 := by simpa [exPb] using hc
    rcases this with rfl | rfl
    · refine ⟨by decide, by decide, by decide, fun v hv => ?_, fun v hv => ?_⟩
      · have : v = [0, 0] := by simpa [exC1] using hv
        subst this; decide
      · simp [exC1] at hv
    · refine ⟨by decide, by decide, by decide, fun v hv => ?_, fun v hv => ?_⟩
      · have : v = [0, 0] := by simpa [exC2] using hv
        subst this; decide
      · simp [exC2] at hv
  · have : l = [exMv 1, exMv 3] := by simpa [exPb] using hl
    subst this; decide
theorem exs_low : LowS exSy := built_low ex_low ex_fewx
theorem exs_p : exSy.p = exPb := by decide +kernel
theorem exs_len : exSy.vs.length = 8 ∧ exSy.xs.length = 4 ∧ exSy.n = 2 := by decide +kernel
theorem exs_ver : verE exSy = 0 := by decide +kernel
theorem exs_view : viewxE exSy 2 = 0 ∧ viewxE exSy 0 = 0 := by decide +kernel
theorem exs_have : havE exSy 2 = [0, 2] := by decide +kernel
theorem exs_relv : relvE exSy = [2, 3, 4, 6, 7] := by decide +kernel
theorem exs_cont : clE exSy 0 = [2, 4, 7] := by decide +kernel
theorem exs_text : textE exSy.n exSy.vs 3 = ([49, 40, 48, 58, 48, 44, 49, 58, 48, 41], 0) := by decide +kernel
theorem exs_lows : Lows exSy.vs := fun i hi => by
  have h : (exSy.vs.all fun v => decide (¬ (4 < v.r ∧ v.r ≤ 6))) = true := by decide +kernel
  have h1 := of_decide_eq_true (List.all_eq_true.1 h _ (List.getElem_mem hi))
  unfold getV
  rw [List.getD_eq_getElem?_getD, List.getElem?_eq_getElem hi]
  exact h1
def exW (k : Nat) : List Int := [[2, 3], [4, 3], [2, 6], [7, 6]].getD k []
theorem exs_x : ∀ k, k < 4 → ∃ h : k < exSy.xs.length, exSy.xs[k].views.length = 2 ∧ exSy.xs[k].views.getD 1 [] = exW k := by decide +kernel
end Go.Proofs.YtnikmmdadflefaaGreatDoor
namespace Go.Proofs.YtnikmmdadflefaaGreatDoor
open Go.RowKit
attribute [local go_sem] Oper.semAt_some
def exWants : List (List Int) := [[2, 3], [4, 3], [2, 6], [7, 6]]
theorem wants_at {W : World} {g b1 b2 b3 b4 : Nat} (h : W.heap[g]? = some (.cells #[.slice (some ⟨b1, 0, none⟩) 2 2, .slice (some ⟨b2, 0, none⟩) 2 2, .slice (some ⟨b3, 0, none⟩) 2 2, .slice (some ⟨b4, 0, none⟩) 2 2] 49 (0, 0)))
    (h1 : W.heap[b1]? = some (.cells #[.int .i64 2, .int .i64 3] 3 (0, 0))) (h2 : W.heap[b2]? = some (.cells #[.int .i64 4, .int .i64 3] 3 (0, 0))) (h3 : W.heap[b3]? = some (.cells #[.int .i64 2, .int .i64 6] 3 (0, 0))) (h4 : W.heap[b4]? = some (.cells #[.int .i64 7, .int .i64 6] 3 (0, 0))) :
    LAt W W.heap.size (some ⟨g, 0, none⟩) exWants := fun _ => ⟨g, 0, rfl, blk_lt h, fun i hi => by
  have h5 : i < 4 := by simpa [exWants] using hi
  obtain rfl | rfl | rfl | rfl : i = 0 ∨ i = 1 ∨ i = 2 ∨ i = 3 := by omega
  · exact ⟨_, 2, blk_cell h 0 rfl, iat_blk (xs := [2, 3]) h1⟩
  · exact ⟨_, 2, blk_cell h 1 rfl, iat_blk (xs := [4, 3]) h2⟩
  · exact ⟨_, 2, blk_cell h 2 rfl, iat_blk (xs := [2, 6]) h3⟩
  · exact ⟨_, 2, blk_cell h 3 rfl, iat_blk (xs := [7, 6]) h4⟩⟩
set_option maxRecDepth 100000 in
set_option maxHeartbeats 2000000 in
theorem awake_any (w : World) : Calls Tryz.prog 16 #[] w fun e w' => e = .returned (.bool true) ∧ Below w.heap.size w w' := by
  go_enter Tryz.func16, Tryz.ntmps16
  go_wp2_with fail
  refine (example_any w).mono ?_
  rintro e w1 ⟨A, kc, SV, ks, rfl, hA, hS, hb1⟩
  have HBD := Lib.hid (build_any exPb ex_fewx A kc SV ks w1 hA hS)
  have HB1 := Lib.hid hb1
  clear hb1 hA hS
  obtain ⟨P, hP⟩ : ∃ P, exPb = P := ⟨_, rfl⟩
  unfold Pb.vs at HBD ⊢
  have HR : Hid (buildE exPb = (exSy, 0)) := Prod.ext rfl ex_ok
  rw [HR.out] at HBD
  rw [hP] at HBD ⊢
  clear hP HR
  go_wp2_with fail
  refine HBD.out.mono ?_
  rintro e w2 ⟨A2, kc2, SV2, ks2, AV, kv, AX, kx, rfl, hS2, hv1, hv2, hb2⟩
  have HL8 := Lib.hid exs_len
  have HLW := Lib.hid exs_low
  have HPP := Lib.hid exs_p
  have HHV := Lib.hid (fun (X : World) (h : SyAt X X.heap.size A2 SV2 AV AX exSy) => having_any exSy exs_low (by rw [exs_p]; exact ex_fewx) 2 A2 SV2 AV AX kc2 ks2 kv kx X h)
  have HRV := Lib.hid (fun (X : World) (h : SyAt X X.heap.size A2 SV2 AV AX exSy) => relevant_any exSy exs_low (by rw [exs_p]; exact ex_fewx) A2 SV2 AV AX kc2 ks2 kv kx X h)
  have HCT := Lib.hid (fun (X : World) (h : SyAt X X.heap.size A2 SV2 AV AX exSy) => continuing_any exSy exs_low (by rw [exs_p]; exact ex_fewx) 0 A2 SV2 AV AX kc2 ks2 kv kx X h)
  have HTX := Lib.hid (fun (X : World) (h : VAt X X.heap.size AV exSy.vs) => vtext_any exSy.n AV kv exSy.vs exs_lows 3 X ⟨h, hv1, hv2, by rw [exs_len.1]; decide⟩)
  have HXX := Lib.hid exs_x
  unfold RetText at HTX
  rw [exs_text] at HTX
  rw [exs_have, exs_view.1] at HHV
  rw [exs_relv, exs_ver] at HRV
  rw [exs_cont, exs_view.2] at HCT
  have h8 : ((exSy.vs.length : Int) != 8) = false := by rw [exs_len.1]; decide
  have h4 : ((exSy.xs.length : Int) != 4) = false := by rw [exs_len.2.1]; decide
  obtain ⟨T, hT⟩ : ∃ T, exSy = T := ⟨_, rfl⟩
  rw [hT] at HL8 HLW HHV HRV HCT HTX HXX h8 h4 hS2 hv1 ⊢
  clear hT HPP hv1 hv2 HBD
  obtain ⟨W3, hW3, b3, hs3, hB3⟩ := onebox w2 (T.vs_ A2 kc2 SV2 ks2 AV kv AX kx) 36
  have HS3 := Lib.hid (hS2.up hB3)
  have HB3 := Lib.hid (HB1.out.trans ((hb2.trans (hB3.mono hb2.size)).mono HB1.out.size))
  have hs2 := hb2.size
  unfold Sy.vs_ at hW3 b3 HHV HRV HCT ⊢
  have HW3 := Lib.hid hW3
  have HD3 := Lib.hid b3
  clear hb2 hS2 hB3 hW3
  go_simp
  rename_i hKK
  refine hKK _ _ ?_
  clear hKK
  refine wpList_plain rfl fun K5 hK5 => ?_
  go_simp
  refine hK5 _ _ ?_
  clear hK5 K5
  refine wpList_plain rfl fun K5 hK5 => ?_
  go_simp
  refine hK5 _ _ ?_
  clear hK5 K5
  refine wpList_plain rfl fun K5 hK5 => ?_
  go_simp
  refine hK5 _ _ ?_
  clear hK5 K5
  refine wpList_plain rfl fun K5 hK5 => ?_
  go_simp
  refine hK5 _ _ ?_
  clear hK5 K5
  refine wpList_plain rfl fun K5 hK5 => ?_
  go_simp
  rw [HW3.out]
  refine hK5 _ _ ?_
  clear hK5 K5 HW3
  have x8 : W3.cell? ⟨w2.heap.size, 8, none⟩ = some (.slice AV T.vs.length kv) := blk_cell b3 8 rfl
  have x9 : W3.cell? ⟨w2.heap.size, 9, none⟩ = some (.slice AX T.xs.length kx) := blk_cell b3 9 rfl
  clear b3
  go_wp2_with fail
  obtain ⟨a1, ha1, e1, z1, g1⟩ := onebox W3 #[.int .i64 2, .int .i64 3] 3
  obtain ⟨a2, ha2, e2, z2, g2⟩ := onebox a1 #[.int .i64 4, .int .i64 3] 3
  obtain ⟨a3, ha3, e3, z3, g3⟩ := onebox a2 #[.int .i64 2, .int .i64 6] 3
  obtain ⟨a4, ha4, e4, z4, g4⟩ := onebox a3 #[.int .i64 7, .int .i64 6] 3
  obtain ⟨a5, ha5, e5, z5, g5⟩ := onebox a4 #[.slice (some ⟨w2.heap.size + 1, 0, none⟩) 2 2, .slice (some ⟨w2.heap.size + 1 + 1, 0, none⟩) 2 2, .slice (some ⟨w2.heap.size + 1 + 1 + 1, 0, none⟩) 2 2, .slice (some ⟨w2.heap.size + 1 + 1 + 1 + 1, 0, none⟩) 2 2] 49
  rw [ha1, ha2, ha3, ha4, ha5]
  rw [hs3] at e1 z1
  rw [z1] at e2 z2
  rw [z2] at e3 z3
  rw [z3] at e4 z4
  rw [z4] at e5 z5
  have f1 := (g5.block _ (by omega)).trans ((g4.block _ (by omega)).trans ((g3.block _ (by omega)).trans ((g2.block _ (by omega)).trans e1)))
  have f2 := (g5.block _ (by omega)).trans ((g4.block _ (by omega)).trans ((g3.block _ (by omega)).trans e2))
  have f3 := (g5.block _ (by omega)).trans ((g4.block _ (by omega)).trans e3)
  have f4 := (g5.block _ (by omega)).trans e4
  have HWN := Lib.hid (wants_at e5 f1 f2 f3 f4)
  have HB5 := Lib.hid ((((g1.trans (g2.mono (by omega))).trans (g3.mono (by omega))).trans (g4.mono (by omega))).trans (g5.mono (by omega)))
  have HS5 := Lib.hid (HS3.out.up HB5.out)
  have HC5 := Lib.hid (HB3.out.trans (HB5.out.mono HB3.out.size))
  have d5 := (HB5.out.block _ (by omega : w2.heap.size < W3.heap.size)).trans HD3.out
  have HD5 := Lib.hid d5
  clear ha1 e1 g1 ha2 e2 g2 ha3 e3 g3 ha4 e4 g4 ha5 e5 g5 f1 f2 f3 f4 x8 x9 HB5 HS3 HB3 HD3 d5
  go_loopw [38] (fun i wr => ∃ k m : Nat, k ≤ 4 ∧ i = .int .i64 (k : Int) ∧ wr = a5.drewN m) (fun i _ => 4 - (intOf i).toNat)
  case atStart => exact ⟨0, 0, by omega, rfl, rfl⟩
  case round =>
    obtain ⟨k, m, hk, rfl, rfl⟩ := hrel
    by_cases hlt : k < 4
    · have hkx : k < T.xs.length := by rw [HL8.out.2.1]; exact hlt
      obtain ⟨hkx2, hv2, hv1⟩ := HXX.out k hlt
      obtain ⟨x, hx⟩ : ∃ x, T.xs[k] = x := ⟨_, rfl⟩
      have hkI : (k : Int) < (T.xs.length : Int) := by omega
      obtain ⟨bx, ox, A1, c1, B2, c2, eX, hbx, x0, x1, x2, hRw, hLv⟩ := HS5.out.fx.row k hkx
      subst eX
      rw [hx] at hv2 hv1 x0 x1 x2 hRw hLv
      obtain ⟨bl, ol, C1, c3, eL, hbl, y1, hI1⟩ := hLv.at_ 1 (by omega)
      subst eL
      obtain ⟨bw, ow, D1, c4, eW, hbw, u1, hI2⟩ := HWN.out.at_ k (by simpa [exWants] using hlt)
      cases eW
      have hvE : x.views[1]'(by omega) = exWants[k]'(by simpa [exWants] using hlt) := by
        rw [List.getD_eq_getElem?_getD, List.getElem?_eq_getElem (by omega)] at hv1
        have h5 : exW k = exWants[k]'(by simpa [exWants] using hlt) := by
          unfold exW exWants
          rw [List.getD_eq_getElem?_getD, List.getElem?_eq_getElem (by simpa using hlt)]; rfl
        rw [← h5]; exact hv1
      rw [hv2] at x2
      have x9 : (a5.drewN m).cell? ⟨w2.heap.size, 9, none⟩ = some (.slice (some ⟨bx, ox, none⟩) T.xs.length kx) := blk_cell HD5.out 9 rfl
      have x2' : (a5.drewN m).cell? ⟨bx, ox + k * 3 + 2, none⟩ = some (.slice (some ⟨bl, ol, none⟩) 2 c2) := x2
      have y1' : (a5.drewN m).cell? ⟨bl, ol + 1, none⟩ = some (.slice C1 (x.views[1]'(by omega)).length c3) := y1
      have u1' : (a5.drewN m).cell? ⟨w2.heap.size + 1 + 1 + 1 + 1 + 1, 0 + k, none⟩ = some (.slice D1 (exWants[k]'(by simpa [exWants] using hlt)).length c4) := u1
      have hl1 : (x.views[1]'(by omega)).length = 2 := by
        rw [hvE]
        obtain rfl | rfl | rfl | rfl : k = 0 ∨ k = 1 ∨ k = 2 ∨ k = 3 := by omega
        all_goals rfl
      have hl2 : (exWants[k]'(by simpa [exWants] using hlt)).length = 2 := by rw [← hvE]; exact hl1
      have HQ := Lib.hid (fun p => eqI_any C1 D1 c3 c4 _ _ (a5.drewN p) a5.heap.size (hI1.keep (belN (Below.refl _ _) p)) (hI2.keep (belN (Below.refl _ _) p)) (by omega) (by omega))
      have heq : decide (x.views[1]'(by omega) = exWants[k]'(by simpa [exWants] using hlt)) = true := decide_eq_true hvE
      rw [heq, hl1, hl2] at HQ
      rw [hl1] at y1'
      rw [hl2, Nat.zero_add] at u1'
      have h10 : (0 : Int) ≤ (k : Int) := by omega
      have h4i : (k : Int) < 4 := by omega
      clear x0 x1 x2 hRw hLv y1 hI1 u1 hI2 hvE hv1 hv2 heq hl1 hl2 hx hkx2
      go_wp2_with fail
      refine (HQ.out m).mono ?_
      rintro e w4 ⟨rfl, n, rfl⟩
      go_wp2_with fail
      go_roundw
      case rel => exact ⟨k + 1, m + n, by omega, by go_num, by first | rfl | rw [World.drewN_drewN]⟩
      case measure => simp [intOf]; omega
    · obtain rfl : k = 4 := by omega
      clear hlt
      obtain ⟨w5, hw5⟩ : ∃ w5, a5.drewN m = w5 := ⟨_, rfl⟩
      have d50 : (a5.drewN m).heap[w2.heap.size]? = a5.heap[w2.heap.size]? := rfl
      rw [hw5] at d50
      have d5 := d50.trans HD5.out
      clear d50
      have S5 : Hid (SyAt w5 w5.heap.size A2 SV2 AV AX T) := by rw [← hw5]; exact HS5.out.up (belN (Below.refl _ _) m)
      have C5 : Hid (Below w.heap.size w w5) := by rw [← hw5]; exact belN HC5.out m
      rw [hw5]
      have hz5 : w2.heap.size < w5.heap.size := blk_lt d5
      have G5 := Lib.hid d5
      clear hw5 HD5 HS5 HC5 HWN
      have x7 := blk_cell d5 7 rfl
      have x8 := blk_cell d5 8 rfl
      clear d5
      go_wp2_with fail
      refine (HTX.out w5 S5.out.fv).mono ?_
      rintro e w6 ⟨rfl, hb6⟩
      have d6 := (hb6.block _ hz5).trans G5.out
      have S6 := Lib.hid (S5.out.up hb6)
      have C6 := Lib.hid (C5.out.trans (hb6.mono C5.out.size))
      have G6 := Lib.hid d6
      have hz6 : w2.heap.size < w6.heap.size := blk_lt d6
      clear hb6 HTX S5 C5 G5 x7 x8
      have x0 := blk_cell d6 0 rfl
      have x1 := blk_cell d6 1 rfl
      have x2 := blk_cell d6 2 rfl
      have x3 := blk_cell d6 3 rfl
      have x4 := blk_cell d6 4 rfl
      have x5 := blk_cell d6 5 rfl
      have x6 := blk_cell d6 6 rfl
      have x7 := blk_cell d6 7 rfl
      have x8 := blk_cell d6 8 rfl
      have x9 := blk_cell d6 9 rfl
      clear d6
      go_wp2_with fail
      refine (HHV.out w6 S6.out).mono ?_
      rintro e w7 ⟨Al, cl, rfl, hIl, hb7⟩
      have d7 := (hb7.block _ hz6).trans G6.out
      have S7 := Lib.hid (S6.out.up hb7)
      have C7 := Lib.hid (C6.out.trans (hb7.mono C6.out.size))
      have G7 := Lib.hid d7
      have hz7 : w2.heap.size < w7.heap.size := blk_lt d7
      have I7 := Lib.hid hIl
      clear hb7 hIl HHV S6 C6 G6 x0 x1 x2 x3 x4 x5 x6 x7 x8 x9
      have x0 := blk_cell d7 0 rfl
      have x1 := blk_cell d7 1 rfl
      have x2 := blk_cell d7 2 rfl
      have x3 := blk_cell d7 3 rfl
      have x4 := blk_cell d7 4 rfl
      have x5 := blk_cell d7 5 rfl
      have x6 := blk_cell d7 6 rfl
      have x7 := blk_cell d7 7 rfl
      have x8 := blk_cell d7 8 rfl
      have x9 := blk_cell d7 9 rfl
      clear d7
      go_wp2_with fail
      refine (HRV.out w7 S7.out).mono ?_
      rintro e w8 ⟨Ar, cr, rfl, hIr, hb8⟩
      have d8 := (hb8.block _ hz7).trans G7.out
      have S8 := Lib.hid (S7.out.up hb8)
      have C8 := Lib.hid (C7.out.trans (hb8.mono C7.out.size))
      have I8 := Lib.hid ((I7.out.keep hb8).more hb8.size)
      have J8 := Lib.hid hIr
      clear hb8 hIr HRV S7 C7 G7 I7 x0 x1 x2 x3 x4 x5 x6 x7 x8 x9
      have x0 := blk_cell d8 0 rfl
      have x1 := blk_cell d8 1 rfl
      have x2 := blk_cell d8 2 rfl
      have x3 := blk_cell d8 3 rfl
      have x4 := blk_cell d8 4 rfl
      have x5 := blk_cell d8 5 rfl
      have x6 := blk_cell d8 6 rfl
      have x7 := blk_cell d8 7 rfl
      have x8 := blk_cell d8 8 rfl
      have x9 := blk_cell d8 9 rfl
      clear d8
      go_wp2_with fail
      refine (HCT.out w8 S8.out).mono ?_
      rintro e w9 ⟨Ac, cc, rfl, hIc, hb9⟩
      have C9 := Lib.hid (C8.out.trans (hb9.mono C8.out.size))
      have I9 := Lib.hid ((I8.out.keep hb9).more hb9.size)
      have J9 := Lib.hid ((J8.out.keep hb9).more hb9.size)
      have K9 := Lib.hid hIc
      clear hb9 hIc HCT S8 C8 I8 J8 x0 x1 x2 x3 x4 x5 x6 x7 x8 x9
      go_wp2_with fail
      obtain ⟨b1, hb1, e1, z1, g1⟩ := onebox w9 #[.int .i64 0, .int .i64 2] 3
      rw [hb1]
      have HE1 := Lib.hid (eqI_any Al (some ⟨w9.heap.size, 0, none⟩) cl 2 [0, 2] [0, 2] b1 b1.heap.size ((I9.out.keep g1).more g1.size) (iat_blk (xs := [0, 2]) e1) (by decide) (by decide))
      refine HE1.out.mono ?_
      rintro e t1 ⟨rfl, n1, rfl⟩
      obtain ⟨v1, hw1⟩ : ∃ v1, b1.drewN n1 = v1 := ⟨_, rfl⟩
      have D1' := Lib.hid (belN g1 n1)
      rw [hw1] at D1' ⊢
      have J9' := Lib.hid ((J9.out.keep D1'.out).more D1'.out.size)
      clear J9
      have J9 := J9'
      clear J9'
      have K9' := Lib.hid ((K9.out.keep D1'.out).more D1'.out.size)
      clear K9
      have K9 := K9'
      clear K9'
      have E1' := Lib.hid (C9.out.trans (D1'.out.mono C9.out.size))
      clear C9
      have C9 := E1'
      clear E1' HE1 hb1 e1 z1 g1 hw1 I9
      go_wp2_with fail
      obtain ⟨b2, hb2, e2, z2, g2⟩ := onebox v1 #[.int .i64 2, .int .i64 3, .int .i64 4, .int .i64 6, .int .i64 7] 3
      rw [hb2]
      have HE2 := Lib.hid (eqI_any Ar (some ⟨v1.heap.size, 0, none⟩) cr 5 [2, 3, 4, 6, 7] [2, 3, 4, 6, 7] b2 b2.heap.size ((J9.out.keep g2).more g2.size) (iat_blk (xs := [2, 3, 4, 6, 7]) e2) (by decide) (by decide))
      refine HE2.out.mono ?_
      rintro e t2 ⟨rfl, n2, rfl⟩
      obtain ⟨v2, hw2⟩ : ∃ v2, b2.drewN n2 = v2 := ⟨_, rfl⟩
      have D2' := Lib.hid (belN g2 n2)
      rw [hw2] at D2' ⊢
      have K9' := Lib.hid ((K9.out.keep D2'.out).more D2'.out.size)
      clear K9
      have K9 := K9'
      clear K9'
      have E2' := Lib.hid (C9.out.trans (D2'.out.mono C9.out.size))
      clear C9
      have C9 := E2'
      clear E2' HE2 hb2 e2 z2 g2 hw2 J9
      go_wp2_with fail
      obtain ⟨b3, hb3, e3, z3, g3⟩ := onebox v2 #[.int .i64 2, .int .i64 4, .int .i64 7] 3
      rw [hb3]
      have HE3 := Lib.hid (eqI_any Ac (some ⟨v2.heap.size, 0, none⟩) cc 3 [2, 4, 7] [2, 4, 7] b3 b3.heap.size ((K9.out.keep g3).more g3.size) (iat_blk (xs := [2, 4, 7]) e3) (by decide) (by decide))
      refine HE3.out.mono ?_
      rintro e t3 ⟨rfl, n3, rfl⟩
      obtain ⟨v3, hw3⟩ : ∃ v3, b3.drewN n3 = v3 := ⟨_, rfl⟩
      have D3' := Lib.hid (belN g3 n3)
      rw [hw3] at D3' ⊢
      have E3' := Lib.hid (C9.out.trans (D3'.out.mono C9.out.size))
      clear C9
      have C9 := E3'
      clear E3' HE3 hb3 e3 z3 g3 hw3 K9
      go_wp2_with fail
      go_ret
      exact ⟨by first | rfl | (apply ret_bool; decide), C9.out⟩
end Go.Proofs.YtnikmmdadflefaaGreatDoor
