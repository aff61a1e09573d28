/- Part RefF. Part RefG. Part CheckC. Part At. Part Own. Part Row. Part Text. What each part says stands at its head; no part has a condition beyond its own statements. -/
import Derived.Test.YtdfnmapmnmecnaaDoorProg
import Derived.Test.YtdfnmapmnmecnaaDoorMb
import Derived.Test.YtdfnmapmnmecnaaDoorMe
import Derived.Test.YtdfnmapmnmecnaaDoorMc
import Derived.BigRegion
import Derived.Deep.QuietTactic
import Derived.BigQuiet
import Derived.Deep.RegionHeld3
import Derived.StillTactics

/- ref22.View: the error of a view behind others. -/
namespace Go.Proofs.YtdfnmapmnmecnaaDoor
open Go.RowKit

def viewE (n : Nat) (vs : List Vw) (v : Vw) : Int :=
  if v.p < 0 ∨ (n : Int) ≤ v.p ∨ v.r < 0 ∨ 6 < v.r then 2 else if v.r = 0 then firstE v
  else if laterE n vs v ≠ 0 then laterE n vs v else if consB vs (pastL vs (kids v)) = true then 0 else 22

theorem any_iff_fst {_v : Vw} {g : Nat → Int} {b : Nat → Bool} (h : ∀ q, g q = if b q = true then 3 else 0) (m : Nat) : fstE g m = if (List.range m).any b = true then 3 else 0 := by
  induction m with
  | zero => rfl
  | succ m ih =>
    simp only [fstE, ih, List.range_succ, List.any_append, List.any_cons, List.any_nil, Bool.or_false]
    by_cases h1 : (List.range m).any b = true
    · simp [h1]
    · simp [h1, h]

theorem viewE_eq {n : Nat} (hn : n ≤ 5) (vs : List Vw) (v : Vw) : viewE n vs v = checkE n vs v := by
  unfold viewE checkE
  by_cases h1 : v.p < 0 ∨ (n : Int) ≤ v.p ∨ v.r < 0 ∨ 6 < v.r
  · have : begE n v = 2 := by
      unfold begE; rw [if_pos (by simp [begOut]; omega)]
    rw [if_pos h1, this]; simp
  rw [if_neg h1]
  by_cases hr : v.r = 0
  · rw [if_pos hr, if_pos (.inr hr)]
    unfold firstE begE
    by_cases hi : v.i < 0 ∨ 8 ≤ v.i
    · rw [if_pos hi, if_pos (by simp [begOut]; omega)]
    · rw [if_neg hi, if_neg (by simp [begOut]; omega), if_neg (by omega)]
      rw [any_iff_fst (_v := v) (b := begBad n v) (fun q => by simp [firstBad, begBad, hr])]
  rw [if_neg hr]
  have hout : begOut n v = false := by simp [begOut]; omega
  by_cases hi : v.i = 0
  · by_cases ht : (List.range 5).any (begBad n v) = true
    · have hb : begE n v = 3 := by
        unfold begE; rw [if_neg (by simp [hout]), if_neg (by omega), if_pos ht]
      have hl : laterE n vs v = 3 := by
        unfold laterE
        rw [if_neg (by omega), any_iff_fst (_v := v) (b := begBad n v) (fun q => by simp [tailBad, begBad, hr]; by_cases e1 : v.h q = -1 <;> by_cases e2 : n ≤ q <;> simp [e1, e2]), if_pos ht]
        simp
      rw [hb, hl]; simp
    · have hb : begE n v = 0 := by
        unfold begE; rw [if_neg (by simp [hout]), if_neg (by omega), if_neg ht]
      have hz : ∀ q, n ≤ q → q < 5 → v.h q = -1 := by
        intro q h1 h2
        simp only [List.any_eq_true, List.mem_range, not_exists, not_and] at ht
        have := ht q h2
        simp only [begBad, decide_eq_true_eq, not_and, not_or] at this
        by_cases e : v.h q = -1
        · exact e
        · have := (this e).2; omega
      have hlink : fstE (linkE vs v) 5 = fstE (linkE vs v) n := by
        have key : ∀ m, n ≤ m → m ≤ 5 → fstE (linkE vs v) m = fstE (linkE vs v) n := by
          intro m
          induction m with
          | zero => intro a _; obtain rfl : n = 0 := by omega
                    rfl
          | succ m ih =>
            intro a b
            by_cases e : n = m + 1
            · subst e; rfl
            · have := ih (by omega) (by omega)
              simp only [fstE]
              have hl0 : linkE vs v m = 0 := by unfold linkE; rw [if_pos (hz m (by omega) (by omega))]
              rw [hl0, this]
              split
              · rename_i e0; rw [e0]
              · rfl
        exact key 5 hn (Nat.le_refl 5)
      have hl : laterE n vs v = if fstE (linkE vs v) 5 ≠ 0 then fstE (linkE vs v) 5 else if v.h v.p.toNat < 0 then 20 else 0 := by
        unfold laterE
        rw [if_neg (by omega), any_iff_fst (_v := v) (b := begBad n v) (fun q => by simp [tailBad, begBad, hr]; by_cases e1 : v.h q = -1 <;> by_cases e2 : n ≤ q <;> simp [e1, e2]), if_neg ht, hlink]
        simp
      rw [hb, hl, if_neg (show ¬ ((0 : Int) ≠ 0 ∨ v.r = 0) by omega)]
      by_cases hk : fstE (linkE vs v) 5 = 0
      · rw [if_neg (show ¬ (fstE (linkE vs v) 5 ≠ 0) by omega), if_neg (show ¬ (fstE (linkE vs v) 5 ≠ 0) by omega)]
        have hp := fstE_zero.1 hk v.p.toNat (by omega)
        by_cases e : v.h v.p.toNat = -1
        · rw [if_pos (show v.h v.p.toNat < 0 by omega), if_pos e]; simp
        · have h0 := (linkE_ok hp e).1
          rw [if_neg (show ¬ v.h v.p.toNat < 0 by omega), if_neg e]; simp
      · rw [if_pos (show fstE (linkE vs v) 5 ≠ 0 from hk), if_pos (show fstE (linkE vs v) 5 ≠ 0 from hk), if_pos (show fstE (linkE vs v) 5 ≠ 0 from hk)]
  · have hb : begE n v = 3 := by
      unfold begE; rw [if_neg (by simp [hout]), if_pos (by omega)]
    have hl : laterE n vs v = 3 := by unfold laterE; rw [if_pos hi]
    rw [hb, hl]; simp

theorem later_ok {n : Nat} {vs : List Vw} {v : Vw} (hn : n ≤ 5) (h1 : ¬ (v.p < 0 ∨ (n : Int) ≤ v.p ∨ v.r < 0 ∨ 6 < v.r)) (_hr : v.r ≠ 0) (hl : laterE n vs v = 0) : (∀ c, c ∈ kids v → c < vs.length) ∧ heardTo v n = heardL v := by
  unfold laterE at hl
  split at hl
  · cases hl
  split at hl
  · cases hl
  rename_i h2
  split at hl
  · rename_i h; exact absurd hl h
  rename_i h3
  have hz : ∀ q, n ≤ q → q < 5 → v.h q = -1 := fun q a b => by
    have := fstE_zero.1 (show fstE (tailBad v n) 5 = 0 by omega) q b
    unfold tailBad at this
    by_cases e : v.h q = -1
    · exact e
    · rw [if_pos ⟨a, e⟩] at this; cases this
  refine ⟨fun c hc => ?_, ?_⟩
  · obtain ⟨_, q, hq, h0, rfl⟩ := mem_kids.1 hc
    by_cases hqn : q < n
    · exact (linkE_ok (fstE_zero.1 (show fstE (linkE vs v) n = 0 by omega) q hqn) (by omega)).2.1
    · have := hz q (by omega) hq; omega
  · have key : ∀ m, n ≤ m → m ≤ 5 → heardTo v m = heardTo v n := by
      intro m
      induction m with
      | zero => intro h1 _; obtain rfl : n = 0 := by omega
                rfl
      | succ m ih =>
        intro a b
        by_cases e : n = m + 1
        · subst e; rfl
        · rw [heardTo_no, ih (by omega) (by omega)]
          rintro ⟨_, h4⟩
          have := hz m (by omega) (by omega)
          omega
    exact (key 5 hn (Nat.le_refl 5)).symm

set_option maxRecDepth 100000 in
set_option maxHeartbeats 4000000 in
theorem rview_any (n : Nat) (A : Option Addr) (cap : Nat) (vs : List Vw) (v : Vw) (w : World) (hT : TArg w A cap vs) (hw : Wf (n : Int) vs) :
    Calls Tryd.prog 43 #[.agg #[.int .i64 n, .slice A vs.length cap], .agg v.cells] w fun e w' => e = .returned (.int .i64 (checkE n vs v)) ∧ Below w.heap.size w w' := by
  have hn5 : n ≤ 5 := by have := hw.2.1; omega
  have HV := Lib.hid (viewE_eq hn5 vs v)
  have HT := Lib.hid hT
  have hfew := hT.few
  have HW := Lib.hid hw
  clear hT hw
  by_cases h1 : v.p < 0 ∨ (n : Int) ≤ v.p ∨ v.r < 0 ∨ 6 < v.r
  · have hz : Hid (checkE n vs v = 2) := by
      show checkE n vs v = 2
      rw [← HV.out]; unfold viewE; rw [if_pos h1]
    have HB := bel2 w
    unfold Vw.cells
    go_enter Tryd.func43, Tryd.ntmps43
    go_wp2_with fail
    all_goals
      go_ret
      exact ⟨ret_int hz.out.symm, HB _ _⟩
  · have hp0 : 0 ≤ v.p := by omega
    have hp1 : v.p < n := by omega
    have hr0 : 0 ≤ v.r := by omega
    have hr1 : v.r ≤ 6 := by omega
    by_cases hr : v.r = 0
    · have hz : Hid (checkE n vs v = firstE v) := by
        show checkE n vs v = firstE v
        rw [← HV.out]; unfold viewE; rw [if_neg h1, if_pos hr]
      have hr' : (v.r == 0) = true := by simp [hr]
      clear h1 hr
      unfold Vw.cells
      go_enter Tryd.func43, Tryd.ntmps43
      go_wp2_with fail
      refine (first_any v _).mono ?_
      rintro e w1 ⟨rfl, hb1⟩
      go_wp2_with fail
      go_ret
      exact ⟨ret_int hz.out.symm, (two_kept hb1).2.2.2⟩
    · have hr' : (v.r == 0) = false := by simpa using hr
      have hrp : 0 < v.r := by omega
      by_cases hl : laterE n vs v = 0
      · have hl' : (laterE n vs v != 0) = false := by simp [hl]
        obtain ⟨hk, hh⟩ := later_ok hn5 h1 hr hl
        have hz : Hid (checkE n vs v = if consB vs (pastL vs (kids v)) = true then 0 else 22) := by
          show checkE n vs v = _
          rw [← HV.out]; unfold viewE; rw [if_neg h1, if_neg hr, if_neg (by simp [hl])]
        have HBE := Lib.hid (before_any HW.out hk hh)
        have hpl : ∀ x, x ∈ pastL vs (kids v) → x < vs.length := fun x hx => (mem_pastL.1 hx).1
        have HPL := Lib.hid hpl
        have hplen : (pastL vs (kids v)).length ≤ vs.length := by have := past_len vs (kids v); rwa [castL_length] at this
        clear h1 hr hl hk hh hpl
        have hz' : Hid (checkE n vs v = if consB vs (pastL vs (kids v)) = true then 0 else 22) := hz
        cases hcb : consB vs (pastL vs (kids v))
        all_goals
          have hz' : Hid (checkE n vs v = _) := hz.out.trans (by rw [hcb])
          unfold Vw.cells at HBE ⊢
          go_enter Tryd.func43, Tryd.ntmps43
          go_wp2_with fail
          refine (later_any n A cap vs v _ w.heap.size (by simp; omega) (HT.out.rows.keep (bel2 w _ _)) (by omega) hn5 hp0 hp1 hrp hr1).mono ?_
          rintro e w1 ⟨rfl, hb1⟩
          obtain ⟨b0, b1, hsz, hB1⟩ := two_kept hb1
          have hT1 := HT.out.keep hB1
          have HTX : Hid (∀ X : World, Below w1.heap.size w1 X → TArg X A cap vs) := fun X hX => hT1.keep hX
          have t0 := blk_cell b0 0 rfl
          have t1 := blk_cell b0 1 rfl
          have u0 := blk_cell b1 0 rfl
          have u1 := blk_cell b1 1 rfl
          have u2 := blk_cell b1 2 rfl
          have u3 := blk_cell b1 3 rfl
          have u4 := blk_cell b1 4 rfl
          have u5 := blk_cell b1 5 rfl
          have u6 := blk_cell b1 6 rfl
          have u7 := blk_cell b1 7 rfl
          have hg1 : w.heap.size < w1.heap.size := by omega
          have hg2 : w.heap.size + 1 < w1.heap.size := by omega
          clear hb1 hT1
          go_wp2_with fail
          go_region_held3 (fun w' => w'.cell? ⟨w.heap.size, 0, none⟩ = some (.int .i64 n) ∧ w'.cell? ⟨w.heap.size, 1, none⟩ = some (.slice A vs.length cap) ∧
              w'.cell? ⟨w.heap.size + 1, 0, none⟩ = some (.int .i64 v.p) ∧ w'.cell? ⟨w.heap.size + 1, 1, none⟩ = some (.int .i64 v.r) ∧ w'.cell? ⟨w.heap.size + 1, 2, none⟩ = some (.int .i64 v.i) ∧
              w'.cell? ⟨w.heap.size + 1, 3, none⟩ = some (.int .i64 v.h0) ∧ w'.cell? ⟨w.heap.size + 1, 4, none⟩ = some (.int .i64 v.h1) ∧ w'.cell? ⟨w.heap.size + 1, 5, none⟩ = some (.int .i64 v.h2) ∧
              w'.cell? ⟨w.heap.size + 1, 6, none⟩ = some (.int .i64 v.h3) ∧ w'.cell? ⟨w.heap.size + 1, 7, none⟩ = some (.int .i64 v.h4))
            (first
              | exact ⟨t0, t1, u0, u1, u2, u3, u4, u5, u6, u7⟩
              | (refine keep10 (W0 := w1) (B := w1.heap.size) ?_ hg1 hg2 ⟨t0, t1, u0, u1, u2, u3, u4, u5, u6, u7⟩; first | exact belU hb2 | exact (belU hb2).trans (hb3.mono (belU hb2).size)))
            (first
              | (go_at_call 68; refine (HBE.out _ _ _ (HTX.out _ (by repeat (first | exact Below.refl _ _ | refine Below.drew ?_ | refine belN ?_ _)))).mono ?_; rintro e w2 ⟨v2, rfl, ho2, hb2⟩; obtain ⟨A2, c2, rfl, hle2, hm2, hi2⟩ := ho2.form)
              | (go_at_call 67; refine (castL_length (pastL vs (kids v))) ▸ (consistent_any n A A2 cap c2 vs (pastL vs (kids v)) w2 w2.heap.size (Nat.le_refl _) (HTX.out w2 (belU hb2)).rows hi2 HPL.out hfew (by omega)).mono ?_; rintro e w3 ⟨rfl, hb3⟩))
          go_wp2_with fail
          go_ret
          exact ⟨ret_int hz'.out.symm, hB1.trans (((belU hb2).trans (hb3.mono (belU hb2).size)).mono (Nat.le_of_lt hg1))⟩
      · have hl' : (laterE n vs v != 0) = true := by simpa using hl
        have hz : Hid (checkE n vs v = laterE n vs v) := by
          show checkE n vs v = _
          rw [← HV.out]; unfold viewE; rw [if_neg h1, if_neg hr, if_pos hl]
        clear h1 hr hl
        unfold Vw.cells
        go_enter Tryd.func43, Tryd.ntmps43
        go_wp2_with fail
        refine (later_any n A cap vs v _ w.heap.size (by simp; omega) (HT.out.rows.keep (bel2 w _ _)) (by omega) hn5 hp0 hp1 hrp hr1).mono ?_
        rintro e w1 ⟨rfl, hb1⟩
        go_wp2_with fail
        go_ret
        exact ⟨ret_int hz.out.symm, (two_kept hb1).2.2.2⟩
end Go.Proofs.YtdfnmapmnmecnaaDoor

/- ref22.Check: the error of a table. -/
namespace Go.Proofs.YtdfnmapmnmecnaaDoor
open Go.RowKit

theorem TArg.take {w : World} {A : Option Addr} {cap : Nat} {vs : List Vw} (h : TArg w A cap vs) (k : Nat) : TArg w A cap (vs.take k) :=
  ⟨h.rows.take k, by have := h.lec; simp; omega, h.lem, by have := h.few; simp; omega⟩

theorem keep11 {W0 X : World} {B g g' b o0 o1 o2 o3 o4 o5 o6 o7 : Nat} {u0 u1 u2 u3 u4 u5 u6 u7 u8 u9 u10 : Value} (hb : Below B W0 X) (hg : g < B) (hg' : g' < B) (hbb : b < B)
    (h : W0.cell? ⟨g, 1, none⟩ = some u0 ∧ W0.cell? ⟨g', 0, none⟩ = some u1 ∧ W0.cell? ⟨g', 1, none⟩ = some u2 ∧ W0.cell? ⟨b, o0, none⟩ = some u3 ∧ W0.cell? ⟨b, o1, none⟩ = some u4 ∧ W0.cell? ⟨b, o2, none⟩ = some u5 ∧
      W0.cell? ⟨b, o3, none⟩ = some u6 ∧ W0.cell? ⟨b, o4, none⟩ = some u7 ∧ W0.cell? ⟨b, o5, none⟩ = some u8 ∧ W0.cell? ⟨b, o6, none⟩ = some u9 ∧ W0.cell? ⟨b, o7, none⟩ = some u10) :
    X.cell? ⟨g, 1, none⟩ = some u0 ∧ X.cell? ⟨g', 0, none⟩ = some u1 ∧ X.cell? ⟨g', 1, none⟩ = some u2 ∧ X.cell? ⟨b, o0, none⟩ = some u3 ∧ X.cell? ⟨b, o1, none⟩ = some u4 ∧ X.cell? ⟨b, o2, none⟩ = some u5 ∧
      X.cell? ⟨b, o3, none⟩ = some u6 ∧ X.cell? ⟨b, o4, none⟩ = some u7 ∧ X.cell? ⟨b, o5, none⟩ = some u8 ∧ X.cell? ⟨b, o6, none⟩ = some u9 ∧ X.cell? ⟨b, o7, none⟩ = some u10 := by
  obtain ⟨h0, h1, h2, h3, h4, h5, h6, h7, h8, h9, h10⟩ := h
  exact ⟨(hb.cell hg).trans h0, (hb.cell hg').trans h1, (hb.cell hg').trans h2, (hb.cell hbb).trans h3, (hb.cell hbb).trans h4, (hb.cell hbb).trans h5, (hb.cell hbb).trans h6, (hb.cell hbb).trans h7, (hb.cell hbb).trans h8, (hb.cell hbb).trans h9, (hb.cell hbb).trans h10⟩

theorem rview_take (n : Nat) (A : Option Addr) (cap : Nat) (vs : List Vw) (k : Nat) (hk : k ≤ vs.length) (v : Vw) (w : World) (hT : TArg w A cap vs) (hw : Wf (n : Int) (vs.take k)) :
    Calls Tryd.prog 43 #[.agg #[.int .i64 n, .slice A k cap], .agg v.cells] w fun e w' => e = .returned (.int .i64 (checkE n (vs.take k) v)) ∧ Below w.heap.size w w' := by
  have := rview_any n A cap (vs.take k) v w (hT.take k) hw
  rwa [List.length_take, Nat.min_eq_left hk] at this
theorem index_take (n : Int) (A : Option Addr) (cap : Nat) (vs : List Vw) (k : Nat) (hk : k ≤ vs.length) (v : Vw) (w : World) (hT : TArg w A cap vs) :
    Calls Tryd.prog 57 #[.agg #[.int .i64 n, .slice A k cap], .agg v.cells] w fun e w' => e = .returned (.int .i64 (idxE (vs.take k) v)) ∧ Below w.heap.size w w' := by
  have := index_any n A cap (vs.take k) v w w.heap.size (Nat.le_refl _) (hT.take k).rows (by have := (hT.take k).few; omega)
  rwa [List.length_take, Nat.min_eq_left hk] at this

set_option maxRecDepth 100000 in
set_option maxHeartbeats 4000000 in
theorem rcheck_any (n : Int) (A : Option Addr) (cap : Nat) (vs : List Vw) (w : World) (hT : TArg w A cap vs) :
    Calls Tryd.prog 28 #[.agg #[.int .i64 n, .slice A vs.length cap]] w fun e w' => e = .returned (.int .i64 (CheckE n vs)) ∧ Below w.heap.size w w' := by
  have HT := Lib.hid hT
  have hfew := hT.few
  clear hT
  by_cases hn : n < 1 ∨ 5 < n
  · have hp : (procsE n != 0) = true := by unfold procsE; rw [if_pos hn]; rfl
    have hz : Hid (CheckE n vs = procsE n) := by show CheckE n vs = procsE n; unfold CheckE procsE; rw [if_pos hn, if_pos hn]
    have HB := bel1 w
    clear hn
    go_enter Tryd.func28, Tryd.ntmps28
    go_wp2_with fail
    refine (procs_any n _).mono ?_
    rintro e w' ⟨rfl, rfl⟩
    go_wp2_with fail
    go_ret
    exact ⟨ret_int hz.out.symm, HB _⟩
  · have hp : (procsE n != 0) = false := by unfold procsE; rw [if_neg hn]; rfl
    by_cases hm : 8192 < vs.length
    · have hz : Hid (CheckE n vs = 5) := by show CheckE n vs = 5; unfold CheckE; rw [if_neg hn, if_pos hm]
      have HB := bel1 w
      clear hn
      go_enter Tryd.func28, Tryd.ntmps28
      go_wp2_with fail
      refine (procs_any n _).mono ?_
      rintro e w' ⟨rfl, rfl⟩
      go_wp2_with fail
      go_ret
      exact ⟨ret_int hz.out.symm, HB _⟩
    · have hz : Hid (CheckE n vs = fstE (rowE n vs) vs.length) := by show CheckE n vs = _; unfold CheckE; rw [if_neg hn, if_neg hm]
      obtain ⟨N, rfl⟩ := Int.eq_ofNat_of_zero_le (show 0 ≤ n by omega)
      have hn1 : 1 ≤ N := by omega
      have hn5 : N ≤ 5 := by omega
      clear hn
      go_enter Tryd.func28, Tryd.ntmps28
      go_wp2_with fail
      refine (procs_any N _).mono ?_
      rintro e w' ⟨rfl, rfl⟩
      go_wp2_with fail
      refine wp_one ?_
      intro W0 b0 hsz hB0
      have hT0 := Lib.hid (HT.out.keep hB0)
      go_loopw [4] (fun i wr => ∃ k : Nat, k ≤ vs.length ∧ i = .int .i64 k ∧ Hid (fstE (rowE N vs) k = 0) ∧ Below W0.heap.size W0 wr) (fun i _ => vs.length - (intOf i).toNat)
      case atStart => exact ⟨0, by omega, rfl, rfl, Below.refl _ _⟩
      case round =>
        obtain ⟨k, hk, rfl, hall, hbl⟩ := hrel
        have d0 := blk_below b0 hbl (by omega)
        have t0 := blk_cell d0 0 rfl
        have t1 := blk_cell d0 1 rfl
        have hgw : w.heap.size < wr.heap.size := by have := hbl.size; omega
        by_cases hlt : k < vs.length
        · have hwf : Wf (N : Int) (vs.take k) := ⟨by omega, by omega, fun j hj => by
            simp at hj
            rw [rowE_take (by omega)]
            exact fstE_zero.1 hall.out j (by omega)⟩
          have hTr := HT.out.keep (hB0.trans (hbl.mono (by omega)))
          have hcap : k ≤ cap := by have := hTr.lec; omega
          have hk0 : (0 : Int) ≤ (k : Int) := by omega
          have hk1 : (k : Int) ≤ (cap : Int) := by omega
          have hk2 : (k : Int) < (vs.length : Int) := by omega
          obtain ⟨b, off, rfl, hb1, c0, c1, c2, c3, c4, c5, c6, c7⟩ := hTr.rows.row k hlt
          have HTr := Lib.hid hTr
          have HWF := Lib.hid hwf
          clear hTr hwf
          go_wp2_with fail
          go_region
          go_wp2_with fail
          refine wp_oned ?_
          intro W1 e0 hsz1 hB1
          have HS1 := Lib.hid hsz1
          have hz1 : wr.heap.size < W1.heap.size := by omega
          clear hsz1
          have t1' := (hB1.cell (p := ⟨w.heap.size, 1, none⟩) hgw).trans t1
          have r0 := (hB1.cell (p := ⟨b, off + k * 8, none⟩) hb1).trans c0
          have r1 := (hB1.cell (p := ⟨b, off + k * 8 + 1, none⟩) hb1).trans c1
          have r2 := (hB1.cell (p := ⟨b, off + k * 8 + 2, none⟩) hb1).trans c2
          have r3 := (hB1.cell (p := ⟨b, off + k * 8 + 3, none⟩) hb1).trans c3
          have r4 := (hB1.cell (p := ⟨b, off + k * 8 + 4, none⟩) hb1).trans c4
          have r5 := (hB1.cell (p := ⟨b, off + k * 8 + 5, none⟩) hb1).trans c5
          have r6 := (hB1.cell (p := ⟨b, off + k * 8 + 6, none⟩) hb1).trans c6
          have r7 := (hB1.cell (p := ⟨b, off + k * 8 + 7, none⟩) hb1).trans c7
          have q0 := blk_cell e0 0 rfl
          have q1 := blk_cell e0 1 rfl
          have hg1 : w.heap.size < W1.heap.size := by omega
          have hb1' : b < W1.heap.size := by omega
          have hT1 := HTr.out.keep hB1
          have HTX : Hid (∀ X : World, Below W1.heap.size W1 X → TArg X (some ⟨b, off, none⟩) cap vs) := fun X hX => hT1.keep hX
          have HB1 := Lib.hid hB1
          have HBL := Lib.hid hbl
          have HE0 := Lib.hid e0
          clear c0 c1 c2 c3 c4 c5 c6 c7 t0 t1 d0 hT1 hB1 hbl e0 hgw hb1
          go_region_held3 (fun w' => w'.cell? ⟨w.heap.size, 1, none⟩ = some (.slice (some ⟨b, off, none⟩) vs.length cap) ∧ w'.cell? ⟨wr.heap.size, 0, none⟩ = some (.int .i64 N) ∧ w'.cell? ⟨wr.heap.size, 1, none⟩ = some (.slice (some ⟨b, off, none⟩) k cap) ∧
              w'.cell? ⟨b, off + k * 8, none⟩ = some (.int .i64 vs[k].p) ∧ w'.cell? ⟨b, off + k * 8 + 1, none⟩ = some (.int .i64 vs[k].r) ∧ w'.cell? ⟨b, off + k * 8 + 2, none⟩ = some (.int .i64 vs[k].i) ∧
              w'.cell? ⟨b, off + k * 8 + 3, none⟩ = some (.int .i64 vs[k].h0) ∧ w'.cell? ⟨b, off + k * 8 + 4, none⟩ = some (.int .i64 vs[k].h1) ∧ w'.cell? ⟨b, off + k * 8 + 5, none⟩ = some (.int .i64 vs[k].h2) ∧
              w'.cell? ⟨b, off + k * 8 + 6, none⟩ = some (.int .i64 vs[k].h3) ∧ w'.cell? ⟨b, off + k * 8 + 7, none⟩ = some (.int .i64 vs[k].h4))
            (first
              | exact ⟨t1', q0, q1, r0, r1, r2, r3, r4, r5, r6, r7⟩
              | exact keep11 (W0 := W1) (B := W1.heap.size) (belU hb2) hg1 hz1 hb1' ⟨t1', q0, q1, r0, r1, r2, r3, r4, r5, r6, r7⟩)
            ((go_at_call 43; refine (rview_take N _ cap vs k (Nat.le_of_lt hlt) vs[k] _ (HTX.out _ (Below.refl _ _).drew) HWF.out).mono ?_; rintro e w2 ⟨rfl, hb2⟩))
          have hrow : rowE N vs k = if checkE N (vs.take k) vs[k] ≠ 0 then checkE N (vs.take k) vs[k] else if vs[k] ∈ vs.take k then 7 else 0 := by
            unfold rowE; rw [getV_eq hlt]
          have HROW := Lib.hid hrow
          clear hrow
          have hBA := HBL.out.trans ((HB1.out.trans ((belU hb2).mono (Nat.le_of_lt hz1))).mono HBL.out.size)
          have HBA := Lib.hid hBA
          clear hBA
          go_wp2_with fail
          · have he : (checkE N (vs.take k) vs[k] != 0) = true := by assumption
            have he' : checkE N (vs.take k) vs[k] ≠ 0 := by simpa using he
            go_ret
            refine ⟨ret_int ?_, hB0.trans (HBA.out.mono (by omega))⟩
            rw [hz.out, fstE_hit hall.out (by rw [HROW.out, if_pos he']; exact he') hlt, HROW.out, if_pos he']
          · have he : (checkE N (vs.take k) vs[k] != 0) = false := by assumption
            have he' : checkE N (vs.take k) vs[k] = 0 := by simpa using he
            have HE' := Lib.hid he'
            clear he'
            have hT2 := HTX.out w2 (belU hb2)
            have HTY : Hid (∀ X : World, Below w2.heap.size w2 X → TArg X (some ⟨b, off, none⟩) cap vs) := fun X hX => hT2.keep hX
            have hx := keep11 (W0 := W1) (B := W1.heap.size) (belU hb2) hg1 hz1 hb1' ⟨t1', q0, q1, r0, r1, r2, r3, r4, r5, r6, r7⟩
            clear t1' q0 q1 r0 r1 r2 r3 r4 r5 r6 r7 hT2
            obtain ⟨t1', q0, q1, r0, r1, r2, r3, r4, r5, r6, r7⟩ := hx
            have hsz2 : W1.heap.size ≤ w2.heap.size := (belU hb2).size
            have hg2 : w.heap.size < w2.heap.size := by omega
            have hz2 : wr.heap.size < w2.heap.size := by omega
            have hb2' : b < w2.heap.size := by omega
            clear hb2
            go_region_held3 (fun w' => w'.cell? ⟨w.heap.size, 1, none⟩ = some (.slice (some ⟨b, off, none⟩) vs.length cap) ∧ w'.cell? ⟨wr.heap.size, 0, none⟩ = some (.int .i64 N) ∧ w'.cell? ⟨wr.heap.size, 1, none⟩ = some (.slice (some ⟨b, off, none⟩) k cap) ∧
                w'.cell? ⟨b, off + k * 8, none⟩ = some (.int .i64 vs[k].p) ∧ w'.cell? ⟨b, off + k * 8 + 1, none⟩ = some (.int .i64 vs[k].r) ∧ w'.cell? ⟨b, off + k * 8 + 2, none⟩ = some (.int .i64 vs[k].i) ∧
                w'.cell? ⟨b, off + k * 8 + 3, none⟩ = some (.int .i64 vs[k].h0) ∧ w'.cell? ⟨b, off + k * 8 + 4, none⟩ = some (.int .i64 vs[k].h1) ∧ w'.cell? ⟨b, off + k * 8 + 5, none⟩ = some (.int .i64 vs[k].h2) ∧
                w'.cell? ⟨b, off + k * 8 + 6, none⟩ = some (.int .i64 vs[k].h3) ∧ w'.cell? ⟨b, off + k * 8 + 7, none⟩ = some (.int .i64 vs[k].h4))
              (first
                | exact ⟨t1', q0, q1, r0, r1, r2, r3, r4, r5, r6, r7⟩
                | exact keep11 (W0 := w2) (B := w2.heap.size) (belU hb3) hg2 hz2 hb2' ⟨t1', q0, q1, r0, r1, r2, r3, r4, r5, r6, r7⟩)
              ((go_at_call 57; refine (index_take N _ cap vs k (Nat.le_of_lt hlt) vs[k] _ (HTY.out _ (Below.refl _ _).drew)).mono ?_; rintro e w3 ⟨rfl, hb3⟩))
            have hBB := HBA.out.trans ((belU hb3).mono HBA.out.size)
            have HBB := Lib.hid hBB
            clear hBB
            by_cases hm7 : vs[k] ∈ vs.take k
            · have hi7 : 0 ≤ idxE (vs.take k) vs[k] := by unfold idxE; rw [if_pos hm7]; omega
              have hz7 : Hid (fstE (rowE N vs) vs.length = 7) := by
                show _ = _
                rw [fstE_hit hall.out (by rw [HROW.out, if_neg (by rw [HE'.out]; simp), if_pos hm7]; decide) hlt, HROW.out, if_neg (by rw [HE'.out]; simp), if_pos hm7]
              clear hm7
              go_wp2_with fail
              go_ret
              exact ⟨ret_int (by rw [hz.out, hz7.out]), hB0.trans (HBB.out.mono (by omega))⟩
            · have hi7 : idxE (vs.take k) vs[k] < 0 := by unfold idxE; rw [if_neg hm7]; omega
              have hz7 : Hid (fstE (rowE N vs) (k + 1) = 0) := by
                show _ = _
                rw [fstE_step hall.out, HROW.out, if_neg (by rw [HE'.out]; simp), if_neg hm7]
              clear hm7
              go_wp2_with fail
              go_roundw
              case rel => exact ⟨k + 1, by omega, by go_num, hz7, HBB.out⟩
              case measure => simp [intOf]; omega
        · obtain rfl : k = vs.length := by omega
          go_wp2_with fail
          go_ret
          exact ⟨ret_int (by rw [hz.out, hall.out]), hB0.trans (hbl.mono (by omega))⟩
end Go.Proofs.YtdfnmapmnmecnaaDoor

/- views.Check. -/
namespace Go.Proofs.YtdfnmapmnmecnaaDoor
open Go.RowKit

theorem check_take (n : Nat) (A : Option Addr) (cap : Nat) (vs : List Vw) (k : Nat) (hk : k ≤ vs.length) (v : Vw) (w : World) (hT : TArg w A cap vs) (hw : Wf (n : Int) (vs.take k)) :
    Calls Tryd.prog 40 #[.agg #[.int .i64 n, .slice A k cap], .agg v.cells] w fun e w' => e = .returned (.int .i64 (checkE n (vs.take k) v)) ∧ Below w.heap.size w w' := by
  have := check_any n A cap (vs.take k) v w (hT.take k) hw
  rwa [List.length_take, Nat.min_eq_left hk] at this

theorem mem_step {vs S : List Vw} {k : Nat} (hlt : k < vs.length) (h : ∀ x, x ∈ S ↔ x ∈ vs.take k) : ∀ x, x ∈ vs[k] :: S ↔ x ∈ vs.take (k + 1) := by
  intro x
  rw [List.mem_cons, h, List.take_add_one, List.getElem?_eq_getElem hlt]
  simp only [Option.toList, List.mem_append, List.mem_singleton]
  exact or_comm
def vEnc (v : Vw) : Value := .agg v.cells
theorem view_key' : KeyOk Tryd.prog 27 vEnc := view_key
theorem tablemapV (w : World) : ∃ W0, w.alloc (.map #[] 0) = W0 ∧ SetAt vEnc W0 w.heap.size [] ∧ W0.heap.size = w.heap.size + 1 ∧ Below w.heap.size w W0 :=
  ⟨_, rfl, SetAt.made vEnc w, by simp, (Below.refl _ _).alloc (Nat.le_refl _) _⟩

set_option maxRecDepth 100000 in
set_option maxHeartbeats 4000000 in
theorem vcheck_any (n : Int) (A : Option Addr) (cap : Nat) (vs : List Vw) (w : World) (hT : TArg w A cap vs) :
    Calls Tryd.prog 27 #[.agg #[.int .i64 n, .slice A vs.length cap]] w fun e w' => e = .returned (.int .i64 (CheckE n vs)) ∧ Below w.heap.size w w' := by
  have HT := Lib.hid hT
  have hfew := hT.few
  have hmm := @run_makeMap Tryd.prog
  have HB := bel1 w
  clear hT
  by_cases hn : n < 1 ∨ 5 < n
  · have hz : Hid (CheckE n vs = 1) := by show CheckE n vs = 1; unfold CheckE; rw [if_pos hn]
    go_enter Tryd.func27, Tryd.ntmps27
    by_cases h1 : n < 1
    · clear hn
      go_wp2_with fail
      go_ret
      exact ⟨ret_int hz.out.symm, HB _⟩
    · have h5 : 5 < n := by omega
      clear hn
      go_wp2_with fail
      go_ret
      exact ⟨ret_int hz.out.symm, HB _⟩
  · have h1 : ¬ n < 1 := by omega
    have h5 : ¬ 5 < n := by omega
    by_cases hm : 8192 < vs.length
    · have hz : Hid (CheckE n vs = 5) := by show CheckE n vs = 5; unfold CheckE; rw [if_neg hn, if_pos hm]
      clear hn
      go_enter Tryd.func27, Tryd.ntmps27
      go_wp2_with fail
      go_ret
      exact ⟨ret_int hz.out.symm, HB _⟩
    · have hz : Hid (CheckE n vs = fstE (rowE n vs) vs.length) := by show CheckE n vs = _; unfold CheckE; rw [if_neg hn, if_neg hm]
      obtain ⟨N, rfl⟩ := Int.eq_ofNat_of_zero_le (show 0 ≤ n by omega)
      have hn1 : 1 ≤ N := by omega
      have hn5 : N ≤ 5 := by omega
      clear hn
      go_enter Tryd.func27, Tryd.ntmps27
      go_wp2_with fail
      obtain ⟨gm, hgm⟩ : ∃ gm, gm = w.heap.size + 1 := ⟨_, rfl⟩
      obtain ⟨W0, hW0, m0, hsz, hB0⟩ := tablemapV (w.alloc (.cells #[.int .i64 N, .slice A vs.length cap] 24))
      have b0 := (hB0.block w.heap.size (by simp)).trans (blk_new w (.cells #[.int .i64 N, .slice A vs.length cap] 24))
      have B0 := Lib.hid ((HB (.cells #[.int .i64 N, .slice A vs.length cap] 24)).trans (hB0.mono (by simp)))
      rw [hW0]
      simp only [World.size_alloc] at m0 hsz
      rw [← hgm] at m0 hsz ⊢
      clear hW0 hB0
      have hgw : w.heap.size < gm := by omega
      have hsz0 : gm < W0.heap.size := by omega
      have HGM := Lib.hid hgm
      clear hgm hsz HB
      go_loopw [25] (fun i wr => ∃ (k : Nat) (S : List Vw), k ≤ vs.length ∧ i = .int .i64 k ∧ Hid (fstE (rowE N vs) k = 0) ∧ SetAt vEnc wr gm S ∧ Hid (∀ x, x ∈ S ↔ x ∈ vs.take k) ∧ W0.grownBy wr (some gm)) (fun i _ => vs.length - (intOf i).toNat)
      case atStart => exact ⟨0, [], by omega, rfl, rfl, m0, by show ∀ x, x ∈ [] ↔ x ∈ vs.take 0; simp, World.grownBy.refl _ _⟩
      case round =>
        obtain ⟨k, S, hk, rfl, hall, hset, hS, hgr⟩ := hrel
        have BW : Hid (Below w.heap.size w wr) := B0.out.grown hgr (by omega) (fun k e => by cases e; omega)
        have d0 := (hgr.block w.heap.size (by omega) (by simp; omega)).trans b0
        have t0 := blk_cell d0 0 rfl
        have t1 := blk_cell d0 1 rfl
        have hgwr : w.heap.size < wr.heap.size := by have := hgr.size; omega
        have HGR := Lib.hid hgr
        have D0 := Lib.hid d0
        have HSET := Lib.hid hset
        clear hgr d0 hset
        by_cases hlt : k < vs.length
        · have hwf : Wf (N : Int) (vs.take k) := ⟨by omega, by omega, fun j hj => by
            simp at hj
            rw [rowE_take (by omega)]
            exact fstE_zero.1 hall.out j (by omega)⟩
          have hTr := HT.out.keep BW.out
          have hcap : k ≤ cap := by have := hTr.lec; omega
          have hk0 : (0 : Int) ≤ (k : Int) := by omega
          have hk1 : (k : Int) ≤ (cap : Int) := by omega
          have hk2 : (k : Int) < (vs.length : Int) := by omega
          obtain ⟨b, off, rfl, hb1, c0, c1, c2, c3, c4, c5, c6, c7⟩ := hTr.rows.row k hlt
          have HTr := Lib.hid hTr
          have HWF := Lib.hid hwf
          clear hTr hwf
          go_upto_region 9 with fail
          refine wp_one ?_
          intro W1 e0 hsz1 hB1
          obtain ⟨g, hg⟩ : ∃ g, g = wr.heap.size := ⟨_, rfl⟩
          rw [← hg] at e0 ⊢
          have hg1 : g < W1.heap.size := by omega
          have s0 := (hB1.cell (p := ⟨w.heap.size, 0, none⟩) hgwr).trans t0
          have s1 := (hB1.cell (p := ⟨w.heap.size, 1, none⟩) hgwr).trans t1
          have hgw1 : w.heap.size < W1.heap.size := by omega
          have mset := HSET.out.kept hB1 HSET.out.lt
          have hT1 := HTr.out.keep hB1
          have HTX : Hid (∀ X : World, Below W1.heap.size W1 X → TArg X (some ⟨b, off, none⟩) cap vs) := fun X hX => hT1.keep hX
          have q0 := blk_cell e0 0 rfl
          have q1 := blk_cell e0 1 rfl
          have q2 := blk_cell e0 2 rfl
          have q3 := blk_cell e0 3 rfl
          have q4 := blk_cell e0 4 rfl
          have q5 := blk_cell e0 5 rfl
          have q6 := blk_cell e0 6 rfl
          have q7 := blk_cell e0 7 rfl
          have hb1w : Hid (Below wr.heap.size wr W1) := hB1
          have MS := Lib.hid mset
          have HSZ1 := Lib.hid hsz1
          have HGG := Lib.hid hg
          clear c0 c1 c2 c3 c4 c5 c6 c7 t0 t1 hT1 hB1 e0 hgwr hb1 mset hsz1 hg
          go_region_held3 (fun w' => w'.cell? ⟨w.heap.size, 0, none⟩ = some (.int .i64 N) ∧ w'.cell? ⟨w.heap.size, 1, none⟩ = some (.slice (some ⟨b, off, none⟩) vs.length cap) ∧
              w'.cell? ⟨g, 0, none⟩ = some (.int .i64 vs[k].p) ∧ w'.cell? ⟨g, 1, none⟩ = some (.int .i64 vs[k].r) ∧ w'.cell? ⟨g, 2, none⟩ = some (.int .i64 vs[k].i) ∧
              w'.cell? ⟨g, 3, none⟩ = some (.int .i64 vs[k].h0) ∧ w'.cell? ⟨g, 4, none⟩ = some (.int .i64 vs[k].h1) ∧ w'.cell? ⟨g, 5, none⟩ = some (.int .i64 vs[k].h2) ∧
              w'.cell? ⟨g, 6, none⟩ = some (.int .i64 vs[k].h3) ∧ w'.cell? ⟨g, 7, none⟩ = some (.int .i64 vs[k].h4))
            (first
              | exact ⟨s0, s1, q0, q1, q2, q3, q4, q5, q6, q7⟩
              | exact keep10 (W0 := W1) (B := W1.heap.size) (belU hb2) hgw1 hg1 ⟨s0, s1, q0, q1, q2, q3, q4, q5, q6, q7⟩)
            ((go_at_call 40; refine (check_take N _ cap vs k (Nat.le_of_lt hlt) vs[k] _ (HTX.out _ (Below.refl _ _).drew) HWF.out).mono ?_; rintro e w2 ⟨rfl, hb2⟩))
          have hrow : rowE N vs k = if checkE N (vs.take k) vs[k] ≠ 0 then checkE N (vs.take k) vs[k] else if vs[k] ∈ vs.take k then 7 else 0 := by
            unfold rowE; rw [getV_eq hlt]
          have HROW := Lib.hid hrow
          clear hrow
          have hB2 : Below W1.heap.size W1 w2 := belU hb2
          have x2 : Hid (Below w.heap.size w w2) := BW.out.trans (hb1w.out.trans (hB2.mono (by have := HGG.out; omega)) |>.mono BW.out.size)
          have G2 : Hid (W0.grownBy w2 (some gm)) := HGR.out.trans ((grown_below hb1w.out).trans (grown_below hB2))
          have MS2 := MS.out.kept hB2 MS.out.lt
          obtain ⟨y0, y1, r0, r1, r2, r3, r4, r5, r6, r7⟩ := keep10 hB2 hgw1 hg1 ⟨s0, s1, q0, q1, q2, q3, q4, q5, q6, q7⟩
          have hlk := MS2.look (t := 91) view_key' Tryd.underlying91 zero_bool vs[k]
          unfold vEnc Vw.cells at hlk
          have M2 := Lib.hid MS2
          clear hb2 hB2 s0 s1 q0 q1 q2 q3 q4 q5 q6 q7 MS2
          by_cases hc : checkE N (vs.take k) vs[k] = 0
          · have e2 : (checkE N (vs.take k) vs[k] != 0) = false := by simp [hc]
            have HC := Lib.hid hc
            clear hc
            by_cases hin : vs[k] ∈ S
            · have hz7 : Hid (fstE (rowE N vs) vs.length = 7) := by
                have hm7 := (hS.out _).1 hin
                show _ = _
                rw [fstE_hit hall.out (by rw [HROW.out, if_neg (by rw [HC.out]; simp), if_pos hm7]; decide) hlt, HROW.out, if_neg (by rw [HC.out]; simp), if_pos hm7]
              simp only [hin, decide_true] at hlk
              clear hin
              go_wp2_with fail
              go_ret
              exact ⟨ret_int (by rw [hz.out, hz7.out]), x2.out⟩
            · have hz7 : Hid (fstE (rowE N vs) (k + 1) = 0) := by
                have hm7 := fun h => hin ((hS.out _).2 h)
                show _ = _
                rw [fstE_step hall.out, HROW.out, if_neg (by rw [HC.out]; simp), if_neg hm7]
              simp only [hin, decide_false] at hlk
              clear hin
              go_wp2_with (at_mapUpdate; refine wpList_add _ rfl _ _ _ _ _ rfl view_key' Tryd.underlying91 gm S M2.out vs[k] rfl rfl rfl ?_; intro w5 hset5 hg5)
              go_roundw
              case rel => exact ⟨k + 1, vs[k] :: S, by omega, by go_num, hz7, hset5, mem_step hlt hS.out, G2.out.trans hg5⟩
              case measure => simp [intOf]; omega
          · have e2 : (checkE N (vs.take k) vs[k] != 0) = true := by simpa using hc
            have HC := Lib.hid hc
            clear hc
            go_wp2_with fail
            go_ret
            exact ⟨ret_int (by rw [hz.out, fstE_hit hall.out (by rw [HROW.out, if_pos HC.out]; exact HC.out) hlt, HROW.out, if_pos HC.out]), x2.out⟩
        · obtain rfl : k = vs.length := by omega
          go_wp2_with fail
          go_ret
          exact ⟨ret_int (by rw [hz.out, hall.out]), BW.out⟩
end Go.Proofs.YtdfnmapmnmecnaaDoor

/- views.at, Find. -/
namespace Go.Proofs.YtdfnmapmnmecnaaDoor
open Go.RowKit

theorem onebox (w : World) (c1 : Array Value) (t1 : TypeId) : ∃ W0, w.alloc (.cells c1 t1) = W0 ∧ W0.heap[w.heap.size]? = some (.cells c1 t1 (0, 0)) ∧ W0.heap.size = w.heap.size + 1 ∧ Below w.heap.size w W0 :=
  ⟨_, rfl, blk_new _ _, by simp, bel1 w _⟩
/-- The error of a table and of indices. -/
def inB (vs : List Vw) (i : Int) : Bool := decide (0 ≤ i ∧ i < (vs.length : Int))
def atE (n : Int) (vs : List Vw) (l : List Int) : Int := if CheckE n vs ≠ 0 then CheckE n vs else if l.all (inB vs) = true then 0 else 6
theorem atE_bad {n : Int} {vs : List Vw} {l : List Int} (h : CheckE n vs ≠ 0) : atE n vs l = CheckE n vs := by unfold atE; rw [if_pos h]
theorem atE_all {n : Int} {vs : List Vw} {l : List Int} (h : CheckE n vs = 0) (ha : l.all (inB vs) = true) : atE n vs l = 0 := by unfold atE; rw [if_neg (by simp [h]), if_pos ha]
theorem atE_six {n : Int} {vs : List Vw} {l : List Int} (h : CheckE n vs = 0) (ha : l.all (inB vs) ≠ true) : atE n vs l = 6 := by unfold atE; rw [if_neg (by simp [h]), if_neg ha]
theorem all_hit {vs : List Vw} {l : List Int} {k : Nat} (hk : k < l.length) (h : inB vs l[k] = false) : l.all (inB vs) ≠ true := fun ha => by
  have := List.all_eq_true.1 ha _ (List.getElem_mem hk)
  rw [h] at this; cases this
theorem all_step {vs : List Vw} {l : List Int} {k : Nat} (hk : k < l.length) (ha : (l.take k).all (inB vs) = true) (h : inB vs l[k] = true) : (l.take (k + 1)).all (inB vs) = true := by
  rw [List.take_add_one, List.getElem?_eq_getElem hk, List.all_append, ha]
  simp [h]

set_option maxRecDepth 100000 in
set_option maxHeartbeats 4000000 in
theorem vat_any (n : Int) (A L : Option Addr) (cap lcap : Nat) (vs : List Vw) (l : List Int) (w : World) (hT : TArg w A cap vs) (hL : IAt w w.heap.size L l) (hl : l.length ≤ 1000) :
    Calls Tryd.prog 45 #[.agg #[.int .i64 n, .slice A vs.length cap], .slice L l.length lcap] w fun e w' => e = .returned (.int .i64 (atE n vs l)) ∧ Below w.heap.size w w' := by
  have HT := Lib.hid hT
  have HL := Lib.hid hL
  have hfew := hT.few
  clear hT hL
  go_enter Tryd.func45, Tryd.ntmps45
  go_wp2_with fail
  obtain ⟨W0, hW0, b0, hsz, hB0⟩ := onebox w #[.int .i64 n, .slice A vs.length cap] 24
  rw [hW0]
  clear hW0
  refine (vcheck_any n A cap vs W0 (HT.out.keep hB0)).mono ?_
  rintro e w1 ⟨rfl, hb⟩
  have d0 := (hb.block _ (by omega)).trans b0
  have B1 : Hid (Below w.heap.size w w1) := hB0.trans (hb.mono (by omega))
  have l1 : w.heap.size < w1.heap.size := by have := hb.size; omega
  have t1 := blk_cell d0 1 rfl
  clear b0 hsz hB0 hb d0
  by_cases hc : CheckE n vs = 0
  · have e0 : (CheckE n vs != 0) = false := by simp [hc]
    have HC := Lib.hid hc
    clear hc
    go_wp2_with fail
    go_loop [15] (fun i => ∃ k : Nat, k ≤ l.length ∧ i = .int .i64 k ∧ Hid ((l.take k).all (inB vs) = true)) (fun i => l.length - (intOf i).toNat)
    case atStart => exact ⟨0, by omega, rfl, by show (l.take 0).all (inB vs) = true; simp⟩
    case round =>
      obtain ⟨k, hk, rfl, hall⟩ := hrel
      by_cases hlt : k < l.length
      · obtain ⟨b, off, rfl, hbl, r0⟩ := HL.out.at_ k hlt
        have r1 := (B1.out.cell (p := ⟨b, off + k, none⟩) hbl).trans r0
        have hb2 : b < w1.heap.size := by omega
        obtain ⟨i, hi⟩ : ∃ i, l[k] = i := ⟨_, rfl⟩
        rw [hi] at r1
        clear r0
        by_cases h1 : i < 0
        · have hz := Lib.hid (atE_six HC.out (all_hit hlt (by unfold inB; rw [hi]; simp; omega)))
          clear hi
          go_wp2_with fail
          go_ret
          exact ⟨ret_int hz.out.symm, B1.out⟩
        · by_cases h2 : (vs.length : Int) ≤ i
          · have hz := Lib.hid (atE_six HC.out (all_hit hlt (by unfold inB; rw [hi]; simp; omega)))
            clear hi
            go_wp2_with fail
            go_ret
            exact ⟨ret_int hz.out.symm, B1.out⟩
          · have hz := Lib.hid (all_step hlt hall.out (by unfold inB; rw [hi]; simp; omega))
            clear hi
            go_wp2_with fail
            go_round
            case rel => exact ⟨k + 1, by omega, by go_num, hz⟩
            case measure => simp [intOf]; omega
      · obtain rfl : k = l.length := by omega
        have hz := Lib.hid (atE_all HC.out (by have := hall.out; rwa [List.take_length] at this))
        go_wp2_with fail
        go_ret
        exact ⟨ret_int hz.out.symm, B1.out⟩
  · have e0 : (CheckE n vs != 0) = true := by simpa using hc
    have hz := Lib.hid (atE_bad (l := l) hc)
    clear hc
    go_wp2_with fail
    go_ret
    exact ⟨ret_int hz.out.symm, B1.out⟩
end Go.Proofs.YtdfnmapmnmecnaaDoor

/- ref22.at; Own and Past of the program and of the reference. -/
namespace Go.Proofs.YtdfnmapmnmecnaaDoor
open Go.RowKit

theorem inB_iff {vs : List Vw} {i : Int} : inB vs i = true ↔ 0 ≤ i ∧ i < (vs.length : Int) := by unfold inB; simp
theorem atE_ok {n : Int} {vs : List Vw} {l : List Int} (h : atE n vs l = 0) : Wf n vs ∧ vs.length ≤ 8192 ∧ ∀ i, i ∈ l → 0 ≤ i ∧ i < (vs.length : Int) := by
  unfold atE at h
  split at h
  · rename_i h1; exact absurd h h1
  · rename_i h1
    split at h
    · rename_i h2
      have := Wf.of_CheckE (by simpa using h1)
      exact ⟨this.1, this.2, fun i hi => inB_iff.1 (List.all_eq_true.1 h2 i hi)⟩
    · cases h
theorem atE_one {n : Int} {vs : List Vw} {i : Int} (h : CheckE n vs = 0) : atE n vs [i] = if inB vs i = true then 0 else 6 := by
  unfold atE
  rw [if_neg (by simp [h])]
  simp

set_option maxRecDepth 100000 in
set_option maxHeartbeats 4000000 in
theorem rat_any (n : Int) (A : Option Addr) (cap : Nat) (vs : List Vw) (i : Int) (w : World) (hT : TArg w A cap vs) :
    Calls Tryd.prog 47 #[.agg #[.int .i64 n, .slice A vs.length cap], .int .i64 i] w fun e w' => e = .returned (.int .i64 (atE n vs [i])) ∧ Below w.heap.size w w' := by
  have HT := Lib.hid hT
  have hfew := hT.few
  clear hT
  go_enter Tryd.func47, Tryd.ntmps47
  go_wp2_with fail
  obtain ⟨W0, hW0, b0, hsz, hB0⟩ := onebox w #[.int .i64 n, .slice A vs.length cap] 24
  rw [hW0]
  clear hW0
  refine (rcheck_any n A cap vs W0 (HT.out.keep hB0)).mono ?_
  rintro e w1 ⟨rfl, hb⟩
  have d0 := (hb.block _ (by omega)).trans b0
  have B1 : Hid (Below w.heap.size w w1) := hB0.trans (hb.mono (by omega))
  have l1 : w.heap.size < w1.heap.size := by have := hb.size; omega
  have t1 := blk_cell d0 1 rfl
  clear b0 hsz hB0 hb d0
  by_cases hc : CheckE n vs = 0
  · have e0 : (CheckE n vs != 0) = false := by simp [hc]
    have HC := Lib.hid hc
    clear hc
    by_cases h1 : i < 0
    · have hz : Hid (atE n vs [i] = 6) := by show _ = _; rw [atE_one HC.out, if_neg (by rw [inB_iff]; omega)]
      go_wp2_with fail
      go_ret
      exact ⟨ret_int hz.out.symm, B1.out⟩
    · by_cases h2 : (vs.length : Int) ≤ i
      · have hz : Hid (atE n vs [i] = 6) := by show _ = _; rw [atE_one HC.out, if_neg (by rw [inB_iff]; omega)]
        go_wp2_with fail
        go_ret
        exact ⟨ret_int hz.out.symm, B1.out⟩
      · have hz : Hid (atE n vs [i] = 0) := by show _ = _; rw [atE_one HC.out, if_pos (by rw [inB_iff]; omega)]
        go_wp2_with fail
        go_ret
        exact ⟨ret_int hz.out.symm, B1.out⟩
  · have e0 : (CheckE n vs != 0) = true := by simpa using hc
    have hz := Lib.hid (atE_bad (l := [i]) hc)
    clear hc
    go_wp2_with fail
    go_ret
    exact ⟨ret_int hz.out.symm, B1.out⟩

/-- The result of Own. -/
def ownE (n : Int) (vs : List Vw) (i : Int) : Int × Int :=
  if atE n vs [i] ≠ 0 then (0, atE n vs [i]) else if (getV vs i.toNat).r = 0 then (0, 16) else ((getV vs i.toNat).h (getV vs i.toNat).p.toNat, 0)
def RetTwo (r : Int × Int) (w : World) (e : Ending) (w' : World) : Prop := e = .returned (.tuple #[.int .i64 r.1, .int .i64 r.2]) ∧ Below w.heap.size w w'
theorem RetTwo.of {r : Int × Int} {w w' : World} {a c : Int} (h : r = (a, c)) (hb : Below w.heap.size w w') : RetTwo r w (.returned (.tuple #[.int .i64 a, .int .i64 c])) w' := ⟨by rw [h], hb⟩
theorem ownE_bad {n : Int} {vs : List Vw} {i : Int} (h : atE n vs [i] ≠ 0) : ownE n vs i = (0, atE n vs [i]) := by unfold ownE; rw [if_pos h]
theorem ownE_zero {n : Int} {vs : List Vw} {i : Int} (h : atE n vs [i] = 0) (hr : (getV vs i.toNat).r = 0) : ownE n vs i = (0, 16) := by unfold ownE; rw [if_neg (by simp [h]), if_pos hr]
theorem ownE_yes {n : Int} {vs : List Vw} {i : Int} (h : atE n vs [i] = 0) (hr : (getV vs i.toNat).r ≠ 0) : ownE n vs i = ((getV vs i.toNat).h (getV vs i.toNat).p.toNat, 0) := by unfold ownE; rw [if_neg (by simp [h]), if_neg hr]
theorem Wf.beg {n : Int} {vs : List Vw} (h : Wf n vs) {i : Nat} (hi : i < vs.length) : begE n vs[i] = 0 := by
  have := (checkE_ok (rowE_ok (h.2.2 i hi)).1).1
  rwa [getV_eq hi] at this

set_option maxRecDepth 100000 in
set_option maxHeartbeats 4000000 in
theorem vown_any (n : Int) (A : Option Addr) (cap : Nat) (vs : List Vw) (i : Int) (w : World) (hT : TArg w A cap vs) :
    Calls Tryd.prog 29 #[.agg #[.int .i64 n, .slice A vs.length cap], .int .i64 i] w (RetTwo (ownE n vs i) w) := by
  have HT := Lib.hid hT
  have hfew := hT.few
  clear hT
  go_enter Tryd.func29, Tryd.ntmps29
  go_wp2_with fail
  obtain ⟨W0, hW0, b0, hsz, hB0⟩ := onebox w #[.int .i64 n, .slice A vs.length cap] 24
  rw [hW0]
  clear hW0
  have hI : IAt (W0.alloc (.cells #[.int .i64 i] 3)) (W0.alloc (.cells #[.int .i64 i] 3)).heap.size (some ⟨w.heap.size + 1, 0, none⟩) [i] := by have := IAt.box W0 i 3; rwa [hsz] at this
  have hbx := bel1 W0 (.cells #[.int .i64 i] 3)
  refine (vat_any n A (some ⟨w.heap.size + 1, 0, none⟩) cap 1 vs [i] (W0.alloc (.cells #[.int .i64 i] 3)) (HT.out.keep (hB0.trans (hbx.mono (by omega)))) hI (by simp)).mono ?_
  rintro e w1 ⟨rfl, hb⟩
  have d0 := (hb.block _ (by simp; omega)).trans ((hbx.block _ (by omega)).trans b0)
  have B1 : Hid (Below w.heap.size w w1) := hB0.trans ((hbx.trans (hb.mono (by simp))).mono (by omega))
  have l1 : w.heap.size < w1.heap.size := by have := hb.size; simp at this; omega
  clear hI hbx
  have t1 := blk_cell d0 1 rfl
  clear b0 hsz hB0 hb d0
  by_cases hc : atE n vs [i] = 0
  · have e0 : (atE n vs [i] != 0) = false := by simp [hc]
    obtain ⟨hwf, _, hin⟩ := atE_ok hc
    obtain ⟨h0, h1⟩ := hin i (by simp)
    obtain ⟨j, rfl⟩ := Int.eq_ofNat_of_zero_le h0
    have hj : j < vs.length := by omega
    have hbg := begE_ok (hwf.beg hj)
    have HC := Lib.hid hc
    have hgv : Hid (getV vs (j : Int).toNat = vs[j]) := by show _ = _; rw [Int.toNat_natCast, getV_eq hj]
    obtain ⟨b, off, rfl, hb1, c0, c1, c2, c3, c4, c5, c6, c7⟩ := (HT.out.rows.keep B1.out).row j hj
    have hb2 : b < w1.heap.size := by omega
    obtain ⟨q, hq⟩ := Int.eq_ofNat_of_zero_le hbg.1
    have hq5 : q < 5 := by have := hbg.2.1; have := hwf.2.1; omega
    have hqt : vs[j].p.toNat = q := by omega
    have HW := Lib.hid hwf
    clear hc hwf hin
    by_cases hr : vs[j].r = 0
    · have e1 : (vs[j].r == 0) = true := by simp [hr]
      have hz := Lib.hid (ownE_zero HC.out (by rw [hgv.out]; exact hr))
      clear hr hq hqt hbg
      go_wp2_with fail
      go_ret2
      exact RetTwo.of hz.out (by first | exact B1.out.trans ((bel1 _ _).mono B1.out.size) | exact B1.out.trans (((bel1 _ _).drew).mono B1.out.size))
    · have e1 : (vs[j].r == 0) = false := by simp [hr]
      have hz : Hid (ownE n vs j = (vs[j].h q, 0)) := by show _ = _; rw [ownE_yes HC.out (by rw [hgv.out]; exact hr), hgv.out, hqt]
      have HQ := Lib.hid hq
      have hch := vs[j].cells_h q hq5
      clear hr hq hqt hbg
      go_upto_region 5 with fail
      refine wp_one ?_
      intro W1 g0 hsz1 hB1
      have g1 : W1.heap[w1.heap.size]? = some (.cells vs[j].cells 27 (0, 0)) := g0
      have x0 : W1.cell? ⟨w1.heap.size, 0, none⟩ = some (.int .i64 (q : Int)) := by have := HQ.out; rw [← this]; exact blk_cell g1 0 rfl
      have x1 : W1.cell? ⟨w1.heap.size, 1, none⟩ = some (.int .i64 vs[j].r) := blk_cell g1 1 rfl
      have x3 := blk_cell g1 (3 + q) hch
      have B2 : Hid (Below w.heap.size w W1) := B1.out.trans (hB1.mono B1.out.size)
      clear g0 g1 hsz1 hB1 c0 c1 c2 c3 c4 c5 c6 c7 t1 hch
      go_wp2_with fail
      go_ret2
      exact RetTwo.of hz.out B2.out
  · have e0 : (atE n vs [i] != 0) = true := by simpa using hc
    have hz := Lib.hid (ownE_bad hc)
    clear hc
    go_wp2_with fail
    go_ret2
    exact RetTwo.of hz.out B1.out

set_option maxRecDepth 100000 in
set_option maxHeartbeats 4000000 in
theorem rown_any (n : Int) (A : Option Addr) (cap : Nat) (vs : List Vw) (i : Int) (w : World) (hT : TArg w A cap vs) :
    Calls Tryd.prog 30 #[.agg #[.int .i64 n, .slice A vs.length cap], .int .i64 i] w (RetTwo (ownE n vs i) w) := by
  have HT := Lib.hid hT
  have hfew := hT.few
  clear hT
  go_enter Tryd.func30, Tryd.ntmps30
  go_wp2_with fail
  obtain ⟨W0, hW0, b0, hsz, hB0⟩ := onebox w #[.int .i64 n, .slice A vs.length cap] 24
  rw [hW0]
  clear hW0
  refine (rat_any n A cap vs i _ (HT.out.keep hB0)).mono ?_
  rintro e w1 ⟨rfl, hb⟩
  have d0 := (hb.block _ (by omega)).trans b0
  have B1 : Hid (Below w.heap.size w w1) := hB0.trans (hb.mono (by omega))
  have l1 : w.heap.size < w1.heap.size := by have := hb.size; omega
  have t1 := blk_cell d0 1 rfl
  clear b0 hsz hB0 hb d0
  by_cases hc : atE n vs [i] = 0
  · have e0 : (atE n vs [i] != 0) = false := by simp [hc]
    obtain ⟨hwf, _, hin⟩ := atE_ok hc
    obtain ⟨h0, h1⟩ := hin i (by simp)
    obtain ⟨j, rfl⟩ := Int.eq_ofNat_of_zero_le h0
    have hj : j < vs.length := by omega
    have hbg := begE_ok (hwf.beg hj)
    have HC := Lib.hid hc
    have hgv : Hid (getV vs (j : Int).toNat = vs[j]) := by show _ = _; rw [Int.toNat_natCast, getV_eq hj]
    obtain ⟨b, off, rfl, hb1, c0, c1, c2, c3, c4, c5, c6, c7⟩ := (HT.out.rows.keep B1.out).row j hj
    have hb2 : b < w1.heap.size := by omega
    obtain ⟨q, hq⟩ := Int.eq_ofNat_of_zero_le hbg.1
    have hq5 : q < 5 := by have := hbg.2.1; have := hwf.2.1; omega
    have hqt : vs[j].p.toNat = q := by omega
    have HW := Lib.hid hwf
    clear hc hwf hin
    by_cases hr : vs[j].r = 0
    · have e1 : (vs[j].r == 0) = true := by simp [hr]
      have hz := Lib.hid (ownE_zero HC.out (by rw [hgv.out]; exact hr))
      clear hr hq hqt hbg
      go_wp2_with fail
      go_ret2
      exact RetTwo.of hz.out (by first | exact B1.out.trans ((bel1 _ _).mono B1.out.size) | exact B1.out.trans (((bel1 _ _).drew).mono B1.out.size))
    · have e1 : (vs[j].r == 0) = false := by simp [hr]
      have hz : Hid (ownE n vs j = (vs[j].h q, 0)) := by show _ = _; rw [ownE_yes HC.out (by rw [hgv.out]; exact hr), hgv.out, hqt]
      have HQ := Lib.hid hq
      have hch := vs[j].cells_h q hq5
      clear hr hq hqt hbg
      go_upto_region 5 with fail
      refine wp_one ?_
      intro W1 g0 hsz1 hB1
      have g1 : W1.heap[w1.heap.size]? = some (.cells vs[j].cells 27 (0, 0)) := g0
      have x0 : W1.cell? ⟨w1.heap.size, 0, none⟩ = some (.int .i64 (q : Int)) := by have := HQ.out; rw [← this]; exact blk_cell g1 0 rfl
      have x1 : W1.cell? ⟨w1.heap.size, 1, none⟩ = some (.int .i64 vs[j].r) := blk_cell g1 1 rfl
      have x3 := blk_cell g1 (3 + q) hch
      have B2 : Hid (Below w.heap.size w W1) := B1.out.trans (hB1.mono B1.out.size)
      clear g0 g1 hsz1 hB1 c0 c1 c2 c3 c4 c5 c6 c7 t1 hch
      go_wp2_with fail
      go_ret2
      exact RetTwo.of hz.out B2.out
  · have e0 : (atE n vs [i] != 0) = true := by simpa using hc
    have hz := Lib.hid (ownE_bad hc)
    clear hc
    go_wp2_with fail
    go_ret2
    exact RetTwo.of hz.out B1.out

end Go.Proofs.YtdfnmapmnmecnaaDoor

/- A row of integers of the call's own that is written element by element; what Inputs computes. -/
namespace Go.Proofs.YtdfnmapmnmecnaaDoor
open Go.RowKit

/-- Block g holds the integers xs and nothing else. -/
def RowAt (w : World) (g : Nat) (xs : List Int) : Prop := w.heap[g]? = some (.cells (xs.map (Value.int .i64)).toArray 3 (0, 0))
theorem RowAt.cell {w : World} {g : Nat} {xs : List Int} (h : RowAt w g xs) (k : Nat) (hk : k < xs.length) : w.cell? ⟨g, k, none⟩ = some (.int .i64 xs[k]) := blk_cell h k (by simp [hk])
theorem RowAt.froz {w : World} {g : Nat} {xs : List Int} (h : RowAt w g xs) (k : Nat) : w.frozen? ⟨g, k, none⟩ = false := blk_froz h k
theorem RowAt.lt {w : World} {g : Nat} {xs : List Int} (h : RowAt w g xs) : g < w.heap.size := blk_lt h
theorem RowAt.set {w : World} {g : Nat} {xs : List Int} (h : RowAt w g xs) (k : Nat) (u : Int) : RowAt (w.setCell ⟨g, k, none⟩ (.int .i64 u)) g (xs.set k u) := by
  unfold RowAt at *
  rw [World.setCell, Array.getElem?_modify, if_pos rfl, h]
  simp [List.map_set]
theorem RowAt.own {w : World} {g base : Nat} {xs : List Int} (h : RowAt w g xs) (hb : base ≤ g) (hl : xs.length ≤ maxLen) : Own w base (.slice (some ⟨g, 0, none⟩) xs.length xs.length) xs := by
  refine ⟨by simp, .inr ⟨g, xs.length, _, rfl, hb, h, Nat.le_refl _, hl, by simp, by rw [Nat.mul_one]; simp [List.take_of_length_le]⟩⟩

/-- The inputs that a list of views knows. -/
def knowL (vs : List Vw) (l : List Nat) (out : List Int) : List Int := l.foldl (fun out x => if (getV vs x).r = 0 then out.set (getV vs x).p.toNat (getV vs x).i else out) out
theorem knowL_length (vs : List Vw) : ∀ (l : List Nat) (out : List Int), (knowL vs l out).length = out.length
  | [], _ => rfl
  | x :: l, out => by
    have := knowL_length vs l (if (getV vs x).r = 0 then out.set (getV vs x).p.toNat (getV vs x).i else out)
    unfold knowL at *
    rw [List.foldl_cons, this]
    split <;> simp
theorem knowL_step (vs : List Vw) (l : List Nat) (k : Nat) (hk : k < l.length) (out : List Int) : knowL vs (l.take (k + 1)) out = if (getV vs l[k]).r = 0 then (knowL vs (l.take k) out).set (getV vs l[k]).p.toNat (getV vs l[k]).i else knowL vs (l.take k) out := by
  unfold knowL
  rw [List.take_add_one, List.getElem?_eq_getElem hk, List.foldl_append]
  rfl
/-- The result of Inputs. -/
def inputsE (n : Int) (vs : List Vw) (i : Int) : List Int × Int := if atE n vs [i] ≠ 0 then ([], atE n vs [i]) else (knowL vs (pastL vs [i.toNat]) (List.replicate n.toNat (-1)), 0)
theorem inputsE_bad {n : Int} {vs : List Vw} {i : Int} (h : atE n vs [i] ≠ 0) : inputsE n vs i = ([], atE n vs [i]) := by unfold inputsE; rw [if_pos h]
theorem inputsE_yes {n : Nat} {vs : List Vw} {i : Nat} (h : atE (n : Int) vs [(i : Int)] = 0) : inputsE n vs i = (knowL vs (pastL vs [i]) (List.replicate n (-1)), 0) := by unfold inputsE; rw [if_neg (by simp [h]), Int.toNat_natCast, Int.toNat_natCast]
end Go.Proofs.YtdfnmapmnmecnaaDoor

/- The text of a view, byte by byte, in plain Lean: its length, and that different views have different texts. No program in sight. -/
namespace Go.Proofs.YtdfnmapmnmecnaaDoor

def dgt (x : Int) : UInt8 := UInt8.ofNat (48 + x.toNat)
theorem dgt_inj {x y : Int} (hx : 0 ≤ x ∧ x < 10) (hy : 0 ≤ y ∧ y < 10) (h : dgt x = dgt y) : x = y := by
  unfold dgt at h
  have h1 := congrArg UInt8.toNat h
  simp only [UInt8.toNat_ofNat'] at h1
  omega
/-- Texts behind signs: the first sign, then commas. -/
def sep : UInt8 → List (List UInt8) → List UInt8
  | _, [] => []
  | s, x :: xs => s :: (x ++ sep 44 xs)
theorem sep_snoc : ∀ (s : UInt8) (l : List (List UInt8)) (x : List UInt8), sep s (l ++ [x]) = sep s l ++ ((if l = [] then s else 44) :: x)
  | s, [], x => by simp [sep]
  | s, y :: l, x => by
    have := sep_snoc 44 l x
    simp only [List.cons_append, sep, this, List.append_assoc]
    by_cases h : l = [] <;> simp [h]
theorem sep_length : ∀ (s : UInt8) (l : List (List UInt8)) (m : Nat), (∀ x, x ∈ l → x.length ≤ m) → (sep s l).length ≤ l.length * (m + 1)
  | _, [], _, _ => by simp [sep]
  | s, x :: l, m, h => by
    have h1 := h x (by simp)
    have h2 := sep_length 44 l m fun y hy => h y (by simp [hy])
    simp only [sep, List.length_cons, List.length_append]
    rw [Nat.add_mul]
    omega
def wordsF (vs : List Vw) : Nat → Nat → List UInt8
  | 0, _ => []
  | f + 1, i => if (getV vs i).r = 0 then [dgt (getV vs i).p, 58, dgt (getV vs i).i] else dgt (getV vs i).p :: (sep 40 ((kids (getV vs i)).map (wordsF vs f)) ++ [41])
/-- The text of view i. -/
def words (vs : List Vw) (i : Nat) : List UInt8 := wordsF vs (i + 1) i

theorem wordsF_fuel {vs : List Vw} (ha : Acyc vs) : ∀ (i f : Nat), i < vs.length → i < f → wordsF vs f i = words vs i := by
  intro i
  induction i using Nat.strongRecOn with
  | _ i ih =>
    intro f hi hf
    obtain ⟨g, rfl⟩ : ∃ g, f = g + 1 := ⟨f - 1, by omega⟩
    unfold words
    simp only [wordsF]
    split
    · rfl
    · congr 3
      apply List.map_congr_left
      intro c hc
      have := ha i hi c hc
      rw [ih c this g (by omega) (by omega), ih c this i (by omega) this]
theorem words_zero {vs : List Vw} {i : Nat} (hr : (getV vs i).r = 0) : words vs i = [dgt (getV vs i).p, 58, dgt (getV vs i).i] := by
  unfold words wordsF; rw [if_pos hr]
theorem words_later {vs : List Vw} (ha : Acyc vs) {i : Nat} (hi : i < vs.length) (hr : (getV vs i).r ≠ 0) : words vs i = dgt (getV vs i).p :: (sep 40 ((kids (getV vs i)).map (words vs)) ++ [41]) := by
  unfold words
  rw [wordsF, if_neg hr]
  congr 3
  apply List.map_congr_left
  intro c hc
  have := ha i hi c hc
  exact wordsF_fuel ha c i (by omega) this

theorem kids_len5 (v : Vw) : (kids v).length ≤ 5 := by
  unfold kids heardL heardTo
  rw [List.length_map]
  split
  · exact Nat.le_trans (List.length_filterMap_le _ _) (by simp)
  · simp
/-- How long the text of a view of round r is at most. -/
def wlen : Nat → Nat
  | 0 => 3
  | r + 1 => 2 + 5 * (wlen r + 1)
theorem wlen_mono {a b : Nat} (h : a ≤ b) : wlen a ≤ wlen b := by
  induction b with
  | zero => obtain rfl : a = 0 := by omega
            exact Nat.le_refl _
  | succ b ih =>
    by_cases e : a = b + 1
    · subst e; exact Nat.le_refl _
    · have := ih (by omega)
      simp only [wlen]; omega

theorem Wf.row_ok {n : Int} {vs : List Vw} (h : Wf n vs) {i : Nat} (hi : i < vs.length) : checkE n (vs.take i) (getV vs i) = 0 := (rowE_ok (h.2.2 i hi)).1
theorem Wf.kid {n : Int} {vs : List Vw} (h : Wf n vs) {i c : Nat} (hi : i < vs.length) (hc : c ∈ kids (getV vs i)) : c < i ∧ (getV vs c).r = (getV vs i).r - 1 := by
  have h1 := h.acyc i hi c hc
  have h2 := kid_ok (h.row_ok hi) hc
  rw [getV_take h1] at h2
  exact ⟨h1, h2.2⟩
theorem Wf.begv {n : Int} {vs : List Vw} (h : Wf n vs) {i : Nat} (hi : i < vs.length) : begE n (getV vs i) = 0 := (checkE_ok (h.row_ok hi)).1
theorem Wf.nodup {n : Int} {vs : List Vw} (h : Wf n vs) {i j : Nat} (hi : i < vs.length) (hj : j < vs.length) (e : getV vs i = getV vs j) : i = j := by
  have key : ∀ i j, i < j → j < vs.length → getV vs i = getV vs j → False := fun i j hij hj e => by
    have := (rowE_ok (h.2.2 j hj)).2
    refine this ?_
    rw [← e, getV_eq (show i < vs.length by omega), List.mem_iff_getElem]
    exact ⟨i, by simp; omega, by simp⟩
  rcases Nat.lt_trichotomy i j with h1 | h1 | h1
  · exact absurd (key i j h1 hj e) id
  · exact h1
  · exact absurd (key j i h1 hi e.symm) id
/-- The own view of a later one. -/
theorem Wf.own_kid {n : Int} {vs : List Vw} (h : Wf n vs) {i : Nat} (hi : i < vs.length) (hr : (getV vs i).r ≠ 0) : ((getV vs i).h (getV vs i).p.toNat).toNat ∈ kids (getV vs i) := by
  have hb := begE_ok (h.begv hi)
  obtain ⟨h1, h2⟩ := checkE_ok (h.row_ok hi)
  obtain ⟨hl, hg, _⟩ := h2 hr
  have hp5 : (getV vs i).p.toNat < 5 := by have := h.2.1; omega
  have := linkE_ok (hl _ hp5) hg
  exact mem_kids.2 ⟨by omega, _, hp5, this.1, rfl⟩

theorem words_len {n : Int} {vs : List Vw} (h : Wf n vs) : ∀ i, i < vs.length → (words vs i).length ≤ wlen (getV vs i).r.toNat := by
  intro i
  induction i using Nat.strongRecOn with
  | _ i ih =>
    intro hi
    by_cases hr : (getV vs i).r = 0
    · rw [words_zero hr, hr]; simp [wlen]
    · have hb := begE_ok (h.begv hi)
      obtain ⟨r, hre⟩ : ∃ r, (getV vs i).r.toNat = r + 1 := ⟨(getV vs i).r.toNat - 1, by omega⟩
      rw [words_later h.acyc hi hr, hre]
      have h5 := kids_len5 (getV vs i)
      have := sep_length 40 ((kids (getV vs i)).map (words vs)) (wlen r) (by
        intro x hx
        obtain ⟨c, hc, rfl⟩ := List.mem_map.1 hx
        obtain ⟨k1, k2⟩ := h.kid hi hc
        have := ih c k1 (by omega)
        rwa [show (getV vs c).r.toNat = r from by omega] at this)
      rw [List.length_map] at this
      have h2 : (kids (getV vs i)).length * (wlen r + 1) ≤ 5 * (wlen r + 1) := Nat.mul_le_mul_right _ h5
      simp only [List.length_cons, List.length_append, List.length_nil, wlen]
      omega

theorem vw_ext {v u : Vw} (hp : v.p = u.p) (hr : v.r = u.r) (hi : v.i = u.i) (hh : ∀ q, q < 5 → v.h q = u.h q) : v = u := by
  cases v; cases u
  have h0 := hh 0 (by omega); have h1 := hh 1 (by omega); have h2 := hh 2 (by omega); have h3 := hh 3 (by omega); have h4 := hh 4 (by omega)
  simp only [Vw.h] at h0 h1 h2 h3 h4
  simp_all

theorem kids_det {n : Int} {vs : List Vw} (h : Wf n vs) {i j : Nat} (hi : i < vs.length) (hj : j < vs.length) (hri : (getV vs i).r ≠ 0) (hrj : (getV vs j).r ≠ 0) (hk : kids (getV vs i) = kids (getV vs j)) :
    ∀ q, q < 5 → (getV vs i).h q ≠ -1 → (getV vs j).h q = (getV vs i).h q := by
  intro q hq hne
  obtain ⟨_, h2⟩ := checkE_ok (h.row_ok hi)
  have l1 := linkE_ok ((h2 hri).1 q hq) hne
  have hbi := begE_ok (h.begv hi)
  have hc : ((getV vs i).h q).toNat ∈ kids (getV vs i) := mem_kids.2 ⟨by omega, q, hq, l1.1, rfl⟩
  rw [hk] at hc
  obtain ⟨_, q', hq', h0', e'⟩ := mem_kids.1 hc
  obtain ⟨_, h3⟩ := checkE_ok (h.row_ok hj)
  have l2 := linkE_ok ((h3 hrj).1 q' hq') (by omega)
  have lt1 : ((getV vs i).h q).toNat < i := by have := l1.2.1; simp at this; omega
  have lt2 : ((getV vs j).h q').toNat < j := by have := l2.2.1; simp at this; omega
  have p1 := l1.2.2.1
  have p2 := l2.2.2.1
  rw [getV_take lt1] at p1
  rw [getV_take lt2, ← e', p1] at p2
  have : q = q' := by omega
  subst this
  omega
theorem row_det {n : Int} {vs : List Vw} (h : Wf n vs) {i j : Nat} (hi : i < vs.length) (hj : j < vs.length) (hri : (getV vs i).r ≠ 0) (hrj : (getV vs j).r ≠ 0) (hp : (getV vs i).p = (getV vs j).p) (hk : kids (getV vs i) = kids (getV vs j)) : i = j := by
  refine h.nodup hi hj ?_
  have hbi := begE_ok (h.begv hi)
  have hbj := begE_ok (h.begv hj)
  have o1 := h.own_kid hi hri
  have k1 := h.kid hi o1
  rw [hk] at o1
  have k2 := h.kid hj o1
  refine vw_ext hp (by omega) (by rw [hbi.2.2.2.2.2.1 (by omega), hbj.2.2.2.2.2.1 (by omega)]) fun q hq => ?_
  by_cases e1 : (getV vs i).h q = -1
  · by_cases e2 : (getV vs j).h q = -1
    · rw [e1, e2]
    · exact kids_det h hj hi hrj hri hk.symm q hq e2
  · exact (kids_det h hi hj hri hrj hk q hq e1).symm

theorem sep_inj {vs : List Vw} : ∀ (l l' : List Nat) (a : UInt8) (s t : List UInt8), a ≠ 41 → (∀ x, x ∈ l → ∀ y, y ∈ l' → ∀ s t, words vs x ++ s = words vs y ++ t → x = y ∧ s = t) →
    sep a (l.map (words vs)) ++ 41 :: s = sep a (l'.map (words vs)) ++ 41 :: t → l = l' ∧ s = t
  | [], [], a, s, t, _, _, h => by simpa [sep] using h
  | [], y :: l', a, s, t, ha, _, h => by
    simp only [List.map_nil, List.map_cons, sep, List.nil_append, List.cons_append, List.cons.injEq] at h
    exact absurd h.1.symm ha
  | x :: l, [], a, s, t, ha, _, h => by
    simp only [List.map_nil, List.map_cons, sep, List.nil_append, List.cons_append, List.cons.injEq] at h
    exact absurd h.1 ha
  | x :: l, y :: l', a, s, t, ha, hw, h => by
    simp only [List.map_cons, sep, List.cons_append, List.cons.injEq, true_and, List.append_assoc] at h
    obtain ⟨rfl, h2⟩ := hw x (by simp) y (by simp) _ _ h
    obtain ⟨rfl, rfl⟩ := sep_inj l l' 44 s t (by decide) (fun x hx y hy => hw x (by simp [hx]) y (by simp [hy])) h2
    exact ⟨rfl, rfl⟩

theorem sep_head {s : UInt8} {l : List (List UInt8)} (h : l ≠ []) : ∃ t, sep s l = s :: t := by
  cases l with
  | nil => exact absurd rfl h
  | cons x xs => exact ⟨_, rfl⟩
/-- Different views have different texts, and none begins another. -/
theorem words_inj {n : Int} {vs : List Vw} (h : Wf n vs) : ∀ i, i < vs.length → ∀ j, j < vs.length → ∀ s t, words vs i ++ s = words vs j ++ t → i = j ∧ s = t := by
  intro i
  induction i using Nat.strongRecOn with
  | _ i ih =>
    intro hi j hj s t e
    have hbi := begE_ok (h.begv hi)
    have hbj := begE_ok (h.begv hj)
    have hn5 := h.2.1
    have ne : ∀ {k}, k < vs.length → (getV vs k).r ≠ 0 → (kids (getV vs k)).map (words vs) ≠ [] := fun hk hr e => by
      have := h.own_kid hk hr
      rw [List.map_eq_nil_iff] at e
      rw [e] at this; cases this
    by_cases hri : (getV vs i).r = 0
    · rw [words_zero hri] at e
      by_cases hrj : (getV vs j).r = 0
      · rw [words_zero hrj] at e
        simp only [List.cons_append, List.nil_append, List.cons.injEq, true_and] at e
        obtain ⟨e1, e2, e3⟩ := e
        have p := dgt_inj ⟨by omega, by omega⟩ ⟨by omega, by omega⟩ e1
        have q := dgt_inj ⟨(hbi.2.2.2.2.1 hri).1, by have := (hbi.2.2.2.2.1 hri).2; omega⟩ ⟨(hbj.2.2.2.2.1 hrj).1, by have := (hbj.2.2.2.2.1 hrj).2; omega⟩ e2
        refine ⟨h.nodup hi hj (vw_ext p (by rw [hri, hrj]) q fun k hk => ?_), e3⟩
        have a1 : (getV vs i).h k = -1 := by
          rcases Decidable.em ((getV vs i).h k = -1) with h1 | h1
          · exact h1
          · exact absurd hri (hbi.2.2.2.2.2.2 k hk h1).1
        have a2 : (getV vs j).h k = -1 := by
          rcases Decidable.em ((getV vs j).h k = -1) with h1 | h1
          · exact h1
          · exact absurd hrj (hbj.2.2.2.2.2.2 k hk h1).1
        rw [a1, a2]
      · rw [words_later h.acyc hj hrj] at e
        obtain ⟨u, hu⟩ := sep_head (s := 40) (ne hj hrj)
        rw [hu] at e
        simp only [List.cons_append, List.cons.injEq] at e
        exact absurd e.2.1 (by decide)
    · rw [words_later h.acyc hi hri] at e
      by_cases hrj : (getV vs j).r = 0
      · rw [words_zero hrj] at e
        obtain ⟨u, hu⟩ := sep_head (s := 40) (ne hi hri)
        rw [hu] at e
        simp only [List.cons_append, List.cons.injEq] at e
        exact absurd e.2.1 (by decide)
      · rw [words_later h.acyc hj hrj] at e
        simp only [List.cons_append, List.append_assoc, List.cons.injEq, List.nil_append] at e
        obtain ⟨e1, e2⟩ := e
        have p := dgt_inj ⟨by omega, by omega⟩ ⟨by omega, by omega⟩ e1
        obtain ⟨hk, hs⟩ := sep_inj _ _ 40 s t (by decide) (fun x hx y hy s t e => by
          have kx := h.kid hi hx
          have ky := h.kid hj hy
          exact ih x kx.1 (by omega) y (by omega) s t e) e2
        exact ⟨row_det h hi hj hri hrj p hk, hs⟩
theorem words_ne {n : Int} {vs : List Vw} (h : Wf n vs) {i j : Nat} (hi : i < vs.length) (hj : j < vs.length) (e : words vs i = words vs j) : i = j :=
  (words_inj h i hi j hj [] [] (by rw [e])).1
theorem words_pos {n : Int} {vs : List Vw} (h : Wf n vs) {i : Nat} (hi : i < vs.length) : words vs i ≠ [] := by
  by_cases hr : (getV vs i).r = 0
  · rw [words_zero hr]; simp
  · rw [words_later h.acyc hi hr]; simp
/-- At the loop's head of the reference: the sign, then the first texts. -/
def opn (l : List (List UInt8)) : List UInt8 := if l = [] then [40] else sep 40 l
theorem opn_snoc (l : List (List UInt8)) (x : List UInt8) : opn (l ++ [x]) = opn l ++ (if l = [] then x else 44 :: x) := by
  unfold opn
  rw [if_neg (by simp), sep_snoc]
  by_cases h : l = [] <;> simp [h, sep]
end Go.Proofs.YtdfnmapmnmecnaaDoor
