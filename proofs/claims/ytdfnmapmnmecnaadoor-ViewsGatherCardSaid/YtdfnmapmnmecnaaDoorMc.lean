/- Part RefC. Part Asc. Part RefE. Part Small. Part Veq. Part RefB. What each part says stands at its head; no part has a condition beyond its own statements. -/
import Derived.Test.YtdfnmapmnmecnaaDoorProg
import Derived.Test.YtdfnmapmnmecnaaDoorMb
import Derived.Deep.QuietTactic
import Derived.BigQuiet
import Derived.Deep.RegionHeld3
import Derived.StillTactics
import Derived.Laws.Pointers
import Derived.Deep.DeepCutAuto
import Derived.Laws.StructEq

/- ref22.Heard, Union. -/
namespace Go.Proofs.YtdfnmapmnmecnaaDoor
open Go.RowKit

set_option maxRecDepth 100000 in
set_option maxHeartbeats 1000000 in
theorem rheard_any (n : Nat) (S : Value) (v : Vw) (w : World) (hn : n ≤ 5) :
    Calls Tryd.prog 74 #[.agg #[.int .i64 n, S], .agg v.cells] w (RetInts ((heardTo v n).map (·.2)) w) := by
  have hch := v.cells_h
  go_enter Tryd.func74, Tryd.ntmps74
  unfold Vw.cells
  go_wp2
  refine wp_two ?_
  intro W0 b0 b1 hsz hB0
  go_loopw [5, 6] (fun o i wr => ∃ k : Nat, k ≤ n ∧ i = .int .i64 k ∧ Own wr W0.heap.size o ((heardTo v k).map (·.2)) ∧ Below W0.heap.size W0 wr) (fun _ i _ => n - (intOf i).toNat)
  case atStart => exact ⟨0, by omega, rfl, by have : heardTo v 0 = [] := by simp [heardTo]
                                              rw [this]; exact Own.nil _ _, Below.refl _ _⟩
  case round =>
    obtain ⟨k, hk, rfl, hown, hbl⟩ := hrel
    have d0 := blk_below b0 hbl (by omega)
    have d1 := blk_below b1 hbl (by omega)
    have t0 := blk_cell d0 0 rfl
    have t1 := blk_cell d1 1 rfl
    have hle : (heardTo v k).length ≤ 5 := by
      unfold heardTo; split
      · exact Nat.le_trans (List.length_filterMap_le _ _) (by simp; omega)
      · simp
    have HD := Lib.hid d0
    have HD1 := Lib.hid d1
    have HO := Lib.hid hown
    have HBL := Lib.hid hbl
    have H0 := Lib.hid hB0
    have HS := Lib.hid hsz
    clear d0 d1 b0 b1 hown hbl hB0 hsz
    by_cases hlt : k < n
    · by_cases hr : 0 < v.r
      · have hq := blk_cell HD1.out (3 + k) (hch k (by omega))
        by_cases h0 : 0 ≤ v.h k
        · have hy := Lib.hid (heardTo_yes hr h0)
          go_wp2_with (at_builtin; go_must (refine wpList_app1 rfl _ _ rfl W0.heap.size u5 _ (v.h k) rfl HO.out rfl (by simp; omega) HBL.out.size ?_); intro v' w1 hown1 hg1 hb1)
          go_roundw
          case rel => exact ⟨k + 1, by omega, by go_num, by rw [hy.out, List.map_append]; exact hown1, HBL.out.trans hb1⟩
          case measure => simp [intOf]; omega
        · have hn0 := Lib.hid (heardTo_no (v := v) (k := k) (fun h => h0 h.2))
          go_wp2
          go_roundw
          case rel => exact ⟨k + 1, by omega, by go_num, by rw [hn0.out]; exact HO.out, HBL.out⟩
          case measure => simp [intOf]; omega
      · have he : Hid ((heardTo v n).map (·.2) = (heardTo v k).map (·.2)) := by show (heardTo v n).map (·.2) = (heardTo v k).map (·.2); simp [heardTo, hr]
        go_wp2
        go_ret
        exact ⟨_, rfl, by rw [he.out]; exact HO.out.low (by have := HS.out; omega), H0.out.trans (HBL.out.mono (by have := HS.out; omega))⟩
    · obtain rfl : k = n := by omega
      go_wp2
      go_ret
      exact ⟨_, rfl, HO.out.low (by have := HS.out; omega), H0.out.trans (HBL.out.mono (by have := HS.out; omega))⟩
/-- The union of two ascending lists. -/
def unionF : Nat → List Int → List Int → List Int
  | 0, _, _ => []
  | _ + 1, [], [] => []
  | f + 1, x :: us, [] => x :: unionF f us []
  | f + 1, [], y :: bs => y :: unionF f [] bs
  | f + 1, x :: us, y :: bs => if x < y then x :: unionF f us (y :: bs) else if x = y then y :: unionF f us bs else y :: unionF f (x :: us) bs
def unionL (us bs : List Int) : List Int := unionF (us.length + bs.length) us bs
theorem unionF_fuel : ∀ (f g : Nat) (us bs : List Int), us.length + bs.length ≤ f → us.length + bs.length ≤ g → unionF f us bs = unionF g us bs := by
  intro f
  induction f with
  | zero =>
    intro g us bs hf hg
    have h1 : us = [] := List.eq_nil_of_length_eq_zero (by omega)
    have h2 : bs = [] := List.eq_nil_of_length_eq_zero (by omega)
    subst h1; subst h2
    cases g <;> rfl
  | succ f ih =>
    intro g us bs hf hg
    cases g with
    | zero =>
      have h1 : us = [] := List.eq_nil_of_length_eq_zero (by omega)
      have h2 : bs = [] := List.eq_nil_of_length_eq_zero (by omega)
      subst h1; subst h2; rfl
    | succ g =>
      cases us with
      | nil => cases bs with
        | nil => rfl
        | cons y bs => simp only [unionF]; rw [ih g [] bs (by first | omega | (simp; done) | (simp; omega) | (simp at *; omega)) (by first | omega | (simp; done) | (simp; omega) | (simp at *; omega))]
      | cons x us => cases bs with
        | nil => simp only [unionF]; rw [ih g us [] (by first | omega | (simp; done) | (simp; omega) | (simp at *; omega)) (by first | omega | (simp; done) | (simp; omega) | (simp at *; omega))]
        | cons y bs =>
          simp only [unionF]
          simp only [List.length_cons] at hf hg
          rw [ih g us (y :: bs) (by simp; omega) (by simp; omega), ih g us bs (by omega) (by omega), ih g (x :: us) bs (by simp; omega) (by simp; omega)]
theorem unionL_ax (x : Int) (us : List Int) : unionL (x :: us) [] = x :: unionL us [] := by simp [unionL, unionF]
theorem unionL_bx (y : Int) (bs : List Int) : unionL [] (y :: bs) = y :: unionL [] bs := by
  simp only [unionL, List.length_nil, List.length_cons, Nat.zero_add]; rfl
theorem unionL_lt {x y : Int} {us bs : List Int} (h : x < y) : unionL (x :: us) (y :: bs) = x :: unionL us (y :: bs) := by
  unfold unionL
  rw [show (x :: us).length + (y :: bs).length = (us.length + (y :: bs).length) + 1 from by simp; omega]
  simp only [unionF, h, if_true]
theorem unionL_eq {y : Int} {us bs : List Int} : unionL (y :: us) (y :: bs) = y :: unionL us bs := by
  unfold unionL
  rw [show (y :: us).length + (y :: bs).length = (us.length + bs.length + 1) + 1 from by simp; omega]
  simp only [unionF, Int.lt_irrefl, if_false, if_true]
  rw [unionF_fuel _ (us.length + bs.length) us bs (by omega) (by omega)]
theorem unionL_gt {x y : Int} {us bs : List Int} (h : ¬ x < y) (h' : x ≠ y) : unionL (x :: us) (y :: bs) = y :: unionL (x :: us) bs := by
  unfold unionL
  rw [show (x :: us).length + (y :: bs).length = ((x :: us).length + bs.length) + 1 from by simp; omega]
  simp only [unionF, h, h', if_false]

set_option maxRecDepth 100000 in
set_option maxHeartbeats 4000000 in
theorem union_any (A A' : Option Addr) (cap cap' : Nat) (xs ys : List Int) (w : World) (hA : IAt w w.heap.size A xs) (hA' : IAt w w.heap.size A' ys) (hc : xs.length ≤ cap) (hc' : ys.length ≤ cap') (hm : cap ≤ maxLen) (hm' : cap' ≤ maxLen) (hl : xs.length + ys.length ≤ 1000000) :
    Calls Tryd.prog 70 #[.slice A xs.length cap, .slice A' ys.length cap'] w (RetInts (unionL xs ys) w) := by
  unfold maxLen at hm hm'
  go_enter Tryd.func70, Tryd.ntmps70
  go_wp2
  go_loopw [0, 1, 5] (fun a b o wr => ∃ (us bs out : List Int) (P Q : Option Addr) (c d : Nat), a = .slice P us.length c ∧ b = .slice Q bs.length d ∧ us.length ≤ c ∧ bs.length ≤ d ∧ c ≤ 9223372036854775807 ∧ d ≤ 9223372036854775807 ∧ IAt wr w.heap.size P us ∧ IAt wr w.heap.size Q bs ∧ Own wr w.heap.size o out ∧
      Hid (out ++ unionL us bs = unionL xs ys) ∧ out.length + us.length + bs.length ≤ 1000000 ∧ Below w.heap.size w wr) (fun a b _ _ => (match a with | .slice _ n _ => n | _ => 0) + (match b with | .slice _ n _ => n | _ => 0))
  case atStart => exact ⟨xs, ys, [], A, A', cap, cap', rfl, rfl, hc, hc', by omega, by omega, hA, hA', Own.nil _ _, rfl, by simp; omega, Below.refl _ _⟩
  case round =>
    obtain ⟨us, bs, out, P, Q, c, d, rfl, rfl, hac, hbd, hcm, hdm, hP, hQ, hown, hres, hlen, hbl⟩ := hrel
    cases us with
    | nil =>
      cases bs with
      | nil =>
        go_wp2
        go_ret
        exact ⟨_, rfl, by have := hres.out; rw [← this]; simpa [unionL, unionF] using hown, hbl⟩
      | cons y bs =>
        obtain ⟨Q', dcut, hQ'⟩ := cut_one Q bs.length d (by simpa using hbd) (by unfold maxLen; omega)
        have hQn := Lib.hid (hQ' wr w.heap.size y bs rfl hQ)
        have hQ0 := Lib.hid hQ
        obtain ⟨b', off', rfl, hb', hd0⟩ := hQ.at_ 0 (by simp)
        have hbw' : b' < wr.heap.size := Nat.lt_of_lt_of_le hb' hbl.size
        have e0 : ((bs.length : Int) + 1 == 0) = false := by simp; omega
        simp only [List.length_cons, List.getElem_cons_zero, Nat.add_zero] at *
        have HO := Lib.hid hown
        have HBL := Lib.hid hbl
        have HR : Hid (out ++ [y] ++ unionL [] bs = unionL xs ys) := by show _ = _; have := hres.out; rw [unionL_bx] at this; simpa using this
        clear hQ hQ' hown hbl hres hP
        go_wp2
        go_quiet (fail)
        go_wp2
        go_quiet (fail)
        go_wp2
        go_region_held3 (fun w' => w'.cell? ⟨b', off', none⟩ = some (.int .i64 y))
          (first | exact hd0 | (refine (World.cell?_alloc_lt _ _ _ ?_).trans hd0; exact hbw') | (rw [hb1.cell (p := ⟨b', off', none⟩) hb']; exact hd0))
          ((refine step_app1n rfl _ _ rfl w.heap.size u5 _ y rfl (HO.out.drewN _) rfl (by omega) HBL.out.size ?_; intro v' w1 hown1 hg1 hb1))
        go_wp2
        go_roundw
        case rel => exact ⟨[], bs, out ++ [y], _, _, _, _, rfl, rfl, by first | omega | (simp; done) | (simp; omega) | (simp at *; omega), by first | omega | (simp; done) | (simp; omega) | (simp at *; omega), by omega, by omega, IAt.nil _ _ _, hQn.out.keep (belD hb1), hown1, HR, by first | omega | (simp; done) | (simp; omega) | (simp at *; omega), HBL.out.trans (belD hb1)⟩
        case measure => simp
    | cons x us =>
      cases bs with
      | nil =>
        obtain ⟨P', hcut, hP'⟩ := cut_one P us.length c (by simpa using hac) (by unfold maxLen; omega)
        have hPn := Lib.hid (hP' wr w.heap.size x us rfl hP)
        have hP0 := Lib.hid hP
        obtain ⟨b, off, rfl, hb, hc0⟩ := hP.at_ 0 (by simp)
        have hbw : b < wr.heap.size := Nat.lt_of_lt_of_le hb hbl.size
        simp only [List.length_cons, List.getElem_cons_zero, Nat.add_zero] at *
        have HO := Lib.hid hown
        have HBL := Lib.hid hbl
        have HR : Hid (out ++ [x] ++ unionL us [] = unionL xs ys) := by show _ = _; have := hres.out; rw [unionL_ax] at this; simpa using this
        clear hP hP' hown hbl hres hQ
        go_wp2
        go_quiet (fail)
        go_wp2
        go_region_held3 (fun w' => w'.cell? ⟨b, off, none⟩ = some (.int .i64 x))
          (first | exact hc0 | (refine (World.cell?_alloc_lt _ _ _ ?_).trans hc0; exact hbw) | (rw [hb1.cell (p := ⟨b, off, none⟩) hb]; exact hc0))
          ((refine step_app1n rfl _ _ rfl w.heap.size u5 _ x rfl (HO.out.drewN _) rfl (by omega) HBL.out.size ?_; intro v' w1 hown1 hg1 hb1))
        go_wp2
        go_roundw
        case rel => exact ⟨us, [], out ++ [x], _, _, _, _, rfl, rfl, by first | omega | (simp; done) | (simp; omega) | (simp at *; omega), by first | omega | (simp; done) | (simp; omega) | (simp at *; omega), by omega, by omega, hPn.out.keep (belD hb1), IAt.nil _ _ _, hown1, HR, by first | omega | (simp; done) | (simp; omega) | (simp at *; omega), HBL.out.trans (belD hb1)⟩
        case measure => simp
      | cons y bs =>
        obtain ⟨P', hcut, hP'⟩ := cut_one P us.length c (by simpa using hac) (by unfold maxLen; omega)
        have hPn := Lib.hid (hP' wr w.heap.size x us rfl hP)
        have hP0 := Lib.hid hP
        obtain ⟨b, off, rfl, hb, hc0⟩ := hP.at_ 0 (by simp)
        have hbw : b < wr.heap.size := Nat.lt_of_lt_of_le hb hbl.size
        obtain ⟨Q', dcut, hQ'⟩ := cut_one Q bs.length d (by simpa using hbd) (by unfold maxLen; omega)
        have hQn := Lib.hid (hQ' wr w.heap.size y bs rfl hQ)
        have hQ0 := Lib.hid hQ
        obtain ⟨b', off', rfl, hb', hd0⟩ := hQ.at_ 0 (by simp)
        have hbw' : b' < wr.heap.size := Nat.lt_of_lt_of_le hb' hbl.size
        have e0 : ((bs.length : Int) + 1 == 0) = false := by simp; omega
        simp only [List.length_cons, List.getElem_cons_zero, Nat.add_zero] at *
        have HO := Lib.hid hown
        have HBL := Lib.hid hbl
        clear hP hP' hQ hQ' hown hbl
        by_cases hlt : x < y
        · have HR : Hid (out ++ [x] ++ unionL us (y :: bs) = unionL xs ys) := by show _ = _; have := hres.out; rw [unionL_lt hlt] at this; simpa using this
          clear hres
          go_wp2
          go_quiet (fail)
          go_wp2
          go_region_held3 (fun w' => w'.cell? ⟨b, off, none⟩ = some (.int .i64 x))
            (first | exact hc0 | (refine (World.cell?_alloc_lt _ _ _ ?_).trans hc0; exact hbw) | (rw [hb1.cell (p := ⟨b, off, none⟩) hb]; exact hc0))
            ((refine step_app1n rfl _ _ rfl w.heap.size u5 _ x rfl (HO.out.drewN _) rfl (by omega) HBL.out.size ?_; intro v' w1 hown1 hg1 hb1))
          go_wp2
          go_roundw
          case rel => exact ⟨us, y :: bs, out ++ [x], _, _, _, _, rfl, rfl, by first | omega | (simp; done) | (simp; omega) | (simp at *; omega), by first | omega | (simp; done) | (simp; omega) | (simp at *; omega), by omega, by omega, hPn.out.keep (belD hb1), hQ0.out.keep (belD hb1), hown1, HR, by first | omega | (simp; done) | (simp; omega) | (simp at *; omega), HBL.out.trans (belD hb1)⟩
          case measure => simp
        · by_cases heq : x = y
          · have e1 : (x == y) = true := by simp [heq]
            have HR : Hid (out ++ [y] ++ unionL us bs = unionL xs ys) := by show _ = _; have := hres.out; rw [heq, unionL_eq] at this; simpa using this
            have HE := Lib.hid heq
            clear hres heq
            go_wp2
            go_quiet (fail)
            go_wp2
            go_quiet (fail)
            go_wp2
            go_region_held3 (fun w' => w'.cell? ⟨b', off', none⟩ = some (.int .i64 y))
          (first | exact hd0 | (refine (World.cell?_alloc_lt _ _ _ ?_).trans hd0; exact hbw') | (rw [hb1.cell (p := ⟨b', off', none⟩) hb']; exact hd0))
          ((refine step_app1n rfl _ _ rfl w.heap.size u5 _ y rfl (HO.out.drewN _) rfl (by omega) HBL.out.size ?_; intro v' w1 hown1 hg1 hb1))
            go_wp2
            go_roundw
            case rel => exact ⟨us, bs, out ++ [y], _, _, _, _, rfl, rfl, by first | omega | (simp; done) | (simp; omega) | (simp at *; omega), by first | omega | (simp; done) | (simp; omega) | (simp at *; omega), by omega, by omega, hPn.out.keep (belD hb1), hQn.out.keep (belD hb1), hown1, HR, by first | omega | (simp; done) | (simp; omega) | (simp at *; omega), HBL.out.trans (belD hb1)⟩
            case measure => simp; omega
          · have e1 : (x == y) = false := by simp [heq]
            have HR : Hid (out ++ [y] ++ unionL (x :: us) bs = unionL xs ys) := by show _ = _; have := hres.out; rw [unionL_gt hlt heq] at this; simpa using this
            clear hres heq
            go_wp2
            go_quiet (fail)
            go_wp2
            go_quiet (fail)
            go_wp2
            go_region_held3 (fun w' => w'.cell? ⟨b', off', none⟩ = some (.int .i64 y))
          (first | exact hd0 | (refine (World.cell?_alloc_lt _ _ _ ?_).trans hd0; exact hbw') | (rw [hb1.cell (p := ⟨b', off', none⟩) hb']; exact hd0))
          ((refine step_app1n rfl _ _ rfl w.heap.size u5 _ y rfl (HO.out.drewN _) rfl (by omega) HBL.out.size ?_; intro v' w1 hown1 hg1 hb1))
            go_wp2
            go_roundw
            case rel => exact ⟨x :: us, bs, out ++ [y], _, _, _, _, rfl, rfl, by first | omega | (simp; done) | (simp; omega) | (simp at *; omega), by first | omega | (simp; done) | (simp; omega) | (simp at *; omega), by omega, by omega, hP0.out.keep (belD hb1), hQn.out.keep (belD hb1), hown1, HR, by first | omega | (simp; done) | (simp; omega) | (simp at *; omega), HBL.out.trans (belD hb1)⟩
            case measure => simp
end Go.Proofs.YtdfnmapmnmecnaaDoor

/- Ascending lists of indices, and their union. No program in sight. -/
namespace Go.Proofs.YtdfnmapmnmecnaaDoor

def ascN (n : Nat) (p : Nat → Bool) : List Nat := (List.range n).filter p
def castL (l : List Nat) : List Int := l.map fun k : Nat => (k : Int)
def asc (n : Nat) (p : Nat → Bool) : List Int := castL (ascN n p)

theorem mem_castL {l : List Nat} {k : Nat} : ((k : Int) ∈ castL l) ↔ k ∈ l := by
  unfold castL
  rw [List.mem_map]
  constructor
  · rintro ⟨a, ha, e⟩
    have : a = k := by omega
    subst this; exact ha
  · intro h; exact ⟨k, h, rfl⟩
theorem asc_sorted (n : Nat) (p : Nat → Bool) : (asc n p).Pairwise (· < ·) := by
  unfold asc castL ascN
  rw [List.pairwise_map]
  exact ((List.pairwise_lt_range (n := n)).filter p).imp fun h => by omega
theorem mem_asc {n : Nat} {p : Nat → Bool} {x : Int} : x ∈ asc n p ↔ ∃ k : Nat, x = k ∧ k < n ∧ p k = true := by
  unfold asc castL ascN
  rw [List.mem_map]
  constructor
  · rintro ⟨k, hk, rfl⟩
    rw [List.mem_filter, List.mem_range] at hk
    exact ⟨k, rfl, hk.1, hk.2⟩
  · rintro ⟨k, rfl, h1, h2⟩
    exact ⟨k, by rw [List.mem_filter, List.mem_range]; exact ⟨h1, h2⟩, rfl⟩
theorem asc_length (n : Nat) (p : Nat → Bool) : (asc n p).length ≤ n := by
  unfold asc castL ascN
  rw [List.length_map]
  exact Nat.le_trans (List.length_filter_le _ _) (by simp)
theorem castL_length (l : List Nat) : (castL l).length = l.length := by simp [castL]

theorem sorted_ext : ∀ {us vs : List Int}, us.Pairwise (· < ·) → vs.Pairwise (· < ·) → (∀ x, x ∈ us ↔ x ∈ vs) → us = vs
  | [], [], _, _, _ => rfl
  | [], v :: vs, _, _, h => absurd ((h v).2 (by simp)) (by simp)
  | u :: us, [], _, _, h => absurd ((h u).1 (by simp)) (by simp)
  | u :: us, v :: vs, hu, hv, h => by
    obtain ⟨hu1, hu2⟩ := List.pairwise_cons.1 hu
    obtain ⟨hv1, hv2⟩ := List.pairwise_cons.1 hv
    have e : u = v := by
      have h1 := (h u).1 (by simp)
      have h2 := (h v).2 (by simp)
      rcases List.mem_cons.1 h1 with h1 | h1
      · exact h1
      · rcases List.mem_cons.1 h2 with h2 | h2
        · exact h2.symm
        · have := hv1 u h1
          have := hu1 v h2
          omega
    subst e
    congr 1
    refine sorted_ext hu2 hv2 fun x => ?_
    have := h x
    simp only [List.mem_cons] at this
    constructor
    · intro hx
      rcases this.1 (.inr hx) with e | e
      · subst e; exact absurd (hu1 x hx) (by omega)
      · exact e
    · intro hx
      rcases this.2 (.inr hx) with e | e
      · subst e; exact absurd (hv1 x hx) (by omega)
      · exact e

theorem unionF_mem : ∀ (f : Nat) (us vs : List Int), us.length + vs.length ≤ f → ∀ x, x ∈ unionF f us vs ↔ x ∈ us ∨ x ∈ vs := by
  intro f
  induction f with
  | zero =>
    intro us vs h x
    have h1 : us = [] := List.eq_nil_of_length_eq_zero (by omega)
    have h2 : vs = [] := List.eq_nil_of_length_eq_zero (by omega)
    subst h1; subst h2; simp [unionF]
  | succ f ih =>
    intro us vs h x
    cases us with
    | nil => cases vs with
      | nil => simp [unionF]
      | cons v vs => simp only [unionF, List.mem_cons, ih [] vs (by simp at *; omega) x]; simp
    | cons u us => cases vs with
      | nil => simp only [unionF, List.mem_cons, ih us [] (by simp at *; omega) x]; simp
      | cons v vs =>
        simp only [List.length_cons] at h
        simp only [unionF]
        split
        · simp only [List.mem_cons, ih us (v :: vs) (by simp; omega) x]
          constructor
          · rintro (hx | hx | (hx | hx)) <;> simp [hx]
          · rintro ((hx | hx) | (hx | hx)) <;> simp [hx]
        · split
          · rename_i e; subst e
            simp only [List.mem_cons, ih us vs (by omega) x]
            constructor
            · rintro (hx | hx | hx) <;> simp [hx]
            · rintro ((hx | hx) | (hx | hx)) <;> simp [hx]
          · simp only [List.mem_cons, ih (u :: us) vs (by simp; omega) x]
            constructor
            · rintro (hx | (hx | hx) | hx) <;> simp [hx]
            · rintro ((hx | hx) | (hx | hx)) <;> simp [hx]
theorem unionF_sorted : ∀ (f : Nat) (us vs : List Int), us.length + vs.length ≤ f → us.Pairwise (· < ·) → vs.Pairwise (· < ·) → (unionF f us vs).Pairwise (· < ·) := by
  intro f
  induction f with
  | zero => intro us vs _ _ _; simp [unionF]
  | succ f ih =>
    intro us vs h hu hv
    cases us with
    | nil => cases vs with
      | nil => simp [unionF]
      | cons v vs =>
        obtain ⟨hv1, hv2⟩ := List.pairwise_cons.1 hv
        simp only [unionF]
        refine List.pairwise_cons.2 ⟨fun x hx => ?_, ih [] vs (by simp at *; omega) hu hv2⟩
        rw [unionF_mem f [] vs (by simp at *; omega)] at hx
        exact hv1 x (by simpa using hx)
    | cons u us => cases vs with
      | nil =>
        obtain ⟨hu1, hu2⟩ := List.pairwise_cons.1 hu
        simp only [unionF]
        refine List.pairwise_cons.2 ⟨fun x hx => ?_, ih us [] (by simp at *; omega) hu2 hv⟩
        rw [unionF_mem f us [] (by simp at *; omega)] at hx
        exact hu1 x (by simpa using hx)
      | cons v vs =>
        obtain ⟨hu1, hu2⟩ := List.pairwise_cons.1 hu
        obtain ⟨hv1, hv2⟩ := List.pairwise_cons.1 hv
        simp only [List.length_cons] at h
        simp only [unionF]
        split
        · rename_i hlt
          refine List.pairwise_cons.2 ⟨fun x hx => ?_, ih us (v :: vs) (by simp; omega) hu2 hv⟩
          rw [unionF_mem f us (v :: vs) (by simp; omega)] at hx
          rcases hx with hx | hx
          · exact hu1 x hx
          · rcases List.mem_cons.1 hx with hx | hx
            · omega
            · have := hv1 x hx; omega
        · split
          · rename_i hne e; subst e
            refine List.pairwise_cons.2 ⟨fun x hx => ?_, ih us vs (by omega) hu2 hv2⟩
            rw [unionF_mem f us vs (by omega)] at hx
            rcases hx with hx | hx
            · exact hu1 x hx
            · exact hv1 x hx
          · rename_i h1 h2
            refine List.pairwise_cons.2 ⟨fun x hx => ?_, ih (u :: us) vs (by simp; omega) hu hv2⟩
            rw [unionF_mem f (u :: us) vs (by simp; omega)] at hx
            rcases hx with hx | hx
            · rcases List.mem_cons.1 hx with hx | hx
              · omega
              · have := hu1 x hx; omega
            · exact hv1 x hx

theorem union_asc (n : Nat) (p q : Nat → Bool) : unionL (asc n p) (asc n q) = asc n fun x => p x || q x := by
  refine sorted_ext (unionF_sorted _ _ _ (Nat.le_refl _) (asc_sorted n p) (asc_sorted n q)) (asc_sorted n _) fun x => ?_
  unfold unionL
  rw [unionF_mem _ _ _ (Nat.le_refl _), mem_asc, mem_asc, mem_asc]
  constructor
  · rintro (⟨k, rfl, h1, h2⟩ | ⟨k, rfl, h1, h2⟩)
    · exact ⟨k, rfl, h1, by simp [h2]⟩
    · exact ⟨k, rfl, h1, by simp [h2]⟩
  · rintro ⟨k, rfl, h1, h2⟩
    simp only [Bool.or_eq_true] at h2
    rcases h2 with h2 | h2
    · exact .inl ⟨k, rfl, h1, h2⟩
    · exact .inr ⟨k, rfl, h1, h2⟩
theorem asc_none (n : Nat) : asc n (fun _ => false) = [] := by simp [asc, castL, ascN]
theorem asc_one {n i : Nat} (h : i < n) : asc n (fun x => x == i) = [(i : Int)] := by
  refine sorted_ext (asc_sorted n _) (by simp) fun x => ?_
  rw [mem_asc]
  simp only [beq_iff_eq, List.mem_singleton]
  constructor
  · rintro ⟨k, rfl, _, rfl⟩; rfl
  · rintro rfl; exact ⟨i, rfl, h, rfl⟩
theorem castL_pastL (vs : List Vw) (l : List Nat) : castL (pastL vs l) = asc vs.length fun x => l.any fun c => reach vs c x := rfl
/-- The past of a view: of those that it heard, and itself. -/
theorem past_self {vs : List Vw} (ha : Acyc vs) {i : Nat} (hi : i < vs.length) :
    unionL (castL (pastL vs (kids (getV vs i)))) [(i : Int)] = castL (pastL vs [i]) := by
  rw [← asc_one hi, castL_pastL, castL_pastL, union_asc]
  congr 1
  funext x
  rw [Bool.eq_iff_iff]
  simp only [Bool.or_eq_true, List.any_eq_true, beq_iff_eq, List.any_cons, List.any_nil, Bool.or_false, reach_iff ha hi]
  constructor
  · rintro (h | h)
    · exact .inr h
    · exact .inl h
  · rintro (h | h)
    · exact .inr h
    · exact .inl h
theorem past_snoc (vs : List Vw) (l : List Nat) (c : Nat) : unionL (castL (pastL vs l)) (castL (pastL vs [c])) = castL (pastL vs (l ++ [c])) := by
  rw [castL_pastL, castL_pastL, castL_pastL, union_asc]
  congr 1
  funext x
  simp
theorem past_len (vs : List Vw) (l : List Nat) : (castL (pastL vs l)).length ≤ vs.length := asc_length _ _
end Go.Proofs.YtdfnmapmnmecnaaDoor

/- ref22.before, Contained: the past of a view. -/
namespace Go.Proofs.YtdfnmapmnmecnaaDoor
open Go.RowKit

/-- A table argument: its rows lie below the heap's end. -/
structure TArg (w : World) (A : Option Addr) (cap : Nat) (vs : List Vw) : Prop where
  rows : VAt w w.heap.size A vs
  lec : vs.length ≤ cap
  lem : cap ≤ maxLen
  few : vs.length ≤ 100000

theorem TArg.keep {w w' : World} {A : Option Addr} {cap : Nat} {vs : List Vw} (h : TArg w A cap vs) (hb : Below w.heap.size w w') : TArg w' A cap vs :=
  ⟨(h.rows.keep hb).more hb.size, h.lec, h.lem, h.few⟩

/-- Ten cells, carried over a step that keeps what lay. -/
theorem keep10 {W0 X : World} {B g b o0 o1 o2 o3 o4 o5 o6 o7 : Nat} {u0 u1 u2 u3 u4 u5 u6 u7 u8 u9 : Value} (hb : Below B W0 X) (hg : g < B) (hbb : b < B)
    (h : W0.cell? ⟨g, 0, none⟩ = some u0 ∧ W0.cell? ⟨g, 1, none⟩ = some u1 ∧ W0.cell? ⟨b, o0, none⟩ = some u2 ∧ W0.cell? ⟨b, o1, none⟩ = some u3 ∧ W0.cell? ⟨b, o2, none⟩ = some u4 ∧
      W0.cell? ⟨b, o3, none⟩ = some u5 ∧ W0.cell? ⟨b, o4, none⟩ = some u6 ∧ W0.cell? ⟨b, o5, none⟩ = some u7 ∧ W0.cell? ⟨b, o6, none⟩ = some u8 ∧ W0.cell? ⟨b, o7, none⟩ = some u9) :
    X.cell? ⟨g, 0, none⟩ = some u0 ∧ X.cell? ⟨g, 1, none⟩ = some u1 ∧ X.cell? ⟨b, o0, none⟩ = some u2 ∧ X.cell? ⟨b, o1, none⟩ = some u3 ∧ X.cell? ⟨b, o2, none⟩ = some u4 ∧
      X.cell? ⟨b, o3, none⟩ = some u5 ∧ X.cell? ⟨b, o4, none⟩ = some u6 ∧ X.cell? ⟨b, o5, none⟩ = some u7 ∧ X.cell? ⟨b, o6, none⟩ = some u8 ∧ X.cell? ⟨b, o7, none⟩ = some u9 := by
  obtain ⟨h0, h1, h2, h3, h4, h5, h6, h7, h8, h9⟩ := h
  exact ⟨(hb.cell hg).trans h0, (hb.cell hg).trans h1, (hb.cell hbb).trans h2, (hb.cell hbb).trans h3, (hb.cell hbb).trans h4, (hb.cell hbb).trans h5, (hb.cell hbb).trans h6, (hb.cell hbb).trans h7, (hb.cell hbb).trans h8, (hb.cell hbb).trans h9⟩

theorem keep3 {W0 X : World} {B g b o0 : Nat} {u0 u1 u2 : Value} (hb : Below B W0 X) (hg : g < B) (hbb : b < B)
    (h : W0.cell? ⟨g, 0, none⟩ = some u0 ∧ W0.cell? ⟨g, 1, none⟩ = some u1 ∧ W0.cell? ⟨b, o0, none⟩ = some u2) :
    X.cell? ⟨g, 0, none⟩ = some u0 ∧ X.cell? ⟨g, 1, none⟩ = some u1 ∧ X.cell? ⟨b, o0, none⟩ = some u2 := by
  obtain ⟨h0, h1, h2⟩ := h
  exact ⟨(hb.cell hg).trans h0, (hb.cell hg).trans h1, (hb.cell hbb).trans h2⟩

def ContainedSaid (n : Nat) (vs : List Vw) (i : Nat) : Prop := ∀ (A : Option Addr) (cap : Nat) (w : World), TArg w A cap vs →
  Calls Tryd.prog 48 #[.agg #[.int .i64 n, .slice A vs.length cap], .int .i64 i] w (RetInts (castL (pastL vs [i])) w)

def BeforeSaid (n : Nat) (vs : List Vw) (v : Vw) : Prop := ∀ (A : Option Addr) (cap : Nat) (w : World), TArg w A cap vs →
  Calls Tryd.prog 68 #[.agg #[.int .i64 n, .slice A vs.length cap], .agg v.cells] w (RetInts (castL (pastL vs (kids v))) w)

theorem castL_kids (v : Vw) : castL (kids v) = (heardL v).map (·.2) := by
  unfold castL kids
  rw [List.map_map]
  refine List.map_congr_left fun x hx => ?_
  obtain ⟨_, q, _, rfl, h0⟩ := mem_heardL.1 hx
  simp
  omega

set_option maxRecDepth 100000 in
set_option maxHeartbeats 4000000 in
theorem contained_of (n : Nat) (vs : List Vw) (i : Nat) (hi : i < vs.length) (ha : Acyc vs) (hb : BeforeSaid n vs (getV vs i)) : ContainedSaid n vs i := by
  intro A cap w hT
  have HP := Lib.hid (past_self ha hi)
  rw [getV_eq hi] at HP hb
  have HBS := Lib.hid hb
  have HT := Lib.hid hT
  have hfew := hT.few
  clear hb hT
  go_enter Tryd.func48, Tryd.ntmps48
  go_upto_region 1 with fail
  go_cut [4] (fun s4 wx => Own wx w.heap.size s4 (castL (pastL vs [i])) ∧ Below w.heap.size w wx)
  case first =>
    refine wp_one ?_
    intro W0 b0 hsz hB0
    have hT0 := HT.out.keep hB0
    have t0 := blk_cell b0 0 rfl
    have t1 := blk_cell b0 1 rfl
    have hi0 : (0 : Int) ≤ (i : Int) := by omega
    have hi1 : (i : Int) < (vs.length : Int) := by omega
    obtain ⟨b, off, rfl, hb1, c0, c1, c2, c3, c4, c5, c6, c7⟩ := hT0.rows.row i hi
    have hTX : ∀ X : World, Below W0.heap.size W0 X → TArg X (some ⟨b, off, none⟩) cap vs := fun X hX => hT0.keep hX
    have HTX := Lib.hid hTX
    clear hTX hT0
    have hbw : w.heap.size < W0.heap.size := by omega
    clear hsz
    go_region_held3 (fun w' => w'.cell? ⟨w.heap.size, 0, none⟩ = some (.int .i64 n) ∧ w'.cell? ⟨w.heap.size, 1, none⟩ = some (.slice (some ⟨b, off, none⟩) vs.length cap) ∧
        w'.cell? ⟨b, off + i * 8, none⟩ = some (.int .i64 vs[i].p) ∧ w'.cell? ⟨b, off + i * 8 + 1, none⟩ = some (.int .i64 vs[i].r) ∧ w'.cell? ⟨b, off + i * 8 + 2, none⟩ = some (.int .i64 vs[i].i) ∧
        w'.cell? ⟨b, off + i * 8 + 3, none⟩ = some (.int .i64 vs[i].h0) ∧ w'.cell? ⟨b, off + i * 8 + 4, none⟩ = some (.int .i64 vs[i].h1) ∧ w'.cell? ⟨b, off + i * 8 + 5, none⟩ = some (.int .i64 vs[i].h2) ∧
        w'.cell? ⟨b, off + i * 8 + 6, none⟩ = some (.int .i64 vs[i].h3) ∧ w'.cell? ⟨b, off + i * 8 + 7, none⟩ = some (.int .i64 vs[i].h4))
      (first
        | exact ⟨t0, t1, c0, c1, c2, c3, c4, c5, c6, c7⟩
        | (refine keep10 (W0 := W0) (B := W0.heap.size) ?_ hbw hb1 ⟨t0, t1, c0, c1, c2, c3, c4, c5, c6, c7⟩
           first
             | exact (bel1 W0 _).drew
             | exact belU hb1'
             | exact (belU hb1').alloc (belU hb1').size _
             | exact ((belU hb1').alloc (belU hb1').size _).trans (hb2.mono (by have := (belU hb1').size; simp; omega))
             | exact (bel1 W0 _).trans ((belU hb1').mono (by simp))
             | exact ((bel1 W0 _).trans ((belU hb1').mono (by simp))).trans (hb2.mono (by have := (belU hb1').size; simp at this; omega))))
      (first
        | (go_at_call 68; refine (HBS.out _ _ _ (HTX.out _ (by repeat (first | exact Below.refl _ _ | refine Below.drew ?_ | refine belN ?_ _ | refine Below.alloc ?_ (by simp) _)))).mono ?_; rintro e w1 ⟨v1, rfl, ho1, hb1'⟩; obtain ⟨A1, c1', rfl, hle1, hm1, hi1'⟩ := ho1.form)
        | (go_at_call 70; refine (union_any _ _ _ _ (castL (pastL vs (kids vs[i]))) [(i : Int)] _ (by first | exact hi1'.up (bel1 _ _) | exact hi1') (by first | exact IAt.box _ _ _ | exact (IAt.box W0 _ _).up (belU hb1')) hle1 (Nat.le_refl 1) hm1 (by unfold maxLen; omega) (by rw [castL_pastL]; have := asc_length vs.length (fun x => (kids vs[i]).any fun c => reach vs c x); simp; omega)).mono ?_; rintro e w2 ⟨v2, rfl, ho2, hb2⟩))
    all_goals
      go_wp2_with fail
      go_meet
    · have hp := own_push ho2 hb2 ((hB0.trans ((belU hb1').mono (Nat.le_of_lt hbw))).alloc (by have := (belU hb1').size; omega) _)
      rw [HP.out] at hp
      exact hp
    · have hp := own_push ho2 hb2 (hB0.trans (((bel1 W0 _).trans ((belU hb1').mono (by simp))).mono (Nat.le_of_lt hbw)))
      rw [HP.out] at hp
      exact hp
  case rest =>
    obtain ⟨h1, h2⟩ := hcut
    go_wp2
    go_ret
    exact ⟨_, rfl, h1, h2⟩

set_option maxRecDepth 100000 in
set_option maxHeartbeats 4000000 in
theorem before_of (n : Nat) (hn : n ≤ 5) (vs : List Vw) (v : Vw) (_hk : ∀ c, c ∈ kids v → c < vs.length) (hh : heardTo v n = heardL v) (hc : ∀ c, c ∈ kids v → ContainedSaid n vs c) : BeforeSaid n vs v := by
  intro A cap w hT
  have HC := Lib.hid hc
  have HT := Lib.hid hT
  have hfew := hT.few
  have HH := Lib.hid hh
  have hk5 : (kids v).length ≤ 5 := by
    unfold kids heardL heardTo
    rw [List.length_map]
    split
    · exact Nat.le_trans (List.length_filterMap_le _ _) (by simp)
    · simp
  clear hc hT hh
  unfold Vw.cells
  go_enter Tryd.func68, Tryd.ntmps68
  go_wp2_with fail
  refine (rheard_any n (.slice A vs.length cap) v _ hn).mono ?_
  rintro e w1 ⟨v1, rfl, ho1, hb1⟩
  rw [HH.out, ← castL_kids] at ho1
  obtain ⟨A1, c1, rfl, hle1, hm1, hi1⟩ := ho1.form
  rw [castL_length]
  go_wp2_with fail
  obtain ⟨b0, b1, hsz, hB1⟩ := two_kept hb1
  have hO1 := Lib.hid ho1
  have hI1 := Lib.hid hi1
  clear ho1 hi1 hb1
  have hT1 := Lib.hid (HT.out.keep hB1)
  go_loopw [5, 7] (fun o i wr => ∃ k : Nat, k ≤ (kids v).length ∧ i = .int .i64 k ∧ Own wr w1.heap.size o (castL (pastL vs ((kids v).take k))) ∧ Below w1.heap.size w1 wr) (fun _ i _ => (kids v).length - (intOf i).toNat)
  case atStart => exact ⟨0, by omega, rfl, by rw [List.take_zero, show castL (pastL vs []) = [] from by simp [pastL, castL]]; exact Own.nil _ _, Below.refl _ _⟩
  case round =>
    obtain ⟨k, hk, rfl, hown, hbl⟩ := hrel
    have hO := Lib.hid hown
    have hBL := Lib.hid hbl
    by_cases hlt : k < (kids v).length
    · have d0 := blk_below b0 hbl (by omega)
      have t0 := blk_cell d0 0 rfl
      have t1 := blk_cell d0 1 rfl
      obtain ⟨b, off, rfl, hb1, c0⟩ := (hI1.out.up hbl).at_ k (by rw [castL_length]; exact hlt)
      obtain ⟨c, hce⟩ : ∃ c, c = (kids v)[k] := ⟨_, rfl⟩
      have hcv : (castL (kids v))[k]'(by rw [castL_length]; exact hlt) = (c : Int) := by simp [castL, hce]
      rw [hcv] at c0
      have hcm : c ∈ kids v := by rw [hce]; exact List.getElem_mem hlt
      have hkid := HC.out c hcm
      have HK := Lib.hid hkid
      have hTr := hT1.out.keep hbl
      have HTX : Hid (∀ X : World, Below wr.heap.size wr X → TArg X A cap vs) := fun X hX => hTr.keep hX
      have hsnoc : Hid (castL (pastL vs ((kids v).take (k + 1))) = unionL (castL (pastL vs ((kids v).take k))) (castL (pastL vs [c]))) := by
        show _ = _
        rw [List.take_succ_eq_append_getElem hlt, ← hce, past_snoc]
      have hk0 : (0 : Int) ≤ (k : Int) := by omega
      have hk1 : (k : Int) < ((kids v).length : Int) := by omega
      have hgw : w.heap.size < wr.heap.size := by have := hbl.size; omega
      obtain ⟨A5, c5, rfl, hle5, hm5, hi5⟩ := hown.form
      have HI5 := Lib.hid hi5
      have HO5 := Lib.hid hown
      clear hce hcv hkid hTr hown hbl hi5 hk hcm
      go_wp2_with fail
      go_region_held3 (fun w' => w'.cell? ⟨w.heap.size, 0, none⟩ = some (.int .i64 n) ∧ w'.cell? ⟨w.heap.size, 1, none⟩ = some (.slice A vs.length cap) ∧ w'.cell? ⟨b, off + k, none⟩ = some (.int .i64 c))
        (first
          | exact ⟨t0, t1, c0⟩
          | (refine keep3 (W0 := wr) (B := wr.heap.size) ?_ hgw hb1 ⟨t0, t1, c0⟩; first | exact belU hb1' | exact (belU hb1').trans (hb2.mono (belU hb1').size)))
        (first
          | (go_at_call 48; refine (HK.out _ _ _ (HTX.out _ (by repeat (first | exact Below.refl _ _ | refine Below.drew ?_ | refine belN ?_ _ | refine Below.alloc ?_ (by simp) _)))).mono ?_; rintro e w2 ⟨v2, rfl, ho2, hb1'⟩; obtain ⟨A2, c2, rfl, hle2, hm2, hi2⟩ := ho2.form)
          | (go_at_call 70; refine (union_any _ _ _ _ (castL (pastL vs ((kids v).take k))) (castL (pastL vs [c])) _ (HI5.out.up (belU hb1')) hi2 hle5 hle2 hm5 hm2 (by have := past_len vs ((kids v).take k); have := past_len vs [c]; omega)).mono ?_; rintro e w3 ⟨v3, rfl, ho3, hb2⟩))
      go_wp2_with fail
      have hp := own_push ho3 hb2 (hBL.out.trans ((belU hb1').mono hBL.out.size))
      rw [← hsnoc.out] at hp
      go_roundw
      case rel => exact ⟨k + 1, by omega, by go_num, hp.1, hp.2⟩
      case measure => simp [intOf]; omega
    · obtain rfl : k = (kids v).length := by omega
      rw [List.take_length] at hO
      go_wp2_with fail
      go_ret
      exact ⟨_, rfl, hO.out.low (by omega), hB1.trans (hBL.out.mono (by omega))⟩

theorem kids_lt {n : Nat} {vs : List Vw} {v : Vw} (h : checkE (n : Int) vs v = 0) (hn : n ≤ 5) : (∀ c, c ∈ kids v → c < vs.length) ∧ heardTo v n = heardL v := by
  refine ⟨fun c hc => (kid_ok h hc).1, ?_⟩
  have hb := begE_ok (checkE_ok h).1
  have key : ∀ m, n ≤ m → m ≤ 5 → heardTo v m = heardTo v n := by
    intro m
    induction m with
    | zero => intro h1 _; obtain rfl : n = 0 := by omega
              rfl
    | succ m ih =>
      intro h1 h2
      by_cases e : n = m + 1
      · subst e; rfl
      · rw [heardTo_no, ih (by omega) (by omega)]
        rintro ⟨_, h4⟩
        have := (hb.2.2.2.2.2.2 m (by omega) (by omega)).2
        omega
  exact (key 5 hn (Nat.le_refl 5)).symm

/-- The pasts of the views of a well-formed table. -/
theorem contained_any {n : Nat} {vs : List Vw} (h : Wf (n : Int) vs) : ∀ i, i < vs.length → ContainedSaid n vs i := by
  intro i
  induction i using Nat.strongRecOn with
  | _ i ih =>
    intro hi
    have hr := (rowE_ok (h.2.2 i hi)).1
    have hk := kids_lt hr (by have := h.2.1; omega)
    refine contained_of n vs i hi h.acyc (before_of n (by have := h.2.1; omega) vs _ (fun c hc => ?_) hk.2 (fun c hc => ?_))
    · have := hk.1 c hc; simp at this; omega
    · have := h.acyc i hi c hc
      exact ih c this (by omega)
theorem before_any {n : Nat} {vs : List Vw} (h : Wf (n : Int) vs) {v : Vw} (hk : ∀ c, c ∈ kids v → c < vs.length) (hh : heardTo v n = heardL v) : BeforeSaid n vs v :=
  before_of n (by have := h.2.1; omega) vs v hk hh fun c hc => contained_any h c (hk c hc)
end Go.Proofs.YtdfnmapmnmecnaaDoor

/- Small functions on one view: Procs, beginning, first. -/
namespace Go.Proofs.YtdfnmapmnmecnaaDoor
open Go.RowKit

def procsE (n : Int) : Int := if n < 1 ∨ 5 < n then 1 else 0

set_option maxHeartbeats 400000 in
theorem procs_any (n : Int) (w : World) : Calls Tryd.prog 58 #[.int .i64 n] w fun e w' => e = .returned (.int .i64 (procsE n)) ∧ w = w' := by
  have H : Hid (procsE n = if n < 1 ∨ 5 < n then 1 else 0) := rfl
  go_enter Tryd.func58, Tryd.ntmps58
  go_wp2
  all_goals
    go_ret
    refine ⟨ret_int ?_, rfl⟩
    rw [H.out]
    first | (rw [if_pos (by omega)]) | (rw [if_neg (by omega)])

theorem arr_index (v : Vw) (k : Nat) (hk : k < 5) (w : World) : (Instr.index 25 (.agg #[.int .i64 v.h0, .int .i64 v.h1, .int .i64 v.h2, .int .i64 v.h3, .int .i64 v.h4]) (.int .i64 (k : Int))).run Tryd.prog w = .ok (.int .i64 (v.h k)) w := by
  obtain rfl | rfl | rfl | rfl | rfl : k = 0 ∨ k = 1 ∨ k = 2 ∨ k = 3 ∨ k = 4 := by omega
  all_goals kernel_rfl

theorem begE_out {n : Int} {v : Vw} (h : v.p < 0 ∨ n ≤ v.p ∨ v.r < 0 ∨ 6 < v.r ∨ (v.r = 0 ∧ (v.i < 0 ∨ 8 ≤ v.i))) : begE n v = 2 := by
  unfold begE; rw [if_pos (by simpa [begOut] using h)]
theorem begE_form {n : Int} {v : Vw} (h : begOut n v = false) (h2 : 0 < v.r ∧ v.i ≠ 0) : begE n v = 3 := by
  unfold begE; rw [if_neg (by simp [h]), if_pos h2]
theorem begE_bad {n : Int} {v : Vw} (h : begOut n v = false) {k : Nat} (hk : k < 5) (h2 : begBad n v k = true) : begE n v = 3 := by
  unfold begE
  rw [if_neg (by simp [h])]
  split
  · rfl
  · rw [if_pos (List.any_eq_true.2 ⟨k, by simpa using hk, h2⟩)]
theorem begE_fine {n : Int} {v : Vw} (h : begOut n v = false) (h2 : ¬ (0 < v.r ∧ v.i ≠ 0)) (h3 : ∀ j, j < 5 → begBad n v j = false) : begE n v = 0 := by
  unfold begE
  rw [if_neg (by simp [h]), if_neg h2, if_neg (by
    rw [List.any_eq_true]
    rintro ⟨j, hj, hb⟩
    rw [h3 j (by simpa using hj)] at hb
    cases hb)]

set_option maxRecDepth 100000 in
set_option maxHeartbeats 1000000 in
theorem beginning_out (n : Int) (v : Vw) (w : World) (h1 : v.p < 0 ∨ n ≤ v.p ∨ v.r < 0 ∨ 6 < v.r ∨ (v.r = 0 ∧ (v.i < 0 ∨ 8 ≤ v.i))) :
    Calls Tryd.prog 63 #[.int .i64 n, .agg v.cells] w fun e w' => e = .returned (.int .i64 (begE n v)) ∧ Below w.heap.size w w' := by
  have H : Hid (begE n v = 2) := begE_out h1
  have HB := bel1 w
  unfold Vw.cells
  go_enter Tryd.func63, Tryd.ntmps63
  go_wp2
  all_goals (try (exfalso; omega))
  all_goals
    go_ret
    exact ⟨ret_int H.out.symm, HB _⟩
set_option maxRecDepth 100000 in
set_option maxHeartbeats 1000000 in
theorem beginning_zero (n : Int) (v : Vw) (w : World) (hp0 : 0 ≤ v.p) (hp1 : v.p < n) (_hr1 : v.r ≤ 6) (hr : v.r = 0) (hi0 : 0 ≤ v.i) (hi1 : v.i < 8) :
    Calls Tryd.prog 63 #[.int .i64 n, .agg v.cells] w fun e w' => e = .returned (.int .i64 (begE n v)) ∧ Below w.heap.size w w' := by
  have hout : Hid (begOut n v = false) := by show begOut n v = false; simp [begOut]; omega
  have HB := bel1 w
  have hr' : (v.r == 0) = true := by simp [hr]
  have hr0 : v.r ≤ 0 := by omega
  have hr00 : 0 ≤ v.r := by omega
  have HR := Lib.hid hr
  clear hr
  unfold Vw.cells
  go_enter Tryd.func63, Tryd.ntmps63
  go_wp2
  go_loop [49] (fun i => ∃ k : Nat, k ≤ 5 ∧ i = .int .i64 k ∧ Hid (∀ j : Nat, j < k → begBad n v j = false)) (fun i => 5 - (intOf i).toNat)
  case atStart => exact ⟨0, by omega, rfl, fun j hj => by omega⟩
  case round =>
    obtain ⟨k, hk, rfl, hall⟩ := hrel
    by_cases hlt : k < 5
    · have hix := arr_index v k hlt
      have hbk : Hid (begBad n v k = decide (v.h k ≠ -1 ∧ (v.r = 0 ∨ n ≤ (k : Int)))) := rfl
      by_cases hm : v.h k = -1
      · have hm' : (v.h k != -1) = false := by simp [hm]
        have HM := Lib.hid hm
        clear hm
        go_wp2
        go_round
        case rel =>
          refine ⟨k + 1, by omega, by go_num, fun j hj => ?_⟩
          by_cases e : j = k
          · subst e; rw [hbk.out]; simp [HM.out]
          · exact hall.out j (by omega)
        case measure => simp [intOf]; omega
      · have hm' : (v.h k != -1) = true := by simpa using hm
        have HM := Lib.hid hm
        clear hm
        go_wp2
        go_ret
        exact ⟨ret_int (begE_bad hout.out hlt (by rw [hbk.out]; simp; exact ⟨HM.out, Or.inl HR.out⟩)).symm, HB _⟩
    · obtain rfl : k = 5 := by omega
      go_wp2
      go_ret
      exact ⟨ret_int (begE_fine hout.out (by have := HR.out; omega) hall.out).symm, HB _⟩

set_option maxRecDepth 100000 in
set_option maxHeartbeats 1000000 in
theorem beginning_later (n : Int) (v : Vw) (w : World) (hp0 : 0 ≤ v.p) (hp1 : v.p < n) (hr1 : v.r ≤ 6) (hr : 0 < v.r) (hi : v.i = 0) :
    Calls Tryd.prog 63 #[.int .i64 n, .agg v.cells] w fun e w' => e = .returned (.int .i64 (begE n v)) ∧ Below w.heap.size w w' := by
  have hout : Hid (begOut n v = false) := by show begOut n v = false; simp [begOut]; omega
  have HB := bel1 w
  have hr' : (v.r == 0) = false := by simp; omega
  have hi' : (v.i != 0) = false := by simp [hi]
  have HI := Lib.hid hi
  clear hi
  unfold Vw.cells
  go_enter Tryd.func63, Tryd.ntmps63
  go_wp2
  go_loop [49] (fun i => ∃ k : Nat, k ≤ 5 ∧ i = .int .i64 k ∧ Hid (∀ j : Nat, j < k → begBad n v j = false)) (fun i => 5 - (intOf i).toNat)
  case atStart => exact ⟨0, by omega, rfl, fun j hj => by omega⟩
  case round =>
    obtain ⟨k, hk, rfl, hall⟩ := hrel
    by_cases hlt : k < 5
    · have hix := arr_index v k hlt
      have hbk : Hid (begBad n v k = decide (v.h k ≠ -1 ∧ (v.r = 0 ∨ n ≤ (k : Int)))) := rfl
      by_cases hm : v.h k = -1
      · have hm' : (v.h k != -1) = false := by simp [hm]
        have HM := Lib.hid hm
        clear hm
        go_wp2
        go_round
        case rel =>
          refine ⟨k + 1, by omega, by go_num, fun j hj => ?_⟩
          by_cases e : j = k
          · subst e; rw [hbk.out]; simp [HM.out]
          · exact hall.out j (by omega)
        case measure => simp [intOf]; omega
      · have hm' : (v.h k != -1) = true := by simpa using hm
        have HM := Lib.hid hm
        clear hm
        by_cases hq : n ≤ (k : Int)
        · go_wp2
          go_ret
          exact ⟨ret_int (begE_bad hout.out hlt (by rw [hbk.out]; simp; exact ⟨HM.out, by omega⟩)).symm, HB _⟩
        · go_wp2
          go_round
          case rel =>
            refine ⟨k + 1, by omega, by go_num, fun j hj => ?_⟩
            by_cases e : j = k
            · subst e; rw [hbk.out]; simp; intro _; omega
            · exact hall.out j (by omega)
          case measure => simp [intOf]; omega
    · obtain rfl : k = 5 := by omega
      go_wp2
      go_ret
      exact ⟨ret_int (begE_fine hout.out (by rw [HI.out]; simp) hall.out).symm, HB _⟩

set_option maxRecDepth 100000 in
set_option maxHeartbeats 1000000 in
theorem beginning_form (n : Int) (v : Vw) (w : World) (hp0 : 0 ≤ v.p) (hp1 : v.p < n) (hr1 : v.r ≤ 6) (hr : 0 < v.r) (hi : v.i ≠ 0) :
    Calls Tryd.prog 63 #[.int .i64 n, .agg v.cells] w fun e w' => e = .returned (.int .i64 (begE n v)) ∧ Below w.heap.size w w' := by
  have hout : begOut n v = false := by simp [begOut]; omega
  have H : Hid (begE n v = 3) := begE_form hout ⟨hr, hi⟩
  have HB := bel1 w
  have hr' : (v.r == 0) = false := by simp; omega
  have hi' : (v.i != 0) = true := by simpa using hi
  clear hout hi
  unfold Vw.cells
  go_enter Tryd.func63, Tryd.ntmps63
  go_wp2
  go_ret
  exact ⟨ret_int H.out.symm, HB _⟩

theorem beginning_any (n : Int) (v : Vw) (w : World) :
    Calls Tryd.prog 63 #[.int .i64 n, .agg v.cells] w fun e w' => e = .returned (.int .i64 (begE n v)) ∧ Below w.heap.size w w' := by
  by_cases h1 : v.p < 0 ∨ n ≤ v.p ∨ v.r < 0 ∨ 6 < v.r ∨ (v.r = 0 ∧ (v.i < 0 ∨ 8 ≤ v.i))
  · exact beginning_out n v w h1
  · by_cases hr : v.r = 0
    · exact beginning_zero n v w (by omega) (by omega) (by omega) hr (by omega) (by omega)
    · by_cases hi : v.i = 0
      · exact beginning_later n v w (by omega) (by omega) (by omega) (by omega) hi
      · exact beginning_form n v w (by omega) (by omega) (by omega) (by omega) hi
end Go.Proofs.YtdfnmapmnmecnaaDoor

/- '==' between two views. -/
namespace Go.Proofs.YtdfnmapmnmecnaaDoor
open Go.RowKit

theorem part_int (xs : Array Value) (i : Nat) (x : Value) (h : xs[i]? = some x) (w : World) : (part 3 xs i).run Tryd.prog w = .ok x w := by
  have hi : Tryd.prog.underlying 3 = some (.int .i64) := Tryd.underlying3
  unfold part isAgg
  simp [go_sem, run_underlying hi, h]

def hE (v u : Vw) : Bool := v.h0 == u.h0 && (v.h1 == u.h1 && (v.h2 == u.h2 && (v.h3 == u.h3 && v.h4 == u.h4)))
set_option maxHeartbeats 1000000 in
theorem eqlIn_arr (d : Nat) (v u : Vw) (w : World) : (Op.equalIn (d + 2) 25 (.agg #[.int .i64 v.h0, .int .i64 v.h1, .int .i64 v.h2, .int .i64 v.h3, .int .i64 v.h4]) (.agg #[.int .i64 u.h0, .int .i64 u.h1, .int .i64 u.h2, .int .i64 u.h3, .int .i64 u.h4])).run Tryd.prog w =
    .ok (hE v u) w := by
  have hu : Tryd.prog.underlying 25 = some (.array 5 3) := Tryd.underlying25
  have hi : Tryd.prog.underlying 3 = some (.int .i64) := Tryd.underlying3
  have hs : (sizeOf 3).run Tryd.prog w = .ok 1 w := by kernel_rfl
  have p0 := fun x0 x1 x2 x3 x4 => part_int #[x0, x1, x2, x3, x4] 0 x0 rfl w
  have p1 := fun x0 x1 x2 x3 x4 => part_int #[x0, x1, x2, x3, x4] 1 x1 rfl w
  have p2 := fun x0 x1 x2 x3 x4 => part_int #[x0, x1, x2, x3, x4] 2 x2 rfl w
  have p3 := fun x0 x1 x2 x3 x4 => part_int #[x0, x1, x2, x3, x4] 3 x3 rfl w
  have p4 := fun x0 x1 x2 x3 x4 => part_int #[x0, x1, x2, x3, x4] 4 x4 rfl w
  unfold Op.equalIn hE
  cases h0 : (v.h0 == u.h0)
  · simp only [Sem.run_bind, run_underlying hu, Result.andThen_ok, hs, Std.Legacy.Range.forIn_eq_forIn_range', Std.Legacy.Range.size, Nat.sub_zero, Nat.add_sub_cancel, Nat.div_one, show List.range' 0 5 1 = [0, 1, 2, 3, 4] from rfl, List.forIn_cons, List.forIn_nil, p0, Nat.mul_one, run_equalIn_int w d 3 _ _ _ _ hi, h0, Bool.not_false, if_true, Sem.run_pure, Bool.false_and]
  cases h1 : (v.h1 == u.h1)
  · simp only [Sem.run_bind, run_underlying hu, Result.andThen_ok, hs, Std.Legacy.Range.forIn_eq_forIn_range', Std.Legacy.Range.size, Nat.sub_zero, Nat.add_sub_cancel, Nat.div_one, show List.range' 0 5 1 = [0, 1, 2, 3, 4] from rfl, List.forIn_cons, List.forIn_nil, p0, p1, Nat.mul_one, run_equalIn_int w d 3 _ _ _ _ hi, h0, h1, Bool.not_false, Bool.not_true, if_true, Bool.false_eq_true, if_false, Sem.run_pure, Bool.true_and, Bool.false_and]
  cases h2 : (v.h2 == u.h2)
  · simp only [Sem.run_bind, run_underlying hu, Result.andThen_ok, hs, Std.Legacy.Range.forIn_eq_forIn_range', Std.Legacy.Range.size, Nat.sub_zero, Nat.add_sub_cancel, Nat.div_one, show List.range' 0 5 1 = [0, 1, 2, 3, 4] from rfl, List.forIn_cons, List.forIn_nil, p0, p1, p2, Nat.mul_one, run_equalIn_int w d 3 _ _ _ _ hi, h0, h1, h2, Bool.not_false, Bool.not_true, if_true, Bool.false_eq_true, if_false, Sem.run_pure, Bool.true_and, Bool.false_and]
  cases h3 : (v.h3 == u.h3)
  · simp only [Sem.run_bind, run_underlying hu, Result.andThen_ok, hs, Std.Legacy.Range.forIn_eq_forIn_range', Std.Legacy.Range.size, Nat.sub_zero, Nat.add_sub_cancel, Nat.div_one, show List.range' 0 5 1 = [0, 1, 2, 3, 4] from rfl, List.forIn_cons, List.forIn_nil, p0, p1, p2, p3, Nat.mul_one, run_equalIn_int w d 3 _ _ _ _ hi, h0, h1, h2, h3, Bool.not_false, Bool.not_true, if_true, Bool.false_eq_true, if_false, Sem.run_pure, Bool.true_and, Bool.false_and]
  cases h4 : (v.h4 == u.h4)
  · simp only [Sem.run_bind, run_underlying hu, Result.andThen_ok, hs, Std.Legacy.Range.forIn_eq_forIn_range', Std.Legacy.Range.size, Nat.sub_zero, Nat.add_sub_cancel, Nat.div_one, show List.range' 0 5 1 = [0, 1, 2, 3, 4] from rfl, List.forIn_cons, List.forIn_nil, p0, p1, p2, p3, p4, Nat.mul_one, run_equalIn_int w d 3 _ _ _ _ hi, h0, h1, h2, h3, h4, Bool.not_false, Bool.not_true, if_true, Bool.false_eq_true, if_false, Sem.run_pure, Bool.true_and]
  simp only [Sem.run_bind, run_underlying hu, Result.andThen_ok, hs, Std.Legacy.Range.forIn_eq_forIn_range', Std.Legacy.Range.size, Nat.sub_zero, Nat.add_sub_cancel, Nat.div_one, show List.range' 0 5 1 = [0, 1, 2, 3, 4] from rfl, List.forIn_cons, List.forIn_nil, p0, p1, p2, p3, p4, Nat.mul_one, run_equalIn_int w d 3 _ _ _ _ hi, h0, h1, h2, h3, h4, Bool.not_true, Bool.false_eq_true, if_false, Sem.run_pure, Bool.true_and]

set_option maxHeartbeats 1000000 in
theorem eqlIn_view (d : Nat) (v u : Vw) (w : World) : (Op.equalIn (d + 3) 27 (.agg v.cells) (.agg u.cells)).run Tryd.prog w = .ok (decide (v = u)) w := by
  have hu : Tryd.prog.underlying 27 = some (.struct (Tryd.prog.fieldsOf 27)) := by kernel_rfl
  have hi : Tryd.prog.underlying 3 = some (.int .i64) := Tryd.underlying3
  have hf : (Tryd.prog.fieldsOf 27).toList.map (fun f => (f.name, f.type, f.offset)) = [("Proc", 3, 0), ("Round", 3, 1), ("Input", 3, 2), ("Heard", 25, 3)] := by kernel_rfl
  rw [run_equalIn_struct w (d + 2) 27 _ _ hu (by kernel_rfl)]
  have p0 : ∀ x : Vw, (part 3 x.cells 0).run Tryd.prog w = .ok (.int .i64 x.p) w := fun x => part_int _ 0 _ rfl w
  have p1 : ∀ x : Vw, (part 3 x.cells 1).run Tryd.prog w = .ok (.int .i64 x.r) w := fun x => part_int _ 1 _ rfl w
  have p2 : ∀ x : Vw, (part 3 x.cells 2).run Tryd.prog w = .ok (.int .i64 x.i) w := fun x => part_int _ 2 _ rfl w
  have p3 : ∀ x : Vw, (part 25 x.cells 3).run Tryd.prog w = .ok (.agg #[.int .i64 x.h0, .int .i64 x.h1, .int .i64 x.h2, .int .i64 x.h3, .int .i64 x.h4]) w := fun x => by unfold Vw.cells; kernel_rfl
  generalize (Tryd.prog.fieldsOf 27).toList = fs at hf
  obtain ⟨f0, f1, f2, f3, rfl⟩ : ∃ f0 f1 f2 f3, fs = [f0, f1, f2, f3] := by
    have hl : fs.length = 4 := by simpa using congrArg List.length hf
    rcases fs with _ | ⟨f0, _ | ⟨f1, _ | ⟨f2, _ | ⟨f3, _ | ⟨f4, r⟩⟩⟩⟩⟩ <;> simp at hl
    exact ⟨_, _, _, _, rfl⟩
  · clear hu
    simp only [List.map_cons, List.map_nil, List.cons.injEq, Prod.mk.injEq, and_true] at hf
    obtain ⟨⟨n0, t0, o0⟩, ⟨n1, t1, o1⟩, ⟨n2, t2, o2⟩, ⟨n3, t3, o3⟩⟩ := hf
    have hd : decide (v = u) = (v.p == u.p && (v.r == u.r && (v.i == u.i && hE v u))) := by
      unfold hE
      obtain ⟨a0, a1, a2, a3, a4, a5, a6, a7⟩ := v
      obtain ⟨b0, b1, b2, b3, b4, b5, b6, b7⟩ := u
      rw [Bool.eq_iff_iff]
      simp
    rw [hd]
    cases h0 : (v.p == u.p) <;> cases h1 : (v.r == u.r) <;> cases h2 : (v.i == u.i) <;> cases h3 : hE v u <;>
      simp only [Op.eqFields, n0, n1, n2, n3, t0, t1, t2, t3, o0, o1, o2, o3, p0, p1, p2, p3, Sem.run_bind, Result.andThen_ok, run_equalIn_int w _ 3 _ _ _ _ hi, eqlIn_arr, h0, h1, h2, h3, ne_eq, not_false_eq_true, if_true, Bool.not_false, Bool.not_true, Bool.false_eq_true, if_false, Sem.run_pure, Bool.true_and, Bool.false_and, String.reduceEq]

theorem eql_view (v u : Vw) (w : World) : (binOp .eql 27 (.agg v.cells) (.agg u.cells)).run Tryd.prog w = .ok (.bool (decide (v = u))) w := by
  simp only [binOp]
  simp [Op.equal, Op.maxDepth, eqlIn_view 9997 v u w]
theorem neq_view (v u : Vw) (w : World) : (binOp .neq 27 (.agg v.cells) (.agg u.cells)).run Tryd.prog w = .ok (.bool (decide (v ≠ u))) w := by
  simp only [binOp]
  simp [Op.equal, Op.maxDepth, eqlIn_view 9997 v u w]
end Go.Proofs.YtdfnmapmnmecnaaDoor

/- ref22.Index, Same; ref04.SameInts. -/
namespace Go.Proofs.YtdfnmapmnmecnaaDoor
open Go.RowKit

def idxE (vs : List Vw) (v : Vw) : Int := if v ∈ vs then (vs.idxOf v : Int) else -1
theorem idxE_hit {vs : List Vw} {v : Vw} {k : Nat} (hk : k < vs.length) (hv : vs[k] = v) (hn : v ∉ vs.take k) : idxE vs v = k := by
  have hm : v ∈ vs := hv ▸ List.getElem_mem hk
  unfold idxE
  rw [if_pos hm]
  have h1 : vs = vs.take k ++ vs.drop k := (List.take_append_drop k vs).symm
  rw [h1, List.idxOf_append, if_neg hn]
  have h2 : vs.drop k = v :: vs.drop (k + 1) := by rw [← hv]; exact List.drop_eq_getElem_cons hk
  rw [h2, List.idxOf_cons_self]
  simp
  omega
theorem idxE_none {vs : List Vw} {v : Vw} (hn : v ∉ vs) : idxE vs v = -1 := by unfold idxE; rw [if_neg hn]
theorem not_mem_take {vs : List Vw} {v : Vw} {k : Nat} (hk : k < vs.length) (hv : vs[k] ≠ v) (hn : v ∉ vs.take k) : v ∉ vs.take (k + 1) := by
  rw [List.take_succ_eq_append_getElem hk, List.mem_append, not_or]
  exact ⟨hn, by simpa using fun e => hv e.symm⟩

set_option maxRecDepth 100000 in
set_option maxHeartbeats 1000000 in
theorem index_any (n : Int) (A : Option Addr) (cap : Nat) (vs : List Vw) (v : Vw) (w : World) (B : Nat) (hB : B ≤ w.heap.size) (hA : VAt w B A vs) (hl : vs.length ≤ 2199023255552) :
    Calls Tryd.prog 57 #[.agg #[.int .i64 n, .slice A vs.length cap], .agg v.cells] w fun e w' => e = .returned (.int .i64 (idxE vs v)) ∧ Below w.heap.size w w' := by
  have HB := bel2 w
  have HE : Hid (∀ k (hk : k < vs.length) (X : World), (binOp .eql 27 (.agg vs[k].cells) (.agg v.cells)).run Tryd.prog X = .ok (.bool (decide (vs[k] = v))) X) := fun k hk X => eql_view vs[k] v X
  unfold Vw.cells at HE ⊢
  go_enter Tryd.func57, Tryd.ntmps57
  go_wp2
  go_loopw [5] (fun i wr => ∃ k m : Nat, k ≤ vs.length ∧ i = .int .i64 k ∧ wr = ((w.alloc (.cells #[.int .i64 n, .slice A vs.length cap] 24)).alloc (.cells #[.int .i64 v.p, .int .i64 v.r, .int .i64 v.i, .int .i64 v.h0, .int .i64 v.h1, .int .i64 v.h2, .int .i64 v.h3, .int .i64 v.h4] 27)).drewN m ∧ Hid (v ∉ vs.take k)) (fun i _ => vs.length - (intOf i).toNat)
  case atStart => exact ⟨0, 0, by omega, rfl, rfl, by show v ∉ vs.take 0; simp⟩
  case round =>
    obtain ⟨k, m, hk, rfl, rfl, hall⟩ := hrel
    by_cases hlt : k < vs.length
    · obtain ⟨b, off, rfl, hb1, c0, c1, c2, c3, c4, c5, c6, c7⟩ := hA.row k hlt
      have hb2 : b < w.heap.size := by omega
      have heq := HE.out k hlt
      clear HE hA
      by_cases hv : vs[k] = v
      · have heq' : ∀ X : World, _ := fun X => (heq X).trans (by rw [decide_eq_true hv])
        have hz : Hid (idxE vs v = k) := idxE_hit hlt hv hall.out
        clear heq hv
        go_wp2
        go_quiet (fail)
        go_wp2
        go_ret
        exact ⟨ret_int hz.out.symm, by repeat (first | exact HB _ _ | refine belN ?_ _)⟩
      · have heq' : ∀ X : World, _ := fun X => (heq X).trans (by rw [decide_eq_false hv])
        have hz : Hid (v ∉ vs.take (k + 1)) := not_mem_take hlt hv hall.out
        clear heq hv
        go_wp2
        go_quiet (fail)
        go_wp2
        go_roundw
        case rel => exact ⟨k + 1, _, by omega, by go_num, rfl, hz⟩
        case measure => simp [intOf]; omega
    · have hz : Hid (idxE vs v = -1) := idxE_none (by have := hall.out; rwa [List.take_of_length_le (by omega)] at this)
      go_wp2
      go_ret
      exact ⟨ret_int hz.out.symm, by repeat (first | exact HB _ _ | refine belN ?_ _)⟩

theorem ne_of_take {α : Type} {vs us : List α} {k : Nat} (hk : k < vs.length) (hk' : k < us.length) (h : vs[k] ≠ us[k]) : vs ≠ us := by
  rintro rfl; exact h rfl
theorem eq_of_take {α : Type} {vs us : List α} (hl : vs.length = us.length) (h : vs.take vs.length = us.take vs.length) : vs = us := by
  rw [List.take_length] at h
  rw [h, hl, List.take_length]
theorem take_step {α : Type} {vs us : List α} {k : Nat} (hk : k < vs.length) (hk' : k < us.length) (h : vs.take k = us.take k) (he : vs[k] = us[k]) : vs.take (k + 1) = us.take (k + 1) := by
  rw [List.take_succ_eq_append_getElem hk, List.take_succ_eq_append_getElem hk', h, he]

set_option maxRecDepth 100000 in
set_option maxHeartbeats 1000000 in
theorem same_any (n n' : Int) (A A' : Option Addr) (cap cap' : Nat) (vs us : List Vw) (w : World) (B : Nat) (hB : B ≤ w.heap.size) (hA : VAt w B A vs) (hA' : VAt w B A' us) (hl : vs.length ≤ 2199023255552) (hl' : us.length ≤ 2199023255552) :
    Calls Tryd.prog 15 #[.agg #[.int .i64 n, .slice A vs.length cap], .agg #[.int .i64 n', .slice A' us.length cap']] w fun e w' => e = .returned (.bool (decide (n = n' ∧ vs = us))) ∧ Below w.heap.size w w' := by
  have HB := bel2 w
  have HE : Hid (∀ k (hk : k < vs.length) (hk' : k < us.length) (X : World), (binOp .neq 27 (.agg vs[k].cells) (.agg us[k].cells)).run Tryd.prog X = .ok (.bool (decide (vs[k] ≠ us[k]))) X) := fun k hk hk' X => neq_view vs[k] us[k] X
  unfold Vw.cells at HE
  by_cases hn : n = n'
  · by_cases hll : vs.length = us.length
    · have H : Hid (decide (n = n' ∧ vs = us) = decide (vs = us)) := by show decide (n = n' ∧ vs = us) = _; simp [hn]
      have HL := Lib.hid hll
      rw [H.out]
      have hn1 : (n != n') = false := by simp [hn]
      have hl1 : ((vs.length : Int) != (us.length : Int)) = false := by simp [hll]
      clear hn hll H
      go_enter Tryd.func15, Tryd.ntmps15
      go_wp2
      go_loopw [5] (fun i wr => ∃ k m : Nat, k ≤ vs.length ∧ i = .int .i64 k ∧ wr = ((w.alloc (.cells #[.int .i64 n, .slice A vs.length cap] 24)).alloc (.cells #[.int .i64 n', .slice A' us.length cap'] 24)).drewN m ∧ Hid (vs.take k = us.take k)) (fun i _ => vs.length - (intOf i).toNat)
      case atStart => exact ⟨0, 0, by omega, rfl, rfl, by show vs.take 0 = us.take 0; simp⟩
      case round =>
        obtain ⟨k, m, hk, rfl, rfl, hall⟩ := hrel
        have hle : k ≤ us.length := by have := HL.out; omega
        by_cases hlt : k < vs.length
        · have hlt' : k < us.length := by have := HL.out; omega
          obtain ⟨b, off, rfl, hb1, c0, c1, c2, c3, c4, c5, c6, c7⟩ := hA.row k hlt
          have hb2 : b < w.heap.size := by omega
          obtain ⟨b', off', rfl, hb1', d0, d1, d2, d3, d4, d5, d6, d7⟩ := hA'.row k hlt'
          have hb2' : b' < w.heap.size := by omega
          have heq := HE.out k hlt hlt'
          clear HE hA hA'
          by_cases hv : vs[k] = us[k]
          · have heq' : ∀ X : World, _ := fun X => (heq X).trans (by rw [decide_eq_false (by simpa using hv)])
            have hz : Hid (vs.take (k + 1) = us.take (k + 1)) := take_step hlt hlt' hall.out hv
            clear heq hv
            go_wp2
            go_quiet (fail)
            go_wp2
            go_roundw
            case rel => exact ⟨k + 1, _, by omega, by go_num, rfl, hz⟩
            case measure => simp [intOf]; omega
          · have heq' : ∀ X : World, _ := fun X => (heq X).trans (by rw [decide_eq_true hv])
            have hz : Hid (decide (vs = us) = false) := decide_eq_false (ne_of_take hlt hlt' hv)
            clear heq hv
            go_wp2
            go_quiet (fail)
            go_wp2
            go_ret
            exact ⟨ret_bool hz.out.symm, by repeat (first | exact HB _ _ | refine belN ?_ _)⟩
        · obtain rfl : k = vs.length := by omega
          have hz : Hid (decide (vs = us) = true) := decide_eq_true (eq_of_take HL.out hall.out)
          go_wp2
          go_ret
          exact ⟨ret_bool hz.out.symm, by repeat (first | exact HB _ _ | refine belN ?_ _)⟩
    · have hz : Hid (decide (n = n' ∧ vs = us) = false) := decide_eq_false (by rintro ⟨_, rfl⟩; exact hll rfl)
      have hn1 : (n != n') = false := by simp [hn]
      have hl1 : ((vs.length : Int) != (us.length : Int)) = true := by simp; omega
      clear hn hll
      go_enter Tryd.func15, Tryd.ntmps15
      go_wp2
      go_ret
      exact ⟨ret_bool hz.out.symm, by repeat (first | exact HB _ _ | refine belN ?_ _)⟩
  · have hz : Hid (decide (n = n' ∧ vs = us) = false) := decide_eq_false (by rintro ⟨h, _⟩; exact hn h)
    have hn1 : (n != n') = true := by simpa using hn
    clear hn
    go_enter Tryd.func15, Tryd.ntmps15
    go_wp2
    go_ret
    exact ⟨ret_bool hz.out.symm, by repeat (first | exact HB _ _ | refine belN ?_ _)⟩

set_option maxRecDepth 100000 in
set_option maxHeartbeats 1000000 in
theorem sameInts_any (A A' : Option Addr) (cap cap' : Nat) (xs ys : List Int) (w : World) (B : Nat) (hA : IAt w B A xs) (hA' : IAt w B A' ys) (hl : xs.length ≤ 17592186044416) (hl' : ys.length ≤ 17592186044416) :
    Calls Tryd.prog 22 #[.slice A xs.length cap, .slice A' ys.length cap'] w fun e w' => e = .returned (.bool (decide (xs = ys))) ∧ Below w.heap.size w w' := by
  have HB := Below.refl w.heap.size w
  by_cases hll : xs.length = ys.length
  · have HL := Lib.hid hll
    have hl1 : ((xs.length : Int) != (ys.length : Int)) = false := by simp [hll]
    clear hll
    go_enter Tryd.func22, Tryd.ntmps22
    go_wp2
    go_loopw [5] (fun i wr => ∃ k m : Nat, k ≤ xs.length ∧ i = .int .i64 k ∧ wr = w.drewN m ∧ Hid (xs.take k = ys.take k)) (fun i _ => xs.length - (intOf i).toNat)
    case atStart => exact ⟨0, 0, by omega, rfl, rfl, by show xs.take 0 = ys.take 0; simp⟩
    case round =>
      obtain ⟨k, m, hk, rfl, rfl, hall⟩ := hrel
      have hle : k ≤ ys.length := by have := HL.out; omega
      by_cases hlt : k < xs.length
      · have hlt' : k < ys.length := by have := HL.out; omega
        obtain ⟨b, off, rfl, hb1, c0⟩ := hA.at_ k hlt
        obtain ⟨b', off', rfl, hb1', d0⟩ := hA'.at_ k hlt'
        clear hA hA'
        by_cases hv : xs[k] = ys[k]
        · have e1 : (xs[k] != ys[k]) = false := by simp [hv]
          have hz : Hid (xs.take (k + 1) = ys.take (k + 1)) := take_step hlt hlt' hall.out hv
          clear hv
          go_wp2
          go_quiet (fail)
          go_wp2
          go_roundw
          case rel => exact ⟨k + 1, _, by omega, by go_num, rfl, hz⟩
          case measure => simp [intOf]; omega
        · have e1 : (xs[k] != ys[k]) = true := by simpa using hv
          have hz : Hid (decide (xs = ys) = false) := decide_eq_false (ne_of_take hlt hlt' hv)
          clear hv
          go_wp2
          go_quiet (fail)
          go_wp2
          go_ret
          exact ⟨ret_bool hz.out.symm, by repeat (first | exact HB | refine belN ?_ _)⟩
      · obtain rfl : k = xs.length := by omega
        have hz : Hid (decide (xs = ys) = true) := decide_eq_true (eq_of_take HL.out hall.out)
        go_wp2
        go_ret
        exact ⟨ret_bool hz.out.symm, by repeat (first | exact HB | refine belN ?_ _)⟩
  · have hz : Hid (decide (xs = ys) = false) := decide_eq_false (by rintro rfl; exact hll rfl)
    have hl1 : ((xs.length : Int) != (ys.length : Int)) = true := by simp; omega
    clear hll
    go_enter Tryd.func22, Tryd.ntmps22
    go_wp2
    go_ret
    exact ⟨ret_bool hz.out.symm, HB⟩
end Go.Proofs.YtdfnmapmnmecnaaDoor
