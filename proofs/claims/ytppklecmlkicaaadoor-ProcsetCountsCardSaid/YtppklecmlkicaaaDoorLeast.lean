/- Least, twice; Same. -/
import Derived.Test.YtppklecmlkicaaaDoorProg
import Derived.Test.YtppklecmlkicaaaDoorOf
import Derived.Deep.QuietTactic
import Derived.BigQuiet
import Derived.StillTactics
namespace Go.Proofs.YtppklecmlkicaaaDoor
open Go.RowKit Go.Shelf

def leastE (n s : Int) : Int × Int := if checkSE n s ≠ 0 then (0, checkSE n s) else if bitsL s.toNat = [] then (0, 16) else (((low s.toNat : Nat) : Int), 0)
theorem leastE_bad {n s : Int} (h : checkSE n s ≠ 0) : leastE n s = (0, checkSE n s) := if_pos h
theorem leastE_none {n s : Int} (h : checkSE n s = 0) (h2 : bitsL s.toNat = []) : leastE n s = (0, 16) := by unfold leastE; rw [if_neg (by simpa using h), if_pos h2]
theorem leastE_some {n s : Int} (h : checkSE n s = 0) (h2 : ¬ bitsL s.toNat = []) : leastE n s = (((low s.toNat : Nat) : Int), 0) := by unfold leastE; rw [if_neg (by simpa using h), if_neg h2]

theorem head0 (l : List Nat) (h : 0 < l.length) : l[0] = l.headD 0 := by cases l with
  | nil => cases h
  | cons a l => rfl

set_option maxHeartbeats 1000000 in
theorem rleast_any (n s : Int) (w : World) : Calls Tryd.prog 30 #[.int .i64 n, .int .i64 s] w (RetPair (leastE n s) w) := by
  have HE1 := Lib.hid (@leastE_bad n s)
  have HE2 := Lib.hid (@leastE_none n s)
  have HE3 := Lib.hid (@leastE_some n s)
  have hc := rcheck_any n s w
  have hok := @check_ok n s
  obtain ⟨k, hk⟩ : ∃ k, checkSE n s = k := ⟨_, rfl⟩
  rw [hk] at hc hok HE1 HE2 HE3
  clear hk
  have HOK := Lib.hid hok
  clear hok
  go_enter Tryd.func30, Tryd.ntmps30
  go_wp2_with fail
  refine hc.mono ?_
  rintro e w' ⟨rfl, rfl⟩
  by_cases h0 : k = 0
  · subst h0
    obtain ⟨m, t, rfl, rfl, _, _, _, h32⟩ := HOK.out rfl
    go_wp2_with fail
    refine (list_any t h32 w).mono ?_
    rintro e w' ⟨v, rfl, hown, hb⟩
    obtain ⟨A, c, rfl, h1, h2, hIA⟩ := hown.form
    rw [intL_length] at h1 ⊢
    have HB := Lib.hid hb
    clear hb hown
    by_cases hz : bitsL t = []
    · have HR := Lib.hid (HE2.out (by simp) hz)
      have hl0 : (bitsL t).length = 0 := by rw [hz]; rfl
      rw [hl0]
      clear HE1 HE2 HE3 hIA
      go_wp2_with fail
      go_ret2
      exact RetPair.of HR.out HB.out
    · have HR := Lib.hid (HE3.out (by simp) hz)
      clear HE1 HE2 HE3
      have hpos : 0 < (bitsL t).length := List.length_pos_iff.2 hz
      obtain ⟨b, off, rfl, hbB, hcell⟩ := hIA.at_ 0 (by rw [intL_length]; exact hpos)
      have hv : (intL (bitsL t))[0]'(by rw [intL_length]; exact hpos) = ((low t : Nat) : Int) := by
        unfold low intL
        rw [List.getElem_map]
        exact congrArg _ (head0 _ hpos)
      rw [hv, Nat.add_zero] at hcell
      clear hv hIA
      have e0 : (((bitsL t).length : Nat) : Int) ≠ 0 := by omega
      obtain ⟨ln, hln⟩ : ∃ ln, (bitsL t).length = ln := ⟨_, rfl⟩
      rw [hln] at hpos e0 h1 ⊢
      go_wp2_with fail
      go_ret2
      exact RetPair.of HR.out HB.out
  · have HM := Lib.hid (HE1.out h0)
    go_wp2_with fail
    go_ret2
    exact RetPair.of HM.out (Below.refl _ _)

/-! ### Same -/
theorem same_succ {xs ys : List Int} {k : Nat} (hk : k < xs.length) (hl : xs.length = ys.length) (h : xs.take k = ys.take k) (h2 : xs[k] = ys[k]'(by omega)) : xs.take (k + 1) = ys.take (k + 1) := by
  rw [List.take_succ_eq_append_getElem hk, List.take_succ_eq_append_getElem (by omega), h, h2]

set_option maxHeartbeats 1000000 in
theorem same_any (A B : Option Addr) (ca cb : Nat) (xs ys : List Int) (hl : xs.length ≤ 2199023255552) (hl2 : ys.length ≤ 2199023255552) (w : World) (hA : IAt w w.heap.size A xs) (hB : IAt w w.heap.size B ys) :
    Calls Tryd.prog 18 #[.slice A xs.length ca, .slice B ys.length cb] w fun e w' => e = .returned (.bool (decide (xs = ys))) ∧ Below w.heap.size w w' := by
  have HA := Lib.hid hA
  have HB := Lib.hid hB
  clear hA hB
  go_enter Tryd.func18, Tryd.ntmps18
  by_cases he : xs.length = ys.length
  · have e0 : ((xs.length : Int) != (ys.length : Int)) = false := by simp [he]
    go_wp2_with fail
    go_loopw [5] (fun i wr => ∃ k : Nat, k ≤ xs.length ∧ i = .int .i64 (k : Int) ∧ Hid (xs.take k = ys.take k) ∧ Below w.heap.size w wr) (fun i _ => xs.length - (intOf i).toNat)
    case atStart => exact ⟨0, by omega, rfl, by simp [Hid], Below.refl _ _⟩
    case round =>
      obtain ⟨k, hk, rfl, htk, hbl⟩ := hrel
      by_cases hlt : k < xs.length
      · obtain ⟨b1, o1, rfl, hb1, c1⟩ := (HA.out.keep hbl).at_ k hlt
        obtain ⟨b2, o2, rfl, hb2, c2⟩ := (HB.out.keep hbl).at_ k (by omega)
        have HBL := Lib.hid hbl
        have hlt2 : k < ys.length := by omega
        clear hbl
        obtain ⟨x, hx⟩ : ∃ x, xs[k] = x := ⟨_, rfl⟩
        obtain ⟨y, hy⟩ : ∃ y, ys[k] = y := ⟨_, rfl⟩
        have HX := Lib.hid hx
        have HY := Lib.hid hy
        rw [hx] at c1
        rw [hy] at c2
        clear hx hy
        by_cases hxy : x = y
        · subst hxy
          go_wp2_with fail
          go_quiet (fail)
          go_wp2_with fail
          go_roundw
          case rel => exact ⟨k + 1, by omega, by go_num, same_succ hlt he htk.out (HX.out.trans HY.out.symm), belN HBL.out _⟩
          case measure => simp [intOf]; omega
        · go_wp2_with fail
          go_quiet (fail)
          go_wp2_with fail
          go_ret
          refine ⟨ret_bool (decide_eq_false ?_).symm, belN HBL.out _⟩
          rintro rfl
          exact hxy (HX.out.symm.trans HY.out)
      · obtain rfl : k = xs.length := by omega
        have HBL := Lib.hid hbl
        clear hbl
        go_wp2_with fail
        go_ret
        refine ⟨ret_bool (decide_eq_true ?_).symm, HBL.out⟩
        have := htk.out
        rwa [List.take_length, he, List.take_length] at this
  · have e0 : ((xs.length : Int) != (ys.length : Int)) = true := by simp; omega
    go_wp2_with fail
    go_ret
    exact ⟨ret_bool (decide_eq_false (fun h => he (by rw [h]))).symm, Below.refl _ _⟩
end Go.Proofs.YtppklecmlkicaaaDoor
