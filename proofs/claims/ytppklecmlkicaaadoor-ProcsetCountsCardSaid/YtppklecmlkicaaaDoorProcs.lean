/- How many processes, is a number a set of theirs: procs, Check, All; the reference's Procs, power, Check, Has, With, Full. -/
import Derived.Test.YtppklecmlkicaaaDoorProg
import Derived.Test.YtppklecmlkicaaaDoorSets
namespace Go.Proofs.YtppklecmlkicaaaDoor
open Go.RowKit

def procsE (n : Int) : Int := if n < 1 ∨ 5 < n then 1 else 0
def checkSE (n s : Int) : Int := if n < 1 ∨ 5 < n then 1 else if s < 0 ∨ (2 ^ n.toNat : Nat) ≤ s then 2 else 0

set_option maxHeartbeats 400000 in
theorem procs_any (n : Int) (w : World) : Calls Tryd.prog 37 #[.int .i64 n] w fun e w' => e = .returned (.int .i64 (procsE n)) ∧ w = w' := by
  have H : Hid (procsE n = if n < 1 ∨ 5 < n then 1 else 0) := rfl
  go_enter Tryd.func37, Tryd.ntmps37
  go_wp2
  all_goals
    go_ret
    refine ⟨ret_int ?_, rfl⟩
    rw [H.out]
    first | (rw [if_pos (by omega)]) | (rw [if_neg (by omega)])
set_option maxHeartbeats 400000 in
theorem rprocs_any (n : Int) (w : World) : Calls Tryd.prog 38 #[.int .i64 n] w fun e w' => e = .returned (.int .i64 (procsE n)) ∧ w = w' := by
  have H : Hid (procsE n = if n < 1 ∨ 5 < n then 1 else 0) := rfl
  go_enter Tryd.func38, Tryd.ntmps38
  go_wp2
  all_goals
    go_ret
    refine ⟨ret_int ?_, rfl⟩
    rw [H.out]
    first | (rw [if_pos (by omega)]) | (rw [if_neg (by omega)])

theorem procs_ok {n : Int} (h : ¬ (n < 1 ∨ 5 < n)) : n = 1 ∨ n = 2 ∨ n = 3 ∨ n = 4 ∨ n = 5 := by omega
theorem procsE_bad {n : Int} (h : n < 1 ∨ 5 < n) : procsE n = 1 := if_pos h
theorem procsE_ok {n : Int} (h : ¬ (n < 1 ∨ 5 < n)) : procsE n = 0 := if_neg h

set_option maxHeartbeats 1000000 in
theorem check_any (n s : Int) (w : World) : Calls Tryd.prog 31 #[.int .i64 n, .int .i64 s] w fun e w' => e = .returned (.int .i64 (checkSE n s)) ∧ w = w' := by
  have H : Hid (checkSE n s = if n < 1 ∨ 5 < n then 1 else if s < 0 ∨ (2 ^ n.toNat : Nat) ≤ s then 2 else 0) := rfl
  go_enter Tryd.func31, Tryd.ntmps31
  go_wp2_with fail
  refine (procs_any n w).mono ?_
  rintro e w' ⟨rfl, rfl⟩
  by_cases hn : n < 1 ∨ 5 < n
  · rw [procsE_bad hn]
    rw [if_pos hn] at H
    go_wp2
    go_ret
    exact ⟨ret_int H.out.symm, rfl⟩
  · rw [procsE_ok hn]
    rw [if_neg hn] at H
    rcases procs_ok hn with rfl | rfl | rfl | rfl | rfl
    all_goals
      clear hn
      go_wp2
    all_goals
      try simp only [bne_iff_ne, ne_eq, Bool.not_eq_true, bne_eq_false_iff_eq] at *
      go_ret
      refine ⟨ret_int ?_, rfl⟩
      rw [H.out]
      first | (rw [if_pos (by simp; omega)]) | (rw [if_neg (by simp; omega)])

theorem check_bad {n s : Int} (h : n < 1 ∨ 5 < n) : checkSE n s = 1 := if_pos h
theorem check_vals (n s : Int) : checkSE n s = 0 ∨ checkSE n s = 1 ∨ checkSE n s = 2 := by
  unfold checkSE
  repeat' split
  all_goals simp
/-- A set that stands: a number below 32. -/
theorem check_ok {n s : Int} (h : checkSE n s = 0) : ∃ m k : Nat, n = (m : Int) ∧ s = (k : Int) ∧ 1 ≤ m ∧ m ≤ 5 ∧ k < 2 ^ m ∧ k < 32 := by
  unfold checkSE at h
  split at h
  · cases h
  · split at h
    · cases h
    · rename_i h1 h2
      refine ⟨n.toNat, s.toNat, by omega, by omega, by omega, by omega, ?_, ?_⟩
      · omega
      · have : 2 ^ n.toNat ≤ 2 ^ 5 := Nat.pow_le_pow_right (by omega) (by omega)
        omega

set_option maxHeartbeats 400000 in
theorem power_any (k : Nat) (hk : k ≤ 5) (w : World) : Calls Tryd.prog 56 #[.int .i64 k] w fun e w' => e = .returned (.int .i64 ((2 ^ k : Nat) : Int)) ∧ w = w' := by
  go_enter Tryd.func56, Tryd.ntmps56
  go_wp2
  go_loop [3, 4] (fun v i => ∃ j q : Nat, j ≤ k ∧ q = 2 ^ j ∧ q ≤ 32 ∧ v = .int .i64 (q : Int) ∧ i = .int .i64 (j : Int)) (fun _ i => 5 - (intOf i).toNat)
  case atStart => exact ⟨0, 1, by omega, rfl, by omega, rfl, rfl⟩
  case round =>
    obtain ⟨j, q, hj, hq, hq2, rfl, rfl⟩ := hrel
    have H : Hid (q = 2 ^ j) := hq
    clear hq
    by_cases hlt : j < k
    · go_wp2
      go_round
      case rel =>
        have h1 : q * 2 = 2 ^ (j + 1) := by rw [H.out, Nat.pow_succ]
        have h2 : (2 ^ (j + 1) : Nat) ≤ 2 ^ 5 := Nat.pow_le_pow_right (by omega) (by omega)
        exact ⟨j + 1, q * 2, by omega, h1, by omega, by go_num, by go_num⟩
      case measure => simp [intOf]; omega
    · obtain rfl : j = k := by omega
      go_wp2
      go_ret
      exact ⟨by have := H.out; subst this; simp, rfl⟩
set_option maxHeartbeats 1000000 in
theorem rcheck_any (n s : Int) (w : World) : Calls Tryd.prog 32 #[.int .i64 n, .int .i64 s] w fun e w' => e = .returned (.int .i64 (checkSE n s)) ∧ w = w' := by
  have H : Hid (checkSE n s = if n < 1 ∨ 5 < n then 1 else if s < 0 ∨ (2 ^ n.toNat : Nat) ≤ s then 2 else 0) := rfl
  go_enter Tryd.func32, Tryd.ntmps32
  go_wp2_with fail
  refine (rprocs_any n w).mono ?_
  rintro e w' ⟨rfl, rfl⟩
  by_cases hn : n < 1 ∨ 5 < n
  · rw [procsE_bad hn]
    rw [if_pos hn] at H
    go_wp2
    go_ret
    exact ⟨ret_int H.out.symm, rfl⟩
  · rw [procsE_ok hn]
    rw [if_neg hn] at H
    obtain ⟨m, rfl⟩ := Int.eq_ofNat_of_zero_le (show 0 ≤ n by omega)
    have hp := power_any m (by omega) w
    go_wp2_with fail
    · refine hp.mono ?_
      rintro e w' ⟨rfl, rfl⟩
      go_wp2_with fail
      all_goals
        go_ret
        refine ⟨ret_int ?_, rfl⟩
        rw [H.out]
        first | (rw [if_pos (by simp; omega)]) | (rw [if_neg (by simp; omega)])
    · go_ret
      refine ⟨ret_int ?_, rfl⟩
      rw [H.out, if_pos (by omega)]
end Go.Proofs.YtppklecmlkicaaaDoor
