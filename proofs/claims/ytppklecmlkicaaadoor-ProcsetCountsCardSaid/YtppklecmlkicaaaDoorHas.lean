/- The reference's Has, With, Inside, List, Number, Members, Size, Full; procset.All, Members, Size. -/
import Derived.Test.YtppklecmlkicaaaDoorProg
import Derived.Test.YtppklecmlkicaaaDoorProcs
import Derived.Test.YtppklecmlkicaaaDoorColl
import Derived.Deep.QuietTactic
import Derived.BigQuiet
import Derived.StillTactics
namespace Go.Proofs.YtppklecmlkicaaaDoor
open Go.RowKit

theorem has_fact {s p : Nat} (hs : s < 32) (hp : p < 5) : ((wrap64 ((s : Int) / ((2 ^ p : Nat) : Int))).tmod 2 == 1) = s.testBit p := by
  have h := of32 (p := fun s => below32 fun p => !decide (p < 5) || (((wrap64 ((s : Int) / ((2 ^ p : Nat) : Int))).tmod 2 == 1) == s.testBit p)) (by decide +kernel) hs
  have h := of32 h (show p < 32 by omega)
  simpa only [hp, decide_true, Bool.not_true, Bool.false_or, beq_iff_eq] using h

set_option maxHeartbeats 400000 in
theorem has_any (s p : Nat) (hs : s < 32) (hp : p < 5) (w : World) : Calls Tryd.prog 39 #[.int .i64 s, .int .i64 p] w fun e w' => e = .returned (.bool (s.testBit p)) ∧ w = w' := by
  have H := Lib.hid (has_fact hs hp)
  have hq : (2 ^ p : Nat) ≤ 2 ^ 5 := Nat.pow_le_pow_right (by omega) (by omega)
  have hq1 : 1 ≤ (2 ^ p : Nat) := Nat.one_le_two_pow
  have hp' := power_any p (by omega) w
  obtain ⟨q, hqq⟩ : ∃ q : Nat, q = 2 ^ p := ⟨_, rfl⟩
  rw [← hqq] at hp' hq hq1 H
  clear hqq
  go_enter Tryd.func39, Tryd.ntmps39
  go_wp2_with fail
  refine hp'.mono ?_
  rintro e w' ⟨rfl, rfl⟩
  go_wp2_with fail
  go_ret
  exact ⟨ret_bool H.out, rfl⟩

theorem with_fact {s p : Nat} (hs : s < 32) (hp : p < 5) : (if s.testBit p = true then s else s + 2 ^ p) = s ||| 2 ^ p ∧ s ||| 2 ^ p < 32 := by
  have h := of32 (p := fun s => below32 fun p => !decide (p < 5) || (decide ((if s.testBit p = true then s else s + 2 ^ p) = s ||| 2 ^ p) && decide (s ||| 2 ^ p < 32))) (by decide +kernel) hs
  have h := of32 h (show p < 32 by omega)
  simpa only [hp, decide_true, Bool.not_true, Bool.false_or, Bool.and_eq_true, decide_eq_true_eq] using h

set_option maxHeartbeats 400000 in
theorem with_any (s p : Nat) (hs : s < 32) (hp : p < 5) (w : World) : Calls Tryd.prog 40 #[.int .i64 s, .int .i64 p] w fun e w' => e = .returned (.int .i64 ((s ||| 2 ^ p : Nat) : Int)) ∧ w = w' := by
  obtain ⟨h1, h2⟩ := with_fact hs hp
  have HA := has_any s p hs hp w
  have HP := power_any p (by omega) w
  have hq : (2 ^ p : Nat) ≤ 2 ^ 5 := Nat.pow_le_pow_right (by omega) (by omega)
  obtain ⟨q, hqq⟩ : ∃ q : Nat, q = 2 ^ p := ⟨_, rfl⟩
  rw [← hqq] at HP hq h1 h2 ⊢
  clear hqq
  go_enter Tryd.func40, Tryd.ntmps40
  go_wp2_with fail
  refine HA.mono ?_
  rintro e w' ⟨rfl, rfl⟩
  by_cases hb : s.testBit p = true
  · rw [if_pos hb] at h1
    rw [hb]
    have H1 := Lib.hid h1
    clear h1
    go_wp2_with fail
    go_ret
    exact ⟨by rw [← H1.out]; rfl, rfl⟩
  · rw [if_neg hb] at h1
    have hb' : s.testBit p = false := by simpa using hb
    rw [hb']
    have H1 := Lib.hid h1
    clear h1
    go_wp2_with fail
    refine HP.mono ?_
    rintro e w' ⟨rfl, rfl⟩
    go_wp2_with fail
    go_ret
    exact ⟨ret_int (by rw [← H1.out]; go_num), rfl⟩

/-- Is every element of a one of b. -/
theorem inside_fact {a b : Nat} (ha : a < 32) (hb : b < 32) : (a &&& b == a) = true ↔ (∀ p, p < 5 → a.testBit p = true → b.testBit p = true) := by
  have h := of32 (p := fun a => below32 fun b => ((List.range 5).all fun p => !a.testBit p || b.testBit p) == (a &&& b == a)) (by decide +kernel) ha
  have h := of32 h hb
  simp only [beq_iff_eq] at h
  rw [← h]
  simp only [List.all_eq_true, List.mem_range, Bool.or_eq_true, Bool.not_eq_true']
  constructor
  · intro h p hp h1
    rcases h p hp with h2 | h2
    · rw [h1] at h2; cases h2
    · exact h2
  · intro h p hp
    by_cases h1 : a.testBit p = true
    · exact .inr (h p hp h1)
    · exact .inl (by simpa using h1)

set_option maxHeartbeats 400000 in
theorem inside_any (a b : Nat) (ha : a < 32) (hb : b < 32) (w : World) : Calls Tryd.prog 61 #[.int .i64 a, .int .i64 b] w fun e w' => e = .returned (.bool (a &&& b == a)) ∧ w = w' := by
  have H := Lib.hid (inside_fact ha hb)
  have HA := Lib.hid (fun p hp w => has_any a p ha hp w)
  have HB := Lib.hid (fun p hp w => has_any b p hb hp w)
  go_enter Tryd.func61, Tryd.ntmps61
  go_wp2_with fail
  go_loop [5] (fun i => ∃ k : Nat, k ≤ 5 ∧ i = .int .i64 (k : Int) ∧ Hid (∀ p, p < k → a.testBit p = true → b.testBit p = true)) (fun i => 5 - (intOf i).toNat)
  case atStart => exact ⟨0, by omega, rfl, fun p hp => by omega⟩
  case round =>
    obtain ⟨k, hk, rfl, hall⟩ := hrel
    by_cases hlt : k < 5
    · have c1 := HA.out k hlt w
      have c2 := HB.out k hlt w
      go_wp2_with fail
      refine c1.mono ?_
      rintro e w' ⟨rfl, rfl⟩
      by_cases h1 : a.testBit k = true
      · rw [h1]
        go_wp2_with fail
        refine c2.mono ?_
        rintro e w' ⟨rfl, rfl⟩
        by_cases h2 : b.testBit k = true
        · rw [h2]
          go_wp2_with fail
          go_round
          case rel =>
            refine ⟨k + 1, by omega, by go_num, fun p hp h => ?_⟩
            by_cases e : p = k
            · subst e; exact h2
            · exact hall.out p (by omega) h
          case measure => simp [intOf]; omega
        · have h2' : b.testBit k = false := by simpa using h2
          rw [h2']
          go_wp2_with fail
          go_ret
          refine ⟨ret_bool ?_, rfl⟩
          symm
          rw [Bool.eq_false_iff]
          exact fun e => h2 (H.out.1 e k hlt h1)
      · have h1' : a.testBit k = false := by simpa using h1
        rw [h1']
        go_wp2_with fail
        go_round
        case rel =>
          refine ⟨k + 1, by omega, by go_num, fun p hp h => ?_⟩
          by_cases e : p = k
          · subst e; exact absurd h h1
          · exact hall.out p (by omega) h
        case measure => simp [intOf]; omega
    · obtain rfl : k = 5 := by omega
      go_wp2_with fail
      go_ret
      refine ⟨ret_bool ?_, rfl⟩
      exact (H.out.2 hall.out).symm
end Go.Proofs.YtppklecmlkicaaaDoor
