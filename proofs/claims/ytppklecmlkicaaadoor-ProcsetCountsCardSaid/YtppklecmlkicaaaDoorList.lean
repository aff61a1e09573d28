/- The reference's List, Number, Parts, Members, Size, Subsets. -/
import Derived.Test.YtppklecmlkicaaaDoorProg
import Derived.Test.YtppklecmlkicaaaDoorHas
import Derived.Deep.QuietTactic
import Derived.BigQuiet
import Derived.StillTactics
namespace Go.Proofs.YtppklecmlkicaaaDoor
open Go.RowKit

theorem bits_length (s : Nat) (k : Nat) : (bitsTo s k).length ≤ k := by
  unfold bitsTo; exact Nat.le_trans (List.length_filter_le _ _) (by simp)
theorem subs_length (s k : Nat) : (subsTo s k).length ≤ k := by
  unfold subsTo; exact Nat.le_trans (List.length_filter_le _ _) (by simp)

set_option maxHeartbeats 1000000 in
theorem list_any (s : Nat) (hs : s < 32) (w : World) : Calls Tryd.prog 55 #[.int .i64 s] w (RetInts (intL (bitsL s)) w) := by
  have HA := Lib.hid (fun p hp w => has_any s p hs hp w)
  go_enter Tryd.func55, Tryd.ntmps55
  go_wp2_with fail
  go_loopw [3, 4] (fun o i wr => ∃ k : Nat, k ≤ 5 ∧ i = .int .i64 (k : Int) ∧ Own wr w.heap.size o (intL (bitsTo s k)) ∧ Below w.heap.size w wr) (fun _ i _ => 5 - (intOf i).toNat)
  case atStart => exact ⟨0, by omega, rfl, by have : intL (bitsTo s 0) = [] := rfl
                                              rw [this]; exact Own.nil _ _, Below.refl _ _⟩
  case round =>
    obtain ⟨k, hk, rfl, hown, hbl⟩ := hrel
    have HO := Lib.hid hown
    have HB := Lib.hid hbl
    have hln := bits_length s k
    rw [← intL_length] at hln
    clear hown hbl
    by_cases hlt : k < 5
    · have c1 := HA.out k hlt wr
      have hsu := bitsTo_succ (s := s) (k := k)
      go_wp2_with fail
      refine c1.mono ?_
      rintro e w' ⟨rfl, rfl⟩
      by_cases h1 : s.testBit k = true
      · rw [h1]
        rw [if_pos h1] at hsu
        have HS := Lib.hid hsu
        clear hsu
        go_wp2_with (at_builtin; go_must (refine wpList_app1 rfl _ _ rfl w.heap.size u3 _ (k : Int) rfl HO.out rfl (by omega) HB.out.size ?_); intro v' w1 hown1 hg1 hb1)
        go_roundw
        case rel => exact ⟨k + 1, by omega, by go_num, by rw [HS.out, intL_append]; exact hown1, HB.out.trans hb1⟩
        case measure => simp [intOf]; omega
      · have h1' : s.testBit k = false := by simpa using h1
        rw [h1']
        rw [if_neg h1] at hsu
        have HS := Lib.hid hsu
        clear hsu
        go_wp2_with fail
        go_roundw
        case rel => exact ⟨k + 1, by omega, by go_num, by rw [HS.out]; exact HO.out, HB.out⟩
        case measure => simp [intOf]; omega
    · obtain rfl : k = 5 := by omega
      go_wp2_with fail
      go_ret
      exact ⟨_, rfl, HO.out, HB.out⟩

set_option maxHeartbeats 400000 in
theorem number_any (s : Nat) (hs : s < 32) (w : World) : Calls Tryd.prog 47 #[.int .i64 s] w fun e w' => e = .returned (.int .i64 (cardN s : Nat)) ∧ Below w.heap.size w w' := by
  go_enter Tryd.func47, Tryd.ntmps47
  go_wp2_with fail
  refine (list_any s hs w).mono ?_
  rintro e w' ⟨v, rfl, hown, hb⟩
  obtain ⟨A, c, rfl, h1, h2, _⟩ := hown.form
  have HB := Lib.hid hb
  clear hb hown
  go_wp2_with fail
  go_ret
  exact ⟨ret_int (by rw [intL_length]; rfl), HB.out⟩

/-- A call that returns a slice of integers of its own and an error's number. -/
def RetIntsE (xs : List Int) (k : Int) (w : World) (e : Ending) (w' : World) : Prop := ∃ v, e = .returned (.tuple #[v, .int .i64 k]) ∧ Own w' w.heap.size v xs ∧ Below w.heap.size w w'
def RetIntE (x k : Int) (w : World) (e : Ending) (w' : World) : Prop := e = .returned (.tuple #[.int .i64 x, .int .i64 k]) ∧ Below w.heap.size w w'
def memL (n s : Int) : List Int := if checkSE n s = 0 then intL (bitsL s.toNat) else []
def subL (n s : Int) : List Int := if checkSE n s = 0 then intL (subsL s.toNat) else []
def sizeE (n s : Int) : Int := if checkSE n s = 0 then ((cardN s.toNat : Nat) : Int) else 0

set_option maxHeartbeats 400000 in
theorem rmembers_any (n s : Int) (w : World) : Calls Tryd.prog 28 #[.int .i64 n, .int .i64 s] w (RetIntsE (memL n s) (checkSE n s) w) := by
  have H : Hid (memL n s = if checkSE n s = 0 then intL (bitsL s.toNat) else []) := rfl
  have hc := rcheck_any n s w
  have hok := @check_ok n s
  obtain ⟨k, hk⟩ : ∃ k, checkSE n s = k := ⟨_, rfl⟩
  rw [hk] at hc hok H ⊢
  clear hk
  go_enter Tryd.func28, Tryd.ntmps28
  go_wp2_with fail
  refine hc.mono ?_
  rintro e w' ⟨rfl, rfl⟩
  by_cases h0 : k = 0
  · subst h0
    have HM := Lib.hid (H.out.trans (if_pos rfl))
    clear H
    obtain ⟨m, t, rfl, rfl, _, _, _, h32⟩ := hok rfl
    go_wp2_with fail
    refine (list_any t h32 w).mono ?_
    rintro e w' ⟨v, rfl, hown, hb⟩
    have HO := Lib.hid hown
    have HB := Lib.hid hb
    clear hown hb
    go_wp2_with fail
    go_ret2
    exact ⟨_, rfl, by rw [HM.out]; exact HO.out, HB.out⟩
  · have HM := Lib.hid (H.out.trans (if_neg h0))
    clear H
    go_wp2_with fail
    go_ret2
    exact ⟨_, rfl, by rw [HM.out]; exact Own.nil _ _, Below.refl _ _⟩

set_option maxHeartbeats 400000 in
theorem rsize_any (n s : Int) (w : World) : Calls Tryd.prog 29 #[.int .i64 n, .int .i64 s] w (RetIntE (sizeE n s) (checkSE n s) w) := by
  have H : Hid (sizeE n s = if checkSE n s = 0 then ((cardN s.toNat : Nat) : Int) else 0) := rfl
  have hc := rcheck_any n s w
  have hok := @check_ok n s
  obtain ⟨k, hk⟩ : ∃ k, checkSE n s = k := ⟨_, rfl⟩
  rw [hk] at hc hok H ⊢
  clear hk
  go_enter Tryd.func29, Tryd.ntmps29
  go_wp2_with fail
  refine hc.mono ?_
  rintro e w' ⟨rfl, rfl⟩
  by_cases h0 : k = 0
  · subst h0
    have HM := Lib.hid (H.out.trans (if_pos rfl))
    clear H
    obtain ⟨m, t, rfl, rfl, _, _, _, h32⟩ := hok rfl
    go_wp2_with fail
    refine (number_any t h32 w).mono ?_
    rintro e w' ⟨rfl, hb⟩
    have HB := Lib.hid hb
    clear hb
    go_wp2_with fail
    go_ret2
    exact ⟨by rw [HM.out]; rfl, HB.out⟩
  · have HM := Lib.hid (H.out.trans (if_neg h0))
    clear H
    go_wp2_with fail
    go_ret2
    exact ⟨by rw [HM.out]; rfl, Below.refl _ _⟩

/-! ### The subsets -/
set_option maxHeartbeats 1000000 in
theorem rparts_any (s : Nat) (hs : s < 32) (w : World) : Calls Tryd.prog 44 #[.int .i64 s] w (RetInts (intL (subsL s)) w) := by
  have HA := Lib.hid (fun p hp w => inside_any p s hp hs w)
  go_enter Tryd.func44, Tryd.ntmps44
  go_wp2_with fail
  go_loopw [3, 4] (fun o i wr => ∃ k : Nat, k ≤ s + 1 ∧ i = .int .i64 (k : Int) ∧ Own wr w.heap.size o (intL (subsTo s k)) ∧ Below w.heap.size w wr) (fun _ i _ => 33 - (intOf i).toNat)
  case atStart => exact ⟨0, by omega, rfl, by have : intL (subsTo s 0) = [] := rfl
                                              rw [this]; exact Own.nil _ _, Below.refl _ _⟩
  case round =>
    obtain ⟨k, hk, rfl, hown, hbl⟩ := hrel
    have HO := Lib.hid hown
    have HB := Lib.hid hbl
    have hln := subs_length s k
    rw [← intL_length] at hln
    clear hown hbl
    by_cases hlt : k ≤ s
    · have c1 := HA.out k (by omega) wr
      have hsu := subsTo_succ (s := s) (m := k)
      go_wp2_with fail
      refine c1.mono ?_
      rintro e w' ⟨rfl, rfl⟩
      by_cases h1 : k &&& s = k
      · rw [show (k &&& s == k) = true from beq_iff_eq.2 h1]
        rw [if_pos h1] at hsu
        have HS := Lib.hid hsu
        clear hsu
        go_wp2_with (at_builtin; go_must (refine wpList_app1 rfl _ _ rfl w.heap.size u3 _ (k : Int) rfl HO.out rfl (by omega) HB.out.size ?_); intro v' w1 hown1 hg1 hb1)
        go_roundw
        case rel => exact ⟨k + 1, by omega, by go_num, by rw [HS.out, intL_append]; exact hown1, HB.out.trans hb1⟩
        case measure => simp [intOf]; omega
      · rw [show (k &&& s == k) = false from beq_eq_false_iff_ne.2 h1]
        rw [if_neg h1] at hsu
        have HS := Lib.hid hsu
        clear hsu
        go_wp2_with fail
        go_roundw
        case rel => exact ⟨k + 1, by omega, by go_num, by rw [HS.out]; exact HO.out, HB.out⟩
        case measure => simp [intOf]; omega
    · obtain rfl : k = s + 1 := by omega
      go_wp2_with fail
      go_ret
      exact ⟨_, rfl, HO.out, HB.out⟩

set_option maxHeartbeats 400000 in
theorem rsubsets_any (n s : Int) (w : World) : Calls Tryd.prog 15 #[.int .i64 n, .int .i64 s] w (RetIntsE (subL n s) (checkSE n s) w) := by
  have H : Hid (subL n s = if checkSE n s = 0 then intL (subsL s.toNat) else []) := rfl
  have hc := rcheck_any n s w
  have hok := @check_ok n s
  obtain ⟨k, hk⟩ : ∃ k, checkSE n s = k := ⟨_, rfl⟩
  rw [hk] at hc hok H ⊢
  clear hk
  go_enter Tryd.func15, Tryd.ntmps15
  go_wp2_with fail
  refine hc.mono ?_
  rintro e w' ⟨rfl, rfl⟩
  by_cases h0 : k = 0
  · subst h0
    have HM := Lib.hid (H.out.trans (if_pos rfl))
    clear H
    obtain ⟨m, t, rfl, rfl, _, _, _, h32⟩ := hok rfl
    go_wp2_with fail
    refine (rparts_any t h32 w).mono ?_
    rintro e w' ⟨v, rfl, hown, hb⟩
    have HO := Lib.hid hown
    have HB := Lib.hid hb
    clear hown hb
    go_wp2_with fail
    go_ret2
    exact ⟨_, rfl, by rw [HM.out]; exact HO.out, HB.out⟩
  · have HM := Lib.hid (H.out.trans (if_neg h0))
    clear H
    go_wp2_with fail
    go_ret2
    exact ⟨_, rfl, by rw [HM.out]; exact Own.nil _ _, Below.refl _ _⟩
end Go.Proofs.YtppklecmlkicaaaDoor
