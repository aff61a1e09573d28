/- procset.Members, Subsets, Size, All; the reference's All, Full. -/
import Derived.Test.YtppklecmlkicaaaDoorProg
import Derived.Test.YtppklecmlkicaaaDoorList
import Derived.Test.YtppklecmlkicaaaDoorColl
import Derived.Deep.QuietTactic
import Derived.BigQuiet
import Derived.StillTactics
namespace Go.Proofs.YtppklecmlkicaaaDoor
open Go.RowKit

theorem filter_every (l : List Int) : l.filter (fun _ => true) = l := by simp

set_option maxHeartbeats 1000000 in
theorem members_any (n s : Int) (w : World) (hT : Tab w) (h2 : 2 ≤ w.heap.size) : Calls Tryd.prog 27 #[.int .i64 n, .int .i64 s] w (RetIntsE (memL n s) (checkSE n s) w) := by
  have H : Hid (memL n s = if checkSE n s = 0 then intL (bitsL s.toNat) else []) := rfl
  have hc := check_any n s w
  have hok := @check_ok n s
  have HT := Lib.hid hT
  clear hT
  obtain ⟨k, hk⟩ : ∃ k, checkSE n s = k := ⟨_, rfl⟩
  rw [hk] at hc hok H ⊢
  clear hk
  go_enter Tryd.func27, Tryd.ntmps27
  go_wp2_with fail
  refine hc.mono ?_
  rintro e w' ⟨rfl, rfl⟩
  by_cases h0 : k = 0
  · subst h0
    have HM := Lib.hid (H.out.trans (if_pos rfl))
    clear H
    obtain ⟨m, t, rfl, rfl, _, _, _, h32⟩ := hok rfl
    go_wp2_with fail
    refine (elements_any t w).mono ?_
    rintro e W ⟨rfl, hW⟩
    have hb := blk_new w (.cells #[.int .i64 t] 3)
    have hB : Below w.heap.size w W := by rw [← hW]; exact bel1 _ _
    have hs1 : W.heap.size = w.heap.size + 1 := by rw [← hW]; simp
    rw [hW] at hb
    have hc2 := collected_any 64 #[.pointer (some ⟨w.heap.size, 0, none⟩)] (enters_of Tryd.func64 (by kernel_rfl) rfl) 43 #[]
      (enters_of Tryd.func43 (by kernel_rfl) rfl) (fun k => k = w.heap.size ∨ k = 1) (intL (bitsL t)) (fun _ => true) (by rw [intL_length]; have := bits_length t 5; unfold bitsTo at this; unfold bitsL; omega) W
      (by rintro k (rfl | rfl) <;> omega) (fun W' hW' => elements1_iter t h32 _ W' (blk_below hb hW' (by omega)) ((HT.out.keep hB h2).keep hW' (by omega))) (fun x _ W' _ => every_any x W')
    rw [filter_every] at hc2
    have HB := Lib.hid hB
    clear hB hb hW
    go_wp2_with fail
    refine hc2.mono ?_
    rintro e w' ⟨v, rfl, hown, hb⟩
    have HO := Lib.hid hown
    have HB2 := Lib.hid hb
    clear hown hb
    go_wp2_with fail
    go_ret2
    obtain ⟨q1, q2⟩ := own_push HO.out HB2.out HB.out
    exact ⟨_, rfl, by rw [HM.out]; exact q1, q2⟩
  · have HM := Lib.hid (H.out.trans (if_neg h0))
    clear H
    go_wp2_with fail
    go_ret2
    exact ⟨_, rfl, by rw [HM.out]; exact Own.nil _ _, Below.refl _ _⟩

set_option maxHeartbeats 1000000 in
theorem subsets_any (n s : Int) (w : World) : Calls Tryd.prog 14 #[.int .i64 n, .int .i64 s] w (RetIntsE (subL n s) (checkSE n s) w) := by
  have H : Hid (subL n s = if checkSE n s = 0 then intL (subsL s.toNat) else []) := rfl
  have hc := check_any n s w
  have hok := @check_ok n s
  obtain ⟨k, hk⟩ : ∃ k, checkSE n s = k := ⟨_, rfl⟩
  rw [hk] at hc hok H ⊢
  clear hk
  go_enter Tryd.func14, Tryd.ntmps14
  go_wp2_with fail
  refine hc.mono ?_
  rintro e w' ⟨rfl, rfl⟩
  by_cases h0 : k = 0
  · subst h0
    have HM := Lib.hid (H.out.trans (if_pos rfl))
    clear H
    obtain ⟨m, t, rfl, rfl, _, _, _, h32⟩ := hok rfl
    go_wp2_with fail
    refine (parts_any t w).mono ?_
    rintro e W ⟨rfl, hW⟩
    have hb := blk_new w (.cells #[.int .i64 t] 3)
    have hB : Below w.heap.size w W := by rw [← hW]; exact bel1 _ _
    have hs1 : W.heap.size = w.heap.size + 1 := by rw [← hW]; simp
    rw [hW] at hb
    have hc2 := collected_any 60 #[.pointer (some ⟨w.heap.size, 0, none⟩)] (enters_of Tryd.func60 (by kernel_rfl) rfl) 43 #[]
      (enters_of Tryd.func43 (by kernel_rfl) rfl) (fun k => k = w.heap.size) (intL (subsL t)) (fun _ => true) (by rw [intL_length]; have := subs_length t (t + 1); unfold subsL; omega) W
      (by rintro k rfl; omega) (fun W' hW' => parts1_iter t h32 _ W' (blk_below hb hW' (by omega))) (fun x _ W' _ => every_any x W')
    rw [filter_every] at hc2
    have HB := Lib.hid hB
    clear hB hb hW
    go_wp2_with fail
    refine hc2.mono ?_
    rintro e w' ⟨v, rfl, hown, hb⟩
    have HO := Lib.hid hown
    have HB2 := Lib.hid hb
    clear hown hb
    go_wp2_with fail
    go_ret2
    obtain ⟨q1, q2⟩ := own_push HO.out HB2.out HB.out
    exact ⟨_, rfl, by rw [HM.out]; exact q1, q2⟩
  · have HM := Lib.hid (H.out.trans (if_neg h0))
    clear H
    go_wp2_with fail
    go_ret2
    exact ⟨_, rfl, by rw [HM.out]; exact Own.nil _ _, Below.refl _ _⟩

set_option maxHeartbeats 400000 in
theorem size_any (n s : Int) (w : World) : Calls Tryd.prog 23 #[.int .i64 n, .int .i64 s] w (RetIntE (sizeE n s) (checkSE n s) w) := by
  have H : Hid (sizeE n s = if checkSE n s = 0 then ((cardN s.toNat : Nat) : Int) else 0) := rfl
  have hc := check_any n s w
  have hok := @check_ok n s
  obtain ⟨k, hk⟩ : ∃ k, checkSE n s = k := ⟨_, rfl⟩
  rw [hk] at hc hok H ⊢
  clear hk
  go_enter Tryd.func23, Tryd.ntmps23
  go_wp2_with fail
  refine hc.mono ?_
  rintro e w' ⟨rfl, rfl⟩
  by_cases h0 : k = 0
  · subst h0
    have HM := Lib.hid (H.out.trans (if_pos rfl))
    clear H
    obtain ⟨m, t, rfl, rfl, _, _, _, h32⟩ := hok rfl
    have h64 : (t : Int) < 18446744073709551616 := by omega
    go_wp2_with fail
    refine (ones_any t h32 w).mono ?_
    rintro e w' ⟨rfl, rfl⟩
    go_wp2_with fail
    go_ret2
    exact ⟨by rw [HM.out]; rfl, Below.refl _ _⟩
  · have HM := Lib.hid (H.out.trans (if_neg h0))
    clear H
    go_wp2_with fail
    go_ret2
    exact ⟨by rw [HM.out]; rfl, Below.refl _ _⟩

def allE (n : Int) : Int := if n < 1 ∨ 5 < n then 0 else ((2 ^ n.toNat - 1 : Nat) : Int)
set_option maxHeartbeats 400000 in
theorem all_any (n : Int) (w : World) : Calls Tryd.prog 25 #[.int .i64 n] w (RetIntE (allE n) (procsE n) w) := by
  have H : Hid (allE n = if n < 1 ∨ 5 < n then 0 else ((2 ^ n.toNat - 1 : Nat) : Int)) := rfl
  go_enter Tryd.func25, Tryd.ntmps25
  go_wp2_with fail
  refine (procs_any n w).mono ?_
  rintro e w' ⟨rfl, rfl⟩
  by_cases hn : n < 1 ∨ 5 < n
  · have HM := Lib.hid (H.out.trans (if_pos hn))
    clear H
    have HP := Lib.hid (procsE_bad hn)
    rw [procsE_bad hn]
    go_wp2_with fail
    go_ret2
    exact ⟨by rw [HM.out, HP.out]; rfl, Below.refl _ _⟩
  · have HM := Lib.hid (H.out.trans (if_neg hn))
    clear H
    have HP := Lib.hid (procsE_ok hn)
    rw [procsE_ok hn]
    rcases procs_ok hn with rfl | rfl | rfl | rfl | rfl
    all_goals
      go_wp2_with fail
      go_ret2
      exact ⟨by rw [HM.out, HP.out]; rfl, Below.refl _ _⟩
set_option maxHeartbeats 400000 in
theorem rfull_any (n : Nat) (h1 : 1 ≤ n) (hn : n ≤ 5) (w : World) : Calls Tryd.prog 54 #[.int .i64 n] w fun e w' => e = .returned (.int .i64 ((2 ^ n - 1 : Nat) : Int)) ∧ w = w' := by
  go_enter Tryd.func54, Tryd.ntmps54
  go_wp2_with fail
  refine (power_any n hn w).mono ?_
  rintro e w' ⟨rfl, rfl⟩
  obtain rfl | rfl | rfl | rfl | rfl : n = 1 ∨ n = 2 ∨ n = 3 ∨ n = 4 ∨ n = 5 := by omega
  all_goals
    go_wp2_with fail
    go_ret
    exact ⟨rfl, rfl⟩
set_option maxHeartbeats 400000 in
theorem rall_any (n : Int) (w : World) : Calls Tryd.prog 26 #[.int .i64 n] w (RetIntE (allE n) (procsE n) w) := by
  have H : Hid (allE n = if n < 1 ∨ 5 < n then 0 else ((2 ^ n.toNat - 1 : Nat) : Int)) := rfl
  go_enter Tryd.func26, Tryd.ntmps26
  go_wp2_with fail
  refine (rprocs_any n w).mono ?_
  rintro e w' ⟨rfl, rfl⟩
  by_cases hn : n < 1 ∨ 5 < n
  · have HM := Lib.hid (H.out.trans (if_pos hn))
    clear H
    have HP := Lib.hid (procsE_bad hn)
    rw [procsE_bad hn]
    go_wp2_with fail
    go_ret2
    exact ⟨by rw [HM.out, HP.out]; rfl, Below.refl _ _⟩
  · have HM := Lib.hid (H.out.trans (if_neg hn))
    clear H
    have HP := Lib.hid (procsE_ok hn)
    rw [procsE_ok hn]
    obtain ⟨m, rfl⟩ := Int.eq_ofNat_of_zero_le (show 0 ≤ n by omega)
    go_wp2_with fail
    refine (rfull_any m (by omega) (by omega) w).mono ?_
    rintro e w' ⟨rfl, rfl⟩
    go_wp2_with fail
    go_ret2
    exact ⟨by rw [HM.out, HP.out]; rfl, Below.refl _ _⟩
end Go.Proofs.YtppklecmlkicaaaDoor
