/- The law Chooses: its walk. -/
import Derived.Test.YtppklecmlkicaaaDoorProg
import Derived.Test.YtppklecmlkicaaaDoorLwCo
import Derived.Deep.QuietTactic
import Derived.BigQuiet
import Derived.StillTactics
namespace Go.Proofs.YtppklecmlkicaaaDoor
open Go.RowKit

theorem subL_length (n s : Int) : (subL n s).length ≤ 32 := by
  unfold subL
  split
  · rename_i h
    obtain ⟨_, t, _, rfl, _, _, _, h32⟩ := check_ok h
    rw [intL_length]
    have := subs_length t (t + 1)
    show (subsTo t (t + 1)).length ≤ 32
    omega
  · simp
theorem chooL_length (n s k : Int) : (chooL n s k).length ≤ 32 := by
  unfold chooL
  split
  · rename_i h
    refine Nat.le_trans (List.length_filter_le _ _) ?_
    by_cases hc : checkSE n s = 0
    · have := subL_length n s
      unfold subL at this
      rwa [if_pos hc] at this
    · rw [chooseE_bad hc] at h
      exact absurd h hc
  · simp

set_option maxRecDepth 100000 in
set_option maxHeartbeats 2000000 in
theorem chooses_any (n s k : Int) (w : World) (hT : Tab w) (m : Int) (hm : w.cell? ⟨3, 0, none⟩ = some (.int .i64 m)) (h4 : 4 ≤ w.heap.size) :
    Calls Tryd.prog 4 #[.int .i64 n, .int .i64 s, .int .i64 k] w fun e w' => e = .returned (.bool true) ∧ Below w.heap.size w w' := by
  have HT := Lib.hid hT
  have HM := Lib.hid hm
  have l1 := subL_length n s
  have l2 := chooL_length n s k
  have C1 := Lib.hid (subsets_any n s)
  have C2 := Lib.hid (rsubsets_any n s)
  have C3 := Lib.hid (choose_any n s k)
  have C4 := Lib.hid (rchoose_any n s k)
  obtain ⟨L1, hL1⟩ : ∃ L, subL n s = L := ⟨_, rfl⟩
  obtain ⟨L2, hL2⟩ : ∃ L, chooL n s k = L := ⟨_, rfl⟩
  rw [hL1] at l1 C1 C2
  rw [hL2] at l2 C3 C4
  clear hT hm hL1 hL2
  go_enter Tryd.func4, Tryd.ntmps4
  go_wp2_with fail
  refine (C1.out w).mono ?_
  rintro e w1 ⟨v1, rfl, ho1, hb1⟩
  obtain ⟨A1, k1, rfl, _, _, hI1⟩ := ho1.form
  have B1 := Lib.hid hb1
  have I1 := Lib.hid hI1
  clear ho1 hI1 hb1
  go_wp2_with fail
  refine (C2.out w1).mono ?_
  rintro e w2 ⟨v2, rfl, ho2, hb2⟩
  obtain ⟨A2, k2, rfl, _, _, hI2⟩ := ho2.form
  have B2 := Lib.hid (B1.out.trans (hb2.mono B1.out.size))
  have I1a := Lib.hid (I1.out.up hb2)
  have I2 := Lib.hid hI2
  clear ho2 hI2 hb2 I1
  go_wp2_with fail
  refine (C3.out w2).mono ?_
  rintro e w3 ⟨v3, rfl, ho3, hb3⟩
  obtain ⟨A3, k3, rfl, _, _, hI3⟩ := ho3.form
  have B3 := Lib.hid (B2.out.trans (hb3.mono B2.out.size))
  have I1b := Lib.hid (I1a.out.up hb3)
  have I2b := Lib.hid (I2.out.up hb3)
  have I3 := Lib.hid hI3
  clear ho3 hI3 hb3 I1a I2
  go_wp2_with fail
  refine (C4.out w3).mono ?_
  rintro e w4 ⟨v4, rfl, ho4, hb4⟩
  obtain ⟨A4, k4, rfl, _, _, hI4⟩ := ho4.form
  have B4 := Lib.hid (B3.out.trans (hb4.mono B3.out.size))
  have I1c := Lib.hid (I1b.out.up hb4)
  have I2c := Lib.hid (I2b.out.up hb4)
  have I3c := Lib.hid (I3.out.up hb4)
  have I4 := Lib.hid hI4
  have S1 := same_any A1 A2 k1 k2 L1 L1 (by omega) (by omega) w4 I1c.out I2c.out
  rw [decide_eq_true rfl] at S1
  clear ho4 hI4 hb4
  go_wp2_with fail
  refine S1.mono ?_
  rintro e w5 ⟨rfl, hb5⟩
  have B5 := Lib.hid (B4.out.trans (hb5.mono B4.out.size))
  have S2 := same_any A3 A4 k3 k4 L2 L2 (by omega) (by omega) w5 (I3c.out.up hb5) (I4.out.up hb5)
  rw [decide_eq_true rfl] at S2
  clear hb5 S1
  go_wp2_with fail
  refine S2.mono ?_
  rintro e w6 ⟨rfl, hb6⟩
  have B6 := Lib.hid (B5.out.trans (hb6.mono B5.out.size))
  have c5 := awake_any w6 (HT.out.keep B6.out (by omega)) m ((B6.out.cell (p := ⟨3, 0, none⟩) (by show 3 < w.heap.size; omega)).trans HM.out) (by have := B6.out.size; omega)
  clear hb6 S2
  go_wp2_with fail
  refine c5.mono ?_
  rintro e w7 ⟨rfl, hb7⟩
  have B7 := Lib.hid (B6.out.trans (hb7.mono B6.out.size))
  clear hb7 c5
  go_wp2_with fail
  go_ret
  exact ⟨rfl, B7.out⟩
end Go.Proofs.YtppklecmlkicaaaDoor
