/- The law Lists: its walk. -/
import Derived.Test.YtppklecmlkicaaaDoorProg
import Derived.Test.YtppklecmlkicaaaDoorLwRd
import Derived.Test.YtppklecmlkicaaaDoorPLeast
import Derived.Deep.QuietTactic
import Derived.BigQuiet
import Derived.StillTactics
namespace Go.Proofs.YtppklecmlkicaaaDoor
open Go.RowKit

theorem memL_length (n s : Int) : (memL n s).length ≤ 5 := by
  unfold memL
  split
  · rw [intL_length]; exact bits_length _ 5
  · simp

set_option maxRecDepth 100000 in
set_option maxHeartbeats 4000000 in
theorem lists_any (n s : Int) (w : World) (hT : Tab w) (m : Int) (hm : w.cell? ⟨3, 0, none⟩ = some (.int .i64 m)) (h4 : 4 ≤ w.heap.size) :
    Calls Tryd.prog 7 #[.int .i64 n, .int .i64 s] w fun e w' => e = .returned (.bool true) ∧ Below w.heap.size w w' := by
  have HT := Lib.hid hT
  have HM := Lib.hid hm
  have l1 := memL_length n s
  have C1 := Lib.hid (all_any n)
  have C2 := Lib.hid (rall_any n)
  have C3 := Lib.hid (members_any n s)
  have C4 := Lib.hid (rmembers_any n s)
  have C5 := Lib.hid (size_any n s)
  have C6 := Lib.hid (rsize_any n s)
  have C7 := Lib.hid (least_any n s)
  have C8 := Lib.hid (rleast_any n s)
  have C9 := Lib.hid (check_any n s)
  have C10 := Lib.hid (rcheck_any n s)
  obtain ⟨L1, hL1⟩ : ∃ L, memL n s = L := ⟨_, rfl⟩
  obtain ⟨x1, hx1⟩ : ∃ L, allE n = L := ⟨_, rfl⟩
  obtain ⟨x2, hx2⟩ : ∃ L, procsE n = L := ⟨_, rfl⟩
  obtain ⟨x3, hx3⟩ : ∃ L, checkSE n s = L := ⟨_, rfl⟩
  obtain ⟨x4, hx4⟩ : ∃ L, sizeE n s = L := ⟨_, rfl⟩
  obtain ⟨x5, hx5⟩ : ∃ L, leastE n s = L := ⟨_, rfl⟩
  rw [hL1] at l1 C3 C4
  rw [hx1, hx2] at C1 C2
  rw [hx3] at C3 C4
  rw [hx4, hx3] at C5 C6
  rw [hx5] at C7 C8
  rw [hx3] at C9 C10
  obtain ⟨y1, y2⟩ := x5
  clear hT hm hL1 hx1 hx2 hx3 hx4 hx5
  go_enter Tryd.func7, Tryd.ntmps7
  go_wp2_with fail
  refine (C1.out w).mono ?_
  rintro e w1 ⟨rfl, hb⟩
  have B1 := Lib.hid hb
  clear hb
  go_wp2_with fail
  refine (C2.out w1).mono ?_
  rintro e w2 ⟨rfl, hb⟩
  have B2 := Lib.hid (B1.out.trans (hb.mono B1.out.size))
  clear hb B1
  go_wp2_with fail
  refine (C3.out w2 (HT.out.keep B2.out (by omega)) (by have := B2.out.size; omega)).mono ?_
  rintro e w3 ⟨v3, rfl, ho3, hb⟩
  obtain ⟨A3, k3, rfl, _, _, hI3⟩ := ho3.form
  have I3 := Lib.hid hI3
  have B3 := Lib.hid (B2.out.trans (hb.mono B2.out.size))
  clear ho3 hI3 hb B2
  go_wp2_with fail
  refine (C4.out w3).mono ?_
  rintro e w4 ⟨v4, rfl, ho4, hb⟩
  obtain ⟨A4, k4, rfl, _, _, hI4⟩ := ho4.form
  have I4 := Lib.hid hI4
  have I3a := Lib.hid (I3.out.up hb)
  have B4 := Lib.hid (B3.out.trans (hb.mono B3.out.size))
  clear ho4 hI4 hb B3 I3
  go_wp2_with fail
  refine (C5.out w4).mono ?_
  rintro e w5 ⟨rfl, hb⟩
  have I3 := Lib.hid (I3a.out.up hb)
  have I4a := Lib.hid (I4.out.up hb)
  have B5 := Lib.hid (B4.out.trans (hb.mono B4.out.size))
  clear hb B4 I3a I4
  go_wp2_with fail
  refine (C6.out w5).mono ?_
  rintro e w6 ⟨rfl, hb⟩
  have I3a := Lib.hid (I3.out.up hb)
  have I4 := Lib.hid (I4a.out.up hb)
  have B6 := Lib.hid (B5.out.trans (hb.mono B5.out.size))
  clear hb B5 I3 I4a
  go_wp2_with fail
  refine (C7.out w6 (HT.out.keep B6.out (by omega)) (by have := B6.out.size; omega)).mono ?_
  rintro e w7 ⟨rfl, hb⟩
  have I3 := Lib.hid (I3a.out.up hb)
  have I4a := Lib.hid (I4.out.up hb)
  have B7 := Lib.hid (B6.out.trans (hb.mono B6.out.size))
  clear hb B6 I3a I4
  go_wp2_with fail
  refine (C8.out w7).mono ?_
  rintro e w8 ⟨rfl, hb⟩
  have I3a := Lib.hid (I3.out.up hb)
  have I4 := Lib.hid (I4a.out.up hb)
  have B8 := Lib.hid (B7.out.trans (hb.mono B7.out.size))
  clear hb B7 I3 I4a
  go_wp2_with fail
  refine (C9.out w8).mono ?_
  rintro e w9 ⟨rfl, rfl⟩
  go_wp2_with fail
  refine (C10.out w8).mono ?_
  rintro e w9 ⟨rfl, rfl⟩
  have S1 := same_any A3 A4 k3 k4 L1 L1 (by omega) (by omega) w8 I3a.out I4.out
  rw [decide_eq_true rfl] at S1
  go_wp2_with fail
  refine S1.mono ?_
  rintro e w9 ⟨rfl, hb⟩
  have B9 := Lib.hid (B8.out.trans (hb.mono B8.out.size))
  have c5 := awake_any w9 (HT.out.keep B9.out (by omega)) m ((B9.out.cell (p := ⟨3, 0, none⟩) (by show 3 < w.heap.size; omega)).trans HM.out) (by have := B9.out.size; omega)
  clear hb S1
  go_wp2_with fail
  refine c5.mono ?_
  rintro e w10 ⟨rfl, hb⟩
  have B10 := Lib.hid (B9.out.trans (hb.mono B9.out.size))
  clear hb c5
  go_wp2_with fail
  go_ret
  exact ⟨rfl, B10.out⟩
end Go.Proofs.YtppklecmlkicaaaDoor
