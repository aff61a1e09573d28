/- awake. -/
import Derived.Test.YtppklecmlkicaaaDoorProg
import Derived.Test.YtppklecmlkicaaaDoorWakeB
import Derived.Deep.QuietTactic
import Derived.BigQuiet
import Derived.StillTactics
import Derived.Maps.RangeWalk
namespace Go.Proofs.YtppklecmlkicaaaDoor
open Go.RowKit

/-- A literal slice of integers. -/
theorem IAt.lit (w : World) (xs : List Int) (t : TypeId) : IAt (w.alloc (.cells (xs.map (Value.int .i64)).toArray t)) (w.alloc (.cells (xs.map (Value.int .i64)).toArray t)).heap.size (some ⟨w.heap.size, 0, none⟩) xs := fun _ =>
  ⟨w.heap.size, 0, rfl, by simp, fun i hi => by
    rw [Nat.zero_add]
    exact blk_cell (blk_new w _) i (by simp [hi])⟩

set_option maxRecDepth 100000 in
set_option maxHeartbeats 4000000 in
theorem awake_any (w : World) (hT : Tab w) (m : Int) (hm : w.cell? ⟨3, 0, none⟩ = some (.int .i64 m)) (h4 : 4 ≤ w.heap.size) : Calls Tryd.prog 11 #[] w fun e w' => e = .returned (.bool true) ∧ Below w.heap.size w w' := by
  obtain ⟨p1, p2, p3, p4, p5, p6, p7, p8, p9⟩ := wake_plain
  have c1 := members_any 4 13 w hT (by omega)
  have c2 := size_any 4 13
  have c3 := format_any 4 13
  have c4 := of_any 4
  have c5 := subsets_any 4 5
  have c6 := choose_any 4 5 1
  rw [p1, p2] at c1
  simp only [p2, p3] at c2
  simp only [p2, p4] at c3
  simp only [p6, p7] at c5
  simp only [p8, p9] at c6
  have C2 := Lib.hid c2
  have C3 := Lib.hid c3
  have C4 := Lib.hid c4
  have C5 := Lib.hid c5
  have C6 := Lib.hid c6
  have HT := Lib.hid hT
  have HM := Lib.hid hm
  clear c2 c3 c4 c5 c6 p1 p2 p3 p4 p6 p7 p8 p9 hT hm
  go_enter Tryd.func11, Tryd.ntmps11
  go_wp2_with fail
  refine c1.mono ?_
  rintro e w1 ⟨v1, rfl, ho1, hb1⟩
  obtain ⟨A1, k1, rfl, _, _, hI1⟩ := ho1.form
  have I1 := Lib.hid hI1
  have B1 := Lib.hid hb1
  clear ho1 hI1 hb1 c1
  go_wp2_with fail
  refine (C2.out w1).mono ?_
  rintro e w2 ⟨rfl, hb2⟩
  have B2 := Lib.hid (B1.out.trans (hb2.mono B1.out.size))
  have I1' := Lib.hid (I1.out.up hb2)
  clear hb2 I1
  go_wp2_with fail
  refine (C3.out w2 (HT.out.keep B2.out (by omega)) (by have := B2.out.size; omega)).mono ?_
  rintro e w3 ⟨rfl, hb3⟩
  have B3 := Lib.hid (B2.out.trans (hb3.mono B2.out.size))
  have I1 := Lib.hid (I1'.out.up hb3)
  clear hb3 I1'
  go_wp2_with fail
  have B3' := Lib.hid (B3.out.alloc B3.out.size (.cells #[.int .i64 3, .int .i64 0, .int .i64 2] 3))
  have I1' := Lib.hid (I1.out.up (bel1 w3 (.cells #[.int .i64 3, .int .i64 0, .int .i64 2] 3)))
  have hL := IAt.lit w3 [3, 0, 2] 3
  have hc4 := C4.out _ 3 [3, 0, 2] (by simp) _ hL
  rw [p5] at hc4
  obtain ⟨w4, hw4⟩ : ∃ w4, w3.alloc (.cells #[.int .i64 3, .int .i64 0, .int .i64 2] 3) = w4 := ⟨_, rfl⟩
  rw [show w3.alloc (.cells (([3, 0, 2] : List Int).map (Value.int .i64)).toArray 3) = w4 from hw4] at hc4
  rw [hw4] at B3' I1' ⊢
  clear hL hw4 B3 I1 C4
  refine hc4.mono ?_
  rintro e w5 ⟨rfl, hb5⟩
  have B5 := Lib.hid (B3'.out.trans (hb5.mono B3'.out.size))
  have I1 := Lib.hid (I1'.out.up hb5)
  clear hb5 I1' hc4 p5
  go_wp2_with fail
  refine (C5.out w5).mono ?_
  rintro e w6 ⟨v6, rfl, ho6, hb6⟩
  obtain ⟨A6, k6, rfl, _, _, hI6⟩ := ho6.form
  have B6 := Lib.hid (B5.out.trans (hb6.mono B5.out.size))
  have I1' := Lib.hid (I1.out.up hb6)
  have I6 := Lib.hid hI6
  clear hb6 ho6 hI6 I1
  go_wp2_with fail
  refine (C6.out w6).mono ?_
  rintro e w7 ⟨v7, rfl, ho7, hb7⟩
  obtain ⟨A7, k7, rfl, _, _, hI7⟩ := ho7.form
  have B7 := Lib.hid (B6.out.trans (hb7.mono B6.out.size))
  have I1 := Lib.hid (I1'.out.up hb7)
  have I6' := Lib.hid (I6.out.up hb7)
  have I7 := Lib.hid hI7
  clear hb7 ho7 hI7 I1' I6
  go_wp2_with fail
  have hL1 := IAt.lit w7 [0, 2, 3] 3
  have J1 := Lib.hid (I1.out.up (bel1 w7 (.cells (([0, 2, 3] : List Int).map (Value.int .i64)).toArray 3)))
  have E1 := Lib.hid (eq_iat (c1 := k1) (c2 := 3) J1.out hL1 (by simp) (by simp))
  have D1 := Lib.hid (B7.out.alloc B7.out.size (.cells (([0, 2, 3] : List Int).map (Value.int .i64)).toArray 3))
  have I6a := Lib.hid (I6'.out.up (bel1 w7 (.cells (([0, 2, 3] : List Int).map (Value.int .i64)).toArray 3)))
  have I7a := Lib.hid (I7.out.up (bel1 w7 (.cells (([0, 2, 3] : List Int).map (Value.int .i64)).toArray 3)))
  refine E1.out.mono ?_
  rintro e x1 ⟨rfl, hx1⟩
  have X1 := Lib.hid (D1.out.trans (hx1.mono D1.out.size))
  have I6ax := Lib.hid (I6a.out.up hx1)
  have I7ax := Lib.hid (I7a.out.up hx1)
  clear hx1 hL1
  go_wp2_with fail
  have hL2 := IAt.lit x1 [0, 1, 4, 5] 3
  have J2 := Lib.hid (I6ax.out.up (bel1 x1 (.cells (([0, 1, 4, 5] : List Int).map (Value.int .i64)).toArray 3)))
  have E2 := Lib.hid (eq_iat (c1 := k6) (c2 := 4) J2.out hL2 (by simp) (by simp))
  have D2 := Lib.hid (X1.out.alloc X1.out.size (.cells (([0, 1, 4, 5] : List Int).map (Value.int .i64)).toArray 3))
  have I7b := Lib.hid (I7ax.out.up (bel1 x1 (.cells (([0, 1, 4, 5] : List Int).map (Value.int .i64)).toArray 3)))
  refine E2.out.mono ?_
  rintro e x2 ⟨rfl, hx2⟩
  have X2 := Lib.hid (D2.out.trans (hx2.mono D2.out.size))
  have I7bx := Lib.hid (I7b.out.up hx2)
  clear hx2 hL2
  go_wp2_with fail
  have hL3 := IAt.lit x2 [1, 4] 3
  have J3 := Lib.hid (I7bx.out.up (bel1 x2 (.cells (([1, 4] : List Int).map (Value.int .i64)).toArray 3)))
  have E3 := Lib.hid (eq_iat (c1 := k7) (c2 := 2) J3.out hL3 (by simp) (by simp))
  have D3 := Lib.hid (X2.out.alloc X2.out.size (.cells (([1, 4] : List Int).map (Value.int .i64)).toArray 3))
  refine E3.out.mono ?_
  rintro e x3 ⟨rfl, hx3⟩
  have X3 := Lib.hid (D3.out.trans (hx3.mono D3.out.size))
  clear hx3 hL3
  go_wp2_with fail
  obtain ⟨w8, hw8⟩ : ∃ w8, x3.alloc (.cells #[.string ⟨#[123, 48, 44, 52, 125]⟩, .string ⟨#[123, 50, 44, 48, 125]⟩, .string ⟨#[123, 48, 44, 48, 125]⟩, .string ⟨#[123, 48, 44, 32, 50, 125]⟩] 9) = w8 := ⟨_, rfl⟩
  have hb8 : w8.heap[x3.heap.size]? = some (.cells #[.string ⟨#[123, 48, 44, 52, 125]⟩, .string ⟨#[123, 50, 44, 48, 125]⟩, .string ⟨#[123, 48, 44, 48, 125]⟩, .string ⟨#[123, 48, 44, 32, 50, 125]⟩] 9 (0, 0)) := by rw [← hw8]; exact blk_new _ _
  have B8 := Lib.hid (X3.out.alloc X3.out.size (.cells #[.string ⟨#[123, 48, 44, 52, 125]⟩, .string ⟨#[123, 50, 44, 48, 125]⟩, .string ⟨#[123, 48, 44, 48, 125]⟩, .string ⟨#[123, 48, 44, 32, 50, 125]⟩] 9))
  have hs8 : x3.heap.size < w8.heap.size := blk_lt hb8
  rw [hw8] at B8 ⊢
  have H8 := Lib.hid hb8
  have B3n := X3.out.size
  clear hw8 hb8 X1 X2 X3 D1 D2 D3 E1 E2 E3 J1 J2 J3 I6a I7a I6ax I7ax I7b I7bx B7 I6' I1 I7 B6 B5 B2 B1 C2 C3 C5 C6 B3'
  go_loopw [86] (fun i wr => ∃ k : Nat, k ≤ 4 ∧ i = .int .i64 (k : Int) ∧ Below w8.heap.size w8 wr) (fun i _ => 4 - (intOf i).toNat)
  case atStart => exact ⟨0, by omega, rfl, Below.refl _ _⟩
  case round =>
    obtain ⟨k, hk, rfl, hbl⟩ := hrel
    have HBL := Lib.hid (B8.out.trans (hbl.mono B8.out.size))
    have HBW := Lib.hid hbl
    have h9 := (hbl.block _ hs8).trans H8.out
    clear hbl
    obtain ⟨q1, q2, q3, q4⟩ := wake_parse
    have hm9 := (HBL.out.cell (p := ⟨3, 0, none⟩) (by show 3 < w.heap.size; omega)).trans HM.out
    by_cases hlt : k < 4
    · have y0 := blk_cell h9 0 rfl
      have y1 := blk_cell h9 1 rfl
      have y2 := blk_cell h9 2 rfl
      have y3 := blk_cell h9 3 rfl
      have r1 := parse_all 4 ⟨#[123, 48, 44, 52, 125]⟩ (by decide) wr m hm9
      have r2 := parse_all 4 ⟨#[123, 50, 44, 48, 125]⟩ (by decide) wr m hm9
      have r3 := parse_all 4 ⟨#[123, 48, 44, 48, 125]⟩ (by decide) wr m hm9
      have r4 := parse_all 4 ⟨#[123, 48, 44, 32, 50, 125]⟩ (by decide) wr m hm9
      rw [q1] at r1
      rw [q2] at r2
      rw [q3] at r3
      rw [q4] at r4
      clear q1 q2 q3 q4 h9 hm9
      have R1 := Lib.hid r1
      have R2 := Lib.hid r2
      have R3 := Lib.hid r3
      have R4 := Lib.hid r4
      clear r1 r2 r3 r4
      obtain rfl | rfl | rfl | rfl : k = 0 ∨ k = 1 ∨ k = 2 ∨ k = 3 := by omega
      · go_wp2_with fail
        refine R1.out.mono ?_
        rintro e w9 ⟨rfl, hb9⟩
        have HB9 := Lib.hid (HBW.out.trans (hb9.mono HBW.out.size))
        clear hb9
        go_wp2_with fail
        go_roundw
        case rel => exact ⟨1, by omega, by go_num, HB9.out.alloc HB9.out.size _⟩
        case measure => simp [intOf]
      · go_wp2_with fail
        refine R2.out.mono ?_
        rintro e w9 ⟨rfl, hb9⟩
        have HB9 := Lib.hid (HBW.out.trans (hb9.mono HBW.out.size))
        clear hb9
        go_wp2_with fail
        go_roundw
        case rel => exact ⟨2, by omega, by go_num, HB9.out.alloc HB9.out.size _⟩
        case measure => simp [intOf]
      · go_wp2_with fail
        refine R3.out.mono ?_
        rintro e w9 ⟨rfl, hb9⟩
        have HB9 := Lib.hid (HBW.out.trans (hb9.mono HBW.out.size))
        clear hb9
        go_wp2_with fail
        go_roundw
        case rel => exact ⟨3, by omega, by go_num, HB9.out.alloc HB9.out.size _⟩
        case measure => simp [intOf]
      · go_wp2_with fail
        refine R4.out.mono ?_
        rintro e w9 ⟨rfl, hb9⟩
        have HB9 := Lib.hid (HBW.out.trans (hb9.mono HBW.out.size))
        clear hb9
        go_wp2_with fail
        go_roundw
        case rel => exact ⟨4, by omega, by go_num, HB9.out.alloc HB9.out.size _⟩
        case measure => simp [intOf]
    · obtain rfl : k = 4 := by omega
      go_wp2_with fail
      go_ret
      exact ⟨rfl, HBL.out⟩
end Go.Proofs.YtppklecmlkicaaaDoor
