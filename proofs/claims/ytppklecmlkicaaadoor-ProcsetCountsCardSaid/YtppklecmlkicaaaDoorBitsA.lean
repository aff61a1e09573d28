/- math/bits.OnesCount, TrailingZeros below 32. -/
import Derived.Test.YtppklecmlkicaaaDoorProg
import Derived.Test.YtppklecmlkicaaaDoorSets
import Derived.Laws.Bits64b
namespace Go.Proofs.YtppklecmlkicaaaDoor
open Go.RowKit

theorem lt32 {x : Nat} (h : x < 32) : x = 0 ∨ x = 1 ∨ x = 2 ∨ x = 3 ∨ x = 4 ∨ x = 5 ∨ x = 6 ∨ x = 7 ∨ x = 8 ∨ x = 9 ∨ x = 10 ∨ x = 11 ∨ x = 12 ∨ x = 13 ∨ x = 14 ∨ x = 15 ∨ x = 16 ∨ x = 17 ∨ x = 18 ∨ x = 19 ∨ x = 20 ∨ x = 21 ∨ x = 22 ∨ x = 23 ∨ x = 24 ∨ x = 25 ∨ x = 26 ∨ x = 27 ∨ x = 28 ∨ x = 29 ∨ x = 30 ∨ x = 31 := by omega

set_option maxRecDepth 100000 in
theorem ones64_any (x : Nat) (hx : x < 32) (w : World) : Calls Tryd.prog 63 #[.int .u64 x] w fun e w' => e = .returned (.int .i64 (cardN x : Nat)) ∧ w = w' := by
  go_enter Tryd.func63, Tryd.ntmps63
  go_wp2
  go_ret
  refine ⟨ret_int ?_, rfl⟩
  rcases lt32 hx with rfl | rfl | rfl | rfl | rfl | rfl | rfl | rfl | rfl | rfl | rfl | rfl | rfl | rfl | rfl | rfl | rfl | rfl | rfl | rfl | rfl | rfl | rfl | rfl | rfl | rfl | rfl | rfl | rfl | rfl | rfl | rfl
  all_goals decide +kernel
theorem ones_any (x : Nat) (hx : x < 32) (w : World) : Calls Tryd.prog 46 #[.int .u64 x] w fun e w' => e = .returned (.int .i64 (cardN x : Nat)) ∧ w = w' := by
  go_enter Tryd.func46, Tryd.ntmps46
  go_wp2_with fail
  refine (ones64_any x hx w).mono ?_
  rintro e w' ⟨rfl, rfl⟩
  go_wp2_with fail
  go_ret
  exact ⟨rfl, rfl⟩

/-- The library's table in its variable. -/
def Tab (w : World) : Prop := ∀ j : Nat, j < 32 → j ≠ 0 → w.cell? ⟨1, (IntKind.u64.wrap (bits BinOp.and IntKind.u64 (j : Int) (IntKind.u64.wrap (-(j : Int))) * 285870213051353865) / 288230376151711744).toNat, none⟩ = some (.int .u8 (low j : Nat))
theorem Tab.keep {w w' : World} {B : Nat} (h : Tab w) (hb : Below B w w') (hB : 2 ≤ B) : Tab w' := fun j hj h0 => (hb.cell (p := ⟨1, _, none⟩) (by show 1 < B; omega)).trans (h j hj h0)

set_option maxRecDepth 100000 in
theorem tz64_any (x : Nat) (hx : x < 32) (h0 : x ≠ 0) (w : World) (hT : Tab w) : Calls Tryd.prog 85 #[.int .u64 x] w fun e w' => e = .returned (.int .i64 (low x : Nat)) ∧ w = w' := by
  have hc := hT x hx h0
  have e0 : ((x : Int) == 0) = false := by simp; omega
  have hl : low x < 5 := (bits_step hx h0).2.1
  obtain ⟨I, hI, h1, h2⟩ : ∃ I : Nat, IntKind.u64.wrap (bits BinOp.and IntKind.u64 (x : Int) (IntKind.u64.wrap (-(x : Int))) * 285870213051353865) / 288230376151711744 = (I : Int) ∧ 0 ≤ I ∧ I < 64 := by
    refine ⟨(IntKind.u64.wrap (bits BinOp.and IntKind.u64 (x : Int) (IntKind.u64.wrap (-(x : Int))) * 285870213051353865) / 288230376151711744).toNat, ?_, Nat.zero_le _, ?_⟩
    all_goals
      clear hc hT e0 hl h0
      rcases lt32 hx with rfl | rfl | rfl | rfl | rfl | rfl | rfl | rfl | rfl | rfl | rfl | rfl | rfl | rfl | rfl | rfl | rfl | rfl | rfl | rfl | rfl | rfl | rfl | rfl | rfl | rfl | rfl | rfl | rfl | rfl | rfl | rfl
      all_goals decide +kernel
  rw [hI, Int.toNat_natCast] at hc
  clear hT h0
  go_enter Tryd.func85, Tryd.ntmps85
  go_wp2
  go_ret
  exact ⟨rfl, rfl⟩
theorem tz_any (x : Nat) (hx : x < 32) (h0 : x ≠ 0) (w : World) (hT : Tab w) : Calls Tryd.prog 65 #[.int .u64 x] w fun e w' => e = .returned (.int .i64 (low x : Nat)) ∧ w = w' := by
  have hc := tz64_any x hx h0 w hT
  have HC := Lib.hid hc
  clear hc hT
  go_enter Tryd.func65, Tryd.ntmps65
  go_wp2_with fail
  refine HC.out.mono ?_
  rintro e w' ⟨rfl, rfl⟩
  go_wp2_with fail
  go_ret
  exact ⟨rfl, rfl⟩
end Go.Proofs.YtppklecmlkicaaaDoor
