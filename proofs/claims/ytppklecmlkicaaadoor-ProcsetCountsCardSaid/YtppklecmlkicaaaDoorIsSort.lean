/- slices.IsSorted at a rising slice of integers. -/
import Derived.Test.YtppklecmlkicaaaDoorProg
import Derived.Test.YtppklecmlkicaaaDoorLeast
import Derived.IntWalk
import Derived.Deep.QuietTactic
import Derived.BigQuiet
import Derived.StillTactics
namespace Go.Proofs.YtppklecmlkicaaaDoor
open Go.RowKit

def Rise (l : List Int) : Prop := ∀ i (h : i + 1 < l.length), l[i] < l[i + 1]

theorem isnan_any (x : Int) (w : World) : Calls Tryd.prog 73 #[.int .i64 x] w fun e w' => e = .returned (.bool false) ∧ w' = w := by
  go_enter Tryd.func73, Tryd.ntmps73
  go_wp2
  go_ret
  exact ⟨by simp, rfl⟩
theorem less_any (x y : Int) (w : World) : Calls Tryd.prog 57 #[.int .i64 x, .int .i64 y] w fun e w' => e = .returned (.bool (decide (x < y))) ∧ w' = w := by
  go_enter Tryd.func57, Tryd.ntmps57
  go_wp2_with (go_at_call 73; refine (isnan_any _ _).mono ?_; rintro e w' ⟨rfl, rfl⟩)
  go_ret
  exact ⟨by simp, rfl⟩

set_option maxRecDepth 100000 in
set_option maxHeartbeats 2000000 in
theorem sorted_any (A : Option Addr) (cap : Nat) (xs : List Int) (hl : xs.length ≤ 1000000) (hs : Rise xs) (w : World) (hA : IAt w w.heap.size A xs) :
    Calls Tryd.prog 33 #[.slice A xs.length cap] w fun e w' => e = .returned (.bool true) ∧ Below w.heap.size w w' := by
  have HA := Lib.hid hA
  have HS := Lib.hid hs
  clear hA hs
  go_enter Tryd.func33, Tryd.ntmps33
  go_wp2_with fail
  go_loopw [3] (fun i wr => ∃ j : Int, -1 ≤ j ∧ j < xs.length ∧ i = .int .i64 j ∧ Below w.heap.size w wr) (fun i _ => (intOf i).toNat)
  case atStart => exact ⟨(xs.length : Int) - 1, by omega, by omega, rfl, Below.refl _ _⟩
  case round =>
    obtain ⟨j, hj, hjl, rfl, hbl⟩ := hrel
    by_cases h0 : 0 < j
    · obtain ⟨k, rfl⟩ : ∃ k : Nat, j = (k : Int) + 1 := ⟨(j - 1).toNat, by omega⟩
      have hk1 : k + 1 < xs.length := by omega
      obtain ⟨b1, o1, rfl, hb1, c1⟩ := (HA.out.keep hbl).at_ (k + 1) hk1
      obtain ⟨b2, o2, e2, hb2, c2⟩ := (HA.out.keep hbl).at_ k (by omega)
      cases e2
      have hlt := HS.out k hk1
      obtain ⟨x, hx⟩ : ∃ x, xs[k + 1] = x := ⟨_, rfl⟩
      obtain ⟨y, hy⟩ : ∃ y, xs[k] = y := ⟨_, rfl⟩
      rw [hx] at c1 hlt
      rw [hy] at c2 hlt
      have e1 : ((k : Int) + 1).toNat = k + 1 := by omega
      have e3 : IntKind.i64.wrap ((k : Int) + 1 - 1) = (k : Int) := by rw [IntKind.wrap_i64]; omega
      have e4 : (0 : Int) ≤ (k : Int) + 1 := by omega
      have e5 : IntKind.i64.wrap ((k : Int) + 1) = (k : Int) + 1 := by rw [IntKind.wrap_i64]; omega
      have hnl : decide (x < y) = false := by simp; omega
      have HBL := Lib.hid hbl
      clear hx hy hbl
      go_wp2_with fail
      go_quiet ((go_at_call 57; exact Calls.quiet_of_same (less_any _ _ _)))
      clear c1 c2 e1 e3 e5 hnl
      go_wp2_with fail
      go_roundw
      case rel => exact ⟨(k : Int), by omega, by omega, by go_num, belN HBL.out _⟩
      case measure => simp [intOf]
    · have HBL := Lib.hid hbl
      clear hbl
      go_wp2_with fail
      go_ret
      exact ⟨rfl, HBL.out⟩
end Go.Proofs.YtppklecmlkicaaaDoor
