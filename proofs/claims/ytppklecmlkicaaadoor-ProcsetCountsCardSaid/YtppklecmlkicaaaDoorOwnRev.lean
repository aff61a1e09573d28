/- slices.Reverse at a slice of integers of the call's own. -/
import Derived.Test.YtppklecmlkicaaaDoorProg
import Derived.Test.YtppklecmlkicaaaDoorShelf
import Derived.Test.YtppklecmlkicaaaDoorApp
import Derived.Sort.OwnSortedInts
import Derived.Lib.RowBridge
namespace Go.Proofs.YtppklecmlkicaaaDoor
open Go.RowKit

theorem own_partsR {w : World} {base : Nat} {v : Value} {xs : List Int} (h : Own w base v xs) (hne : 0 < xs.length) : ∃ g cap cur, v = .slice (some ⟨g, 0, none⟩) xs.length cap ∧ base ≤ g ∧ w.heap[g]? = some (.cells cur 3 (0, 0)) ∧ xs.length ≤ cap ∧ cap ≤ maxLen ∧ cur.size = cap * 1 ∧ cur.toList.take xs.length = xs.map (Value.int .i64) := by
  rcases h.2 with ⟨_, e⟩ | ⟨g, cap, cur, hv, hb, hg, h1, h2, h3, h4⟩
  · omega
  · exact ⟨g, cap, cur, hv, hb, hg, h1, h2, h3, by rw [Nat.mul_one] at h4; exact h4⟩

theorem reverse_own {w : World} {base : Nat} {v : Value} {xs : List Int} (h : Own w base v xs) (hl : xs.length ≤ 1000000) :
    Calls Tryd.prog 34 #[v] w fun e w' => e = .returned (.tuple #[]) ∧ Own w' base v xs.reverse ∧ w.grownBy w' v.ownBlock := by
  by_cases hne : 0 < xs.length
  · obtain ⟨g, cap, cur, rfl, hb, hg, h1, h2, h3, h4⟩ := own_partsR h hne
    refine (Tryd.slices_Reverse_int g 0 cap xs w (holds_of_blockI hg h4) (by omega)).mono ?_
    rintro e w' ⟨rfl, n, rfl⟩
    have e0 : Sort.putRow (Value.int .i64) (Sort.ahead w n) g 0 xs.reverse.toArray = Sort.grow (Sort.putRow (Value.int .i64) (Sort.ahead w n) g 0 xs.reverse.toArray) #[] := by simp
    refine ⟨rfl, ?_, by rw [e0]; exact grownBy_sortedI _⟩
    have := ownsRow_sortedI (w := w) (base := base) (n := n) (os := #[]) (ss := xs) (ts := xs.reverse) List.length_reverse hb hg h1 h2 h3
    rw [← e0] at this
    unfold Own
    rw [List.length_reverse]
    exact this
  · have h0 : xs = [] := List.eq_nil_of_length_eq_zero (by omega)
    subst h0
    obtain ⟨A, cap, rfl, _⟩ := h.form
    refine (Tryd.slices_Reverse_int_empty A cap w).mono ?_
    rintro e w' ⟨rfl, rfl⟩
    exact ⟨rfl, h, World.grownBy.refl _ _⟩
end Go.Proofs.YtppklecmlkicaaaDoor
