/- The plain words for sets of processes: bits, subsets, numbers. No program in sight. -/
import Derived.Test.YtppklecmlkicaaaDoorBase
import Derived.Laws.BitsAllLaws
import Derived.Laws.BitsLemmas
namespace Go.Proofs.YtppklecmlkicaaaDoor
open Go.RowKit

/-- The elements of a set. -/
def bitsL (s : Nat) : List Nat := (List.range 5).filter fun p => s.testBit p
/-- The subsets of a set, below a bound. -/
def subsTo (s m : Nat) : List Nat := (List.range m).filter fun x => x &&& s == x
def subsL (s : Nat) : List Nat := subsTo s (s + 1)
def cardN (s : Nat) : Nat := (bitsL s).length
def chooseL (s k : Nat) : List Nat := (subsL s).filter fun x => cardN x == k
def low (s : Nat) : Nat := (bitsL s).headD 0
def below32 (p : Nat → Bool) : Bool := (List.range 32).all p
theorem of32 {p : Nat → Bool} (h : below32 p = true) {s : Nat} (hs : s < 32) : p s = true := List.all_eq_true.1 h s (by simpa using hs)

theorem bits_step {r : Nat} (h : r < 32) (h0 : r ≠ 0) : bitsL r = low r :: bitsL (r &&& (r - 1)) ∧ low r < 5 ∧ r &&& (r - 1) < 32 ∧ r &&& (r - 1) < r := by
  have := of32 (p := fun r => r == 0 || (bitsL r == low r :: bitsL (r &&& (r - 1)) && decide (low r < 5) && decide (r &&& (r - 1) < 32) && decide (r &&& (r - 1) < r))) (by decide +kernel) h
  simp only [Bool.or_eq_true, beq_iff_eq, Bool.and_eq_true, decide_eq_true_eq] at this
  rcases this with h | ⟨⟨⟨h1, h2⟩, h3⟩, h4⟩
  · exact absurd h h0
  · exact ⟨h1, h2, h3, h4⟩
theorem bits_zero : bitsL 0 = [] := by decide +kernel

/-- The number behind x among the subsets of s. -/
def nextN (s x : Nat) : Nat := ((32 + x - s) &&& s)
theorem parts_step {s x : Nat} (hs : s < 32) (hx : x < 32) (h1 : x &&& s = x) (h2 : x ≠ s) : nextN s x < 32 ∧ nextN s x &&& s = nextN s x ∧ subsTo s (nextN s x) = subsTo s (x + 1) ∧ x < nextN s x ∧ nextN s x ≤ s := by
  have := of32 (p := fun s => below32 fun x => !(x &&& s == x) || x == s || (decide (nextN s x < 32) && (nextN s x &&& s == nextN s x) && (subsTo s (nextN s x) == subsTo s (x + 1)) && decide (x < nextN s x) && decide (nextN s x ≤ s))) (by decide +kernel) hs
  have := of32 this hx
  simp only [Bool.or_eq_true, Bool.not_eq_true', beq_eq_false_iff_ne, beq_iff_eq, Bool.and_eq_true, decide_eq_true_eq] at this
  rcases this with (h | h) | ⟨⟨⟨⟨a, b⟩, c⟩, d⟩, e⟩
  · exact absurd h1 h
  · exact absurd h h2
  · exact ⟨a, b, c, d, e⟩
theorem sub_le {s x : Nat} (hs : s < 32) (hx : x < 32) (h1 : x &&& s = x) : x ≤ s := by
  have := of32 (p := fun s => below32 fun x => !(x &&& s == x) || decide (x ≤ s)) (by decide +kernel) hs
  have := of32 this hx
  simp only [Bool.or_eq_true, Bool.not_eq_true', beq_eq_false_iff_ne, decide_eq_true_eq] at this
  rcases this with h | h
  · exact absurd h1 h
  · exact h
theorem subsTo_succ {s m : Nat} : subsTo s (m + 1) = if m &&& s = m then subsTo s m ++ [m] else subsTo s m := by
  unfold subsTo
  rw [List.range_succ, List.filter_append]
  by_cases h : m &&& s = m <;> simp [h]

def intL (l : List Nat) : List Int := l.map fun k : Nat => (k : Int)
theorem intL_length (l : List Nat) : (intL l).length = l.length := by simp [intL]
theorem intL_append (l m : List Nat) : intL (l ++ m) = intL l ++ intL m := by simp [intL]
theorem intL_cons (a : Nat) (l : List Nat) : intL (a :: l) = (a : Int) :: intL l := rfl
theorem intL_nil : intL [] = [] := rfl

def bitsTo (s k : Nat) : List Nat := (List.range k).filter fun p => s.testBit p
theorem bitsTo_succ {s k : Nat} : bitsTo s (k + 1) = if s.testBit k = true then bitsTo s k ++ [k] else bitsTo s k := by
  unfold bitsTo
  rw [List.range_succ, List.filter_append]
  by_cases h : s.testBit k = true <;> simp [h]
end Go.Proofs.YtppklecmlkicaaaDoor
