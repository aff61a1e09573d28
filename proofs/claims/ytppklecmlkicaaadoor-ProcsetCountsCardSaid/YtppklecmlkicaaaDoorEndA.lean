/- Plain facts for the laws Mirrors, Returns, Counts, Lists. -/
import Derived.Test.YtppklecmlkicaaaDoorProg
import Derived.Test.YtppklecmlkicaaaDoorParses
import Derived.Test.YtppklecmlkicaaaDoorLwCh
namespace Go.Proofs.YtppklecmlkicaaaDoor
open Go.RowKit

/-- The subsets of s with k elements. -/
def chA (s k : Nat) : List Int := (intL (subsL s)).filter (fun x => ((cardN x.toNat : Nat) : Int) == (k : Int))

theorem card_le (s : Nat) : cardN s ≤ 5 := bits_length s 5
theorem mirror_plain {s k : Nat} (hs : s < 32) (hk : k ≤ cardN s) : chA s (cardN s - k) = ((chA s k).map fun x => (s : Int) - x).reverse := by
  have h := of32 (p := fun s => (List.range 6).all fun k => !decide (k ≤ cardN s) || decide (chA s (cardN s - k) = ((chA s k).map fun x => (s : Int) - x).reverse)) (by decide +kernel) hs
  have := card_le s
  have h := List.all_eq_true.1 h k (by simp; omega)
  simpa [hk] using h
theorem choo_at {m s : Nat} {k : Nat} (hc : checkSE m s = 0) (hk : k ≤ cardN s) : chooseE m s k = 0 ∧ chooL m s k = chA s k := by
  have hz : sizeE (m : Int) (s : Int) = (cardN s : Int) := by unfold sizeE; rw [if_pos hc]; rfl
  have h0 : chooseE (m : Int) (s : Int) (k : Int) = 0 := chooseE_ok hc (by rw [hz]; omega)
  refine ⟨h0, ?_⟩
  unfold chooL
  rw [if_pos h0]
  rfl
theorem chA_length (s k : Nat) (hs : s < 32) : (chA s k).length ≤ 32 := by
  unfold chA
  refine Nat.le_trans (List.length_filter_le _ _) ?_
  rw [intL_length]
  have := subs_length s (s + 1)
  unfold subsL
  omega
theorem chA_mem {s k : Nat} (hs : s < 32) {x : Int} (h : x ∈ chA s k) : ∃ t : Nat, x = (t : Int) ∧ t ≤ s ∧ t &&& s = t ∧ cardN t = k := by
  obtain ⟨h1, h2⟩ := List.mem_filter.1 h
  obtain ⟨t, ht, rfl⟩ := List.mem_map.1 h1
  obtain ⟨a, b⟩ := List.mem_filter.1 ht
  have a := List.mem_range.1 a
  refine ⟨t, rfl, by omega, by simpa using b, ?_⟩
  have h3 : ((cardN t : Nat) : Int) = (k : Int) := by simpa using h2
  omega
theorem low_plain {s : Nat} (hs : s < 32) (h0 : s ≠ 0) : s.testBit (low s) = true ∧ low s < 5 ∧ 2 ^ low s ≤ s ∧ s &&& (2 ^ low s - 1) = 0 := by
  have h := of32 (p := fun s => s == 0 || (s.testBit (low s) && decide (low s < 5) && decide (2 ^ low s ≤ s) && (s &&& (2 ^ low s - 1) == 0))) (by decide +kernel) hs
  simp only [Bool.or_eq_true, beq_iff_eq, Bool.and_eq_true, decide_eq_true_eq] at h
  rcases h with h | ⟨⟨⟨h1, h2⟩, h3⟩, h4⟩
  · exact absurd h h0
  · exact ⟨h1, h2, h3, h4⟩
theorem card_zero {s : Nat} (hs : s < 32) : cardN s = 0 ↔ s = 0 := by
  have h := of32 (p := fun s => decide (cardN s = 0 ↔ s = 0)) (by decide +kernel) hs
  simpa using h
theorem low_lt {m s : Nat} (hs : s < 32) (h0 : s ≠ 0) (hm : s < 2 ^ m) : low s < m := by
  have := (low_plain hs h0).2.2.1
  exact (Nat.pow_lt_pow_iff_right (by omega)).1 (Nat.lt_of_le_of_lt this hm)

/-! ### Returns -/
theorem of_mem {m s : Nat} (h1 : 1 ≤ m) (h5 : m ≤ 5) (hs : s < 2 ^ m) : ofE m (intL (bitsL s)) = ((s : Int), 0) ∧ ofE m (intL (bitsL s)).reverse = ((s : Int), 0) := by
  have h := of32 (p := fun s => (List.range 6).all fun m => m == 0 || !decide (s < 2 ^ m) || decide (ofE m (intL (bitsL s)) = ((s : Int), 0) ∧ ofE m (intL (bitsL s)).reverse = ((s : Int), 0))) (by decide +kernel) (s := s) (by
    have : 2 ^ m ≤ 2 ^ 5 := Nat.pow_le_pow_right (by omega) h5
    omega)
  have h := List.all_eq_true.1 h m (by simp; omega)
  have e0 : ¬ m = 0 := by omega
  simpa [hs, e0] using h
theorem parse_text {m s : Nat} (h1 : 1 ≤ m) (h5 : m ≤ 5) (hs : s < 2 ^ m) : parseE m ⟨(textL s).toArray⟩ (numsE ⟨(textL s).toArray⟩) = ((s : Int), 0) := by
  have h := of32 (p := fun s => (List.range 6).all fun m => m == 0 || !decide (s < 2 ^ m) || decide (parseE m ⟨(textL s).toArray⟩ (numsE ⟨(textL s).toArray⟩) = ((s : Int), 0))) (by decide +kernel) (s := s) (by
    have : 2 ^ m ≤ 2 ^ 5 := Nat.pow_le_pow_right (by omega) h5
    omega)
  have h := List.all_eq_true.1 h m (by simp; omega)
  have e0 : ¬ m = 0 := by omega
  simpa [hs, e0] using h
theorem bits_rise {s : Nat} (hs : s < 32) {i : Nat} (hi : i + 1 < (intL (bitsL s)).length) : (intL (bitsL s))[i] < (intL (bitsL s))[i + 1] := by
  have h := of32 (p := fun s => (List.range 5).all fun i => !decide (i + 1 < (intL (bitsL s)).length) || decide ((intL (bitsL s)).getD i 0 < (intL (bitsL s)).getD (i + 1) 0)) (by decide +kernel) hs
  have hl := card_le s
  unfold cardN at hl
  rw [intL_length] at hi
  have h := List.all_eq_true.1 h i (by simp; omega)
  rw [intL_length] at h
  simp only [hi, decide_true, Bool.not_true, Bool.false_or, decide_eq_true_eq] at h
  rw [getD_at (by rw [intL_length]; omega), getD_at (by rw [intL_length]; exact hi)] at h
  exact h

/-! ### Counts -/
theorem subs_card {s : Nat} (hs : s < 32) : (subsL s).length = 2 ^ cardN s := by
  have h := of32 (p := fun s => decide ((subsL s).length = 2 ^ cardN s)) (by decide +kernel) hs
  simpa using h
theorem subs_rise {s : Nat} (hs : s < 32) {i : Nat} (hi : i + 1 < (intL (subsL s)).length) : (intL (subsL s))[i] < (intL (subsL s))[i + 1] := by
  have h := of32 (p := fun s => (List.range 32).all fun i => !decide (i + 1 < (intL (subsL s)).length) || decide ((intL (subsL s)).getD i 0 < (intL (subsL s)).getD (i + 1) 0)) (by decide +kernel) hs
  have hl := subs_length s (s + 1)
  rw [intL_length] at hi
  have hi2 : i < 32 := by unfold subsL at hi; omega
  have h := List.all_eq_true.1 h i (by simpa using hi2)
  rw [intL_length] at h
  simp only [hi, decide_true, Bool.not_true, Bool.false_or, decide_eq_true_eq] at h
  rw [getD_at (by rw [intL_length]; omega), getD_at (by rw [intL_length]; exact hi)] at h
  exact h
/-- The subsets, number by number. -/
def layers (s : Nat) : Nat → List Int
  | 0 => []
  | k + 1 => layers s k ++ chA s k
theorem layers_length {s : Nat} (hs : s < 32) {k : Nat} (hk : k ≤ 6) : (layers s k).length ≤ 32 := by
  have h := of32 (p := fun s => (List.range 7).all fun k => decide ((layers s k).length ≤ 32)) (by decide +kernel) hs
  have h := List.all_eq_true.1 h k (by simp; omega)
  simpa using h
theorem layers_perm {s : Nat} (hs : s < 32) : (layers s (cardN s + 1)).Perm (intL (subsL s)) := by
  have h := of32 (p := fun s => (layers s (cardN s + 1)).isPerm (intL (subsL s))) (by decide +kernel) hs
  exact List.isPerm_iff.1 h
theorem layers_sort {s : Nat} (hs : s < 32) : ((layers s (cardN s + 1)).mergeSort fun x y => decide (x ≤ y)) = intL (subsL s) := by
  have h1 := List.pairwise_mergeSort (le := fun x y : Int => decide (x ≤ y)) (fun a b c h1 h2 => by simp at *; omega) (fun a b => by simp; omega) (layers s (cardN s + 1))
  have h2 : (intL (subsL s)).Pairwise (fun x y : Int => decide (x ≤ y) = true) := by
    have h := of32 (p := fun s => decide ((intL (subsL s)).Pairwise (fun x y : Int => x ≤ y))) (by decide +kernel) hs
    have h : (intL (subsL s)).Pairwise (fun x y : Int => x ≤ y) := by simpa using h
    exact h.imp fun h => decide_eq_true h
  refine List.Perm.eq_of_pairwise (le := fun x y : Int => decide (x ≤ y) = true) (fun a b _ _ h1 h2 => by simp at h1 h2; omega) h1 h2 ?_
  exact (List.mergeSort_perm _ _).trans (layers_perm hs)
theorem part_check {m s t : Nat} (hc : checkSE m s = 0) (ht : t ≤ s) : checkSE m t = 0 ∧ sizeE m t = (cardN t : Int) := by
  obtain ⟨m', s', e1, e2, h1, h5, hlt, _⟩ := check_ok hc
  obtain rfl : m = m' := by omega
  obtain rfl : s = s' := by omega
  have h0 : checkSE (m : Int) (t : Int) = 0 := by
    unfold checkSE
    rw [if_neg (by omega), if_neg (by simp only [Int.toNat_natCast]; omega)]
  exact ⟨h0, by unfold sizeE; rw [if_pos h0]; rfl⟩
end Go.Proofs.YtppklecmlkicaaaDoor
