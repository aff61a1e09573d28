/- digits reads what numbers reads. -/
import Derived.Test.YtppklecmlkicaaaDoorProg
import Derived.Test.YtppklecmlkicaaaDoorAlt
namespace Go.Proofs.YtppklecmlkicaaaDoor
open Go.RowKit

theorem index_cons (d : UInt8) (l : List UInt8) : Lib.index (d :: l) [44] = if d = 44 then 0 else if Lib.index l [44] = -1 then -1 else Lib.index l [44] + 1 := by
  rw [Lib.index]
  by_cases h : d = 44
  · subst h; simp [List.isPrefixOf]
  · have : (44 == d) = false := by simpa using fun e => h e.symm
    simp [List.isPrefixOf, this, h]
theorem index_ge (l : List UInt8) : -1 ≤ Lib.index l [44] := by
  induction l with
  | nil => simp [Lib.index]
  | cons d l ih =>
    rw [index_cons]
    repeat' split
    all_goals omega
theorem split_hit {s : List UInt8} {i : Nat} (h : Lib.index s [44] = i) : Lib.split s [44] = s.take i :: Lib.split (s.drop (i + 1)) [44] := by
  unfold Lib.split
  rw [Lib.count_hit (by simp) h, Nat.add_comm, Lib.splitK, if_neg (by rw [h]; simp), h]
  rfl
theorem split_miss {s : List UInt8} (h : Lib.index s [44] = -1) : Lib.split s [44] = [s] := by
  unfold Lib.split
  rw [Lib.count_miss h]
  rfl

theorem split_alt : ∀ (n : Nat) (M : List UInt8) (acc : List Int), M.length ≤ n → digRunL (Lib.split M [44]) acc = altL acc M := by
  intro n
  induction n with
  | zero =>
    intro M acc h
    obtain rfl : M = [] := List.eq_nil_of_length_eq_zero (by omega)
    rfl
  | succ n ih =>
    intro M acc h
    cases M with
    | nil => rfl
    | cons d M =>
      by_cases hd : d = 44
      · subst hd
        have h0 : Lib.index ((44 : UInt8) :: M) [44] = ((0 : Nat) : Int) := by rw [index_cons, if_pos rfl]; rfl
        rw [split_hit h0]
        cases M with
        | nil => rfl
        | cons c M => rfl
      · cases M with
        | nil =>
          have h0 : Lib.index [d] [44] = -1 := by rw [index_cons, if_neg hd, if_pos (by simp [Lib.index])]
          rw [split_miss h0]
          simp [digRunL, altL]
        | cons c M =>
          by_cases hc : c = 44
          · subst hc
            have h0 : Lib.index (d :: (44 : UInt8) :: M) [44] = ((1 : Nat) : Int) := by
              rw [index_cons, if_neg hd, index_cons, if_pos rfl]; rfl
            rw [split_hit h0]
            simp only [List.take_succ_cons, List.take_zero, List.drop_succ_cons, List.drop_zero, digRunL, altL]
            rw [ih M _ (by simp at h; omega)]
            simp
          · have hc' : c.toNat ≠ 44 := fun e => hc (UInt8.toNat_inj.1 (by simpa using e))
            have hr : altL acc (d :: c :: M) = none := by
              simp only [altL]
              split
              · rfl
              · first | rfl | rw [if_pos hc'] | simp [hc']
            rw [hr]
            have h1 := index_ge M
            by_cases hm : Lib.index M [44] = -1
            · have h0 : Lib.index (d :: c :: M) [44] = -1 := by
                rw [index_cons, if_neg hd, index_cons, if_neg hc, if_pos hm, if_pos rfl]
              rw [split_miss h0]
              rfl
            · obtain ⟨i, hi⟩ := Int.eq_ofNat_of_zero_le (show 0 ≤ Lib.index M [44] by omega)
              have h0 : Lib.index (d :: c :: M) [44] = ((i + 2 : Nat) : Int) := by
                rw [index_cons, if_neg hd, index_cons, if_neg hc, if_neg hm, hi, if_neg (by omega)]
                omega
              rw [split_hit h0]
              rfl
theorem digs_alt (m : ByteArray) : digRun (partsB m) [] = altL [] m.data.toList := by
  rw [digRun_list]
  unfold partsB
  rw [Lib.splitB_data]
  exact split_alt _ _ _ (Nat.le_refl _)
end Go.Proofs.YtppklecmlkicaaaDoor
