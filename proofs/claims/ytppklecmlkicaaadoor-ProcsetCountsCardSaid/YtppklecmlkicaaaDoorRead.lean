/- The two readings are one. -/
import Derived.Test.YtppklecmlkicaaaDoorProg
import Derived.Test.YtppklecmlkicaaaDoorAlts
namespace Go.Proofs.YtppklecmlkicaaaDoor
open Go.RowKit

theorem inner2_list {b : ByteArray} {R : List UInt8} (h : b.data.toList = 123 :: R ++ [125]) : (inner2 b).data.toList = R := by
  unfold inner2
  rw [h]
  simp [Lib.trimPrefix, Lib.hasPrefix, Lib.trimSuffix, Lib.hasSuffix, List.isPrefixOf]
theorem suffix_last (R : List UInt8) (y : UInt8) : Lib.hasSuffix (R ++ [y]) [125] = (y == 125) := by
  unfold Lib.hasSuffix
  rw [Bool.eq_iff_iff]
  simp
  exact eq_comm
theorem digs_nums (b : ByteArray) : digsE b = numsE b := by
  have hz := Lib.size_eq b
  cases hL : b.data.toList with
  | nil =>
    rw [hL] at hz
    unfold digsE numsE
    rw [if_pos (.inl (by rw [hL]; rfl)), if_pos (.inl (by rw [hz]; simp))]
  | cons x R =>
    have h0 : bt b 0 = x.toNat := by rw [bt_list b 0 (by rw [hL]; simp)]; simp [hL]
    by_cases hx : x = 123
    case neg =>
      have h1 : Lib.hasPrefix b.data.toList [123] = false := by
        rw [hL]; unfold Lib.hasPrefix
        have : (123 == x) = false := by simpa using fun e => hx e.symm
        simp [List.isPrefixOf, this]
      have h2 : bt b 0 ≠ 123 := by rw [h0]; exact fun e => hx (UInt8.toNat_inj.1 (by simpa using e))
      unfold digsE numsE
      rw [if_pos (.inl h1), if_pos (.inr (.inl h2))]
    subst hx
    have hp : Lib.hasPrefix b.data.toList [123] = true := by rw [hL]; simp [Lib.hasPrefix, List.isPrefixOf]
    have ht : Lib.trimPrefix b.data.toList [123] = R := by unfold Lib.trimPrefix; rw [if_pos hp, hL]; rfl
    rcases List.eq_nil_or_concat R with rfl | ⟨R, y, rfl⟩
    · rw [hL] at hz
      unfold digsE numsE
      rw [if_pos (.inr (by rw [ht]; rfl)), if_pos (.inl (by rw [hz]; simp))]
    · rw [List.concat_eq_append] at hL ht
      rw [hL] at hz
      simp only [List.length_cons, List.length_append, List.length_nil] at hz
      have hl : bt b (b.size - 1) = y.toNat := by
        have hlt : b.size - 1 < b.data.toList.length := by rw [hL]; simp; omega
        rw [bt_list b _ hlt]
        congr 1
        rw [List.getElem_of_eq hL]
        have e : b.size - 1 = R.length + 1 := by omega
        simp [e]
      by_cases hy : y = 125
      case neg =>
        have h2 : bt b (b.size - 1) ≠ 125 := by rw [hl]; exact fun e => hy (UInt8.toNat_inj.1 (by simpa using e))
        unfold digsE numsE
        rw [if_pos (.inr (by rw [ht, suffix_last]; simpa using hy)), if_pos (.inr (.inr h2))]
      subst hy
      have hi := inner2_list (b := b) (R := R) (by rw [hL]; rfl)
      have hd : digsE b = if (inner2 b).toList.isEmpty = true then some [] else altL [] R := by
        unfold digsE
        rw [if_neg (by rw [hp, ht, suffix_last]; simp), digs_alt, hi]
      have hn : numsE b = if b.size = 2 then some [] else numGo b (b.size - 2) 1 [] := by
        unfold numsE
        rw [if_neg (by rw [h0, hl]; simp; omega)]
      rw [hd, hn, numGo_alt b (b.size - 2) 1 [] rfl (by omega)]
      have hmid : (b.data.toList.drop 1).take (b.size - 2) = R := by
        rw [hL]
        have : b.size - 2 = R.length := by omega
        simp [this]
      rw [hmid]
      have hemp : (inner2 b).toList.isEmpty = true ↔ b.size = 2 := by
        rw [Lib.toList_data, hi]
        cases R with
        | nil => simp at hz; simp [hz]
        | cons a R => simp at hz; simp; omega
      by_cases h2 : b.size = 2
      · rw [if_pos (hemp.2 h2), if_pos h2]
      · rw [if_neg (fun h => h2 (hemp.1 h)), if_neg h2]
end Go.Proofs.YtppklecmlkicaaaDoor
