/- Few; the sizes of what Parse cuts. -/
import Derived.Test.YtppklecmlkicaaaDoorProg
import Derived.Test.YtppklecmlkicaaaDoorParse
import Derived.Lib.SplitLaws
namespace Go.Proofs.YtppklecmlkicaaaDoor
open Go.RowKit

set_option maxHeartbeats 400000 in
theorem few_any (A : Option Addr) (n cap : Nat) (hn : n ≤ 17592186044416) (w : World) : Calls Tryd.prog 10 #[.slice A n cap] w fun e w' => e = .returned (.bool (decide (n ≤ 60))) ∧ w = w' := by
  go_enter Tryd.func10, Tryd.ntmps10
  go_wp2
  go_ret
  exact ⟨ret_bool (dec_eq (by omega)), rfl⟩

theorem inner1_size (b : ByteArray) : (inner1 b).size ≤ b.size := by
  rw [Lib.size_eq, Lib.size_eq b]
  show (Lib.trimPrefix b.data.toList [123]).length ≤ _
  unfold Lib.trimPrefix
  split
  · rw [List.length_drop]; omega
  · exact Nat.le_refl _
theorem inner2_size (b : ByteArray) : (inner2 b).size ≤ b.size := by
  refine Nat.le_trans ?_ (inner1_size b)
  rw [Lib.size_eq, Lib.size_eq (inner1 b)]
  show (Lib.trimSuffix (Lib.trimPrefix b.data.toList [123]) [125]).length ≤ (Lib.trimPrefix b.data.toList [123]).length
  unfold Lib.trimSuffix
  split
  · rw [List.length_take]; omega
  · exact Nat.le_refl _
theorem parts_length (m : ByteArray) : (partsB m).length = Lib.countB m cm + 1 := Lib.splitB_all cm (by decide) 0 _ m rfl
theorem parts_few (m : ByteArray) : (partsB m).length ≤ m.size + 1 := by
  rw [parts_length]
  have := Lib.countB_le cm (by decide) m.size m (Nat.le_refl _)
  omega

/-- digits' contract, its sizes met. -/
theorem digits_small (b : ByteArray) (hb : b.size ≤ 24) (w : World) (m : Int) (hm : w.cell? ⟨3, 0, none⟩ = some (.int .i64 m)) :
    Calls Tryd.prog 52 #[.string b] w (RetNums (digsE b) w) := by
  have h1 := inner1_size b
  have h2 := inner2_size b
  have h3 := parts_few (inner2 b)
  exact digits_any b (by omega) (by omega) (parts_length _) (by omega) w m hm

theorem digRun_length : ∀ (ps : List ByteArray) (acc xs : List Int), digRun ps acc = some xs → xs.length = acc.length + ps.length
  | [], acc, xs, h => by cases h; rfl
  | p :: ps, acc, xs, h => by
    unfold digRun at h
    split at h
    · cases h
    · have := digRun_length ps _ xs h
      rw [this]; simp; omega
theorem digs_length {b : ByteArray} (hb : b.size ≤ 24) {xs : List Int} (h : digsE b = some xs) : xs.length ≤ 1000 := by
  unfold digsE at h
  split at h
  · cases h
  · split at h
    · cases h; simp
    · have h1 := digRun_length _ _ _ h
      have h2 := parts_few (inner2 b)
      have h3 := inner2_size b
      simp at h1
      omega
theorem numGo_length (b : ByteArray) : ∀ (k i : Nat) (acc xs : List Int), numGo b k i acc = some xs → xs.length ≤ acc.length + k
  | 0, i, acc, xs, h => by
    unfold numGo at h
    split at h
    · cases h; exact Nat.le_refl _
    · cases h
  | k + 1, i, acc, xs, h => by
    unfold numGo at h
    split at h
    · split at h
      · cases h
      · have := numGo_length b k _ _ xs h
        simp at this
        omega
    · split at h
      · cases h
      · have := numGo_length b k _ _ xs h
        omega
theorem nums_length {b : ByteArray} (hb : b.size ≤ 24) {xs : List Int} (h : numsE b = some xs) : xs.length ≤ 1000 := by
  unfold numsE at h
  split at h
  · cases h
  · split at h
    · cases h; simp
    · have := numGo_length b _ _ _ xs h
      simp at this
      omega
end Go.Proofs.YtppklecmlkicaaaDoor
