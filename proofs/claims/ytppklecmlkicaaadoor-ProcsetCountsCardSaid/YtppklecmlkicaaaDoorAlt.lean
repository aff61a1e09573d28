/- Digits and commas in turn: what the places say. -/
import Derived.Test.YtppklecmlkicaaaDoorProg
import Derived.Test.YtppklecmlkicaaaDoorSizes
namespace Go.Proofs.YtppklecmlkicaaaDoor
open Go.RowKit

def altL : List Int → List UInt8 → Option (List Int)
  | _, [] => none
  | acc, [d] => if d.toNat < 48 ∨ 57 < d.toNat then none else some (acc ++ [(d.toNat : Int) - 48])
  | acc, d :: c :: rest => if d.toNat < 48 ∨ 57 < d.toNat then none else if c.toNat ≠ 44 then none else altL (acc ++ [(d.toNat : Int) - 48]) rest

theorem bt_list (b : ByteArray) (i : Nat) (h : i < b.data.toList.length) : bt b i = (b.data.toList[i]).toNat := by
  have hs : i < b.size := by rw [Lib.size_eq]; exact h
  rw [bt_at hs, Array.getElem_toList]
  rfl

/-- The run over places is the run over the list behind the place. -/
theorem numGo_alt (b : ByteArray) : ∀ (k i : Nat) (acc : List Int), i % 2 = 1 → i + k + 1 = b.size → numGo b k i acc = altL acc ((b.data.toList.drop i).take k)
  | 0, i, acc, h1, hk => by
    unfold numGo
    rw [if_neg (by omega)]
    simp [altL]
  | 1, i, acc, h1, hk => by
    have hl : i < b.data.toList.length := by rw [← Lib.size_eq]; omega
    rw [List.drop_eq_getElem_cons hl]
    simp only [numGo, h1, if_true, List.take_succ_cons, List.take_zero, altL, bt_list b i hl]
    rw [if_pos (show b.size % 2 = 1 by omega)]
  | k + 2, i, acc, h1, hk => by
    have hl : i < b.data.toList.length := by rw [← Lib.size_eq]; omega
    have hl2 : i + 1 < b.data.toList.length := by rw [← Lib.size_eq]; omega
    have h2 : ¬ (i + 1) % 2 = 1 := by omega
    rw [List.drop_eq_getElem_cons hl, List.drop_eq_getElem_cons hl2]
    simp only [numGo, h1, h2, if_true, if_false, List.take_succ_cons, altL, bt_list b i hl, bt_list b (i + 1) hl2]
    rw [numGo_alt b k (i + 2) _ (by omega) (by omega)]

/-- The same over the parts between the commas. -/
def digRunL : List (List UInt8) → List Int → Option (List Int)
  | [], acc => some acc
  | [d] :: ps, acc => if d.toNat < 48 ∨ 57 < d.toNat then none else digRunL ps (acc ++ [(d.toNat : Int) - 48])
  | _ :: _, _ => none
theorem digRun_list : ∀ (ps : List ByteArray) (acc : List Int), digRun ps acc = digRunL (ps.map (·.data.toList)) acc
  | [], acc => rfl
  | p :: ps, acc => by
    have hz := Lib.size_eq p
    unfold digRun
    rw [List.map_cons]
    cases hp : p.data.toList with
    | nil =>
      rw [hp] at hz
      rw [if_pos (.inl (by rw [hz]; simp))]
      rfl
    | cons d l =>
      cases l with
      | nil =>
        rw [hp] at hz
        have hd : bt p 0 = d.toNat := by
          rw [bt_list p 0 (by rw [hp]; simp)]
          simp [hp]
        rw [hd]
        simp only [digRunL]
        by_cases h : d.toNat < 48 ∨ 57 < d.toNat
        · rw [if_pos (.inr h), if_pos h]
        · rw [if_neg (by rw [hz]; simp; omega), if_neg h]
          exact digRun_list ps _
      | cons c l =>
        rw [hp] at hz
        rw [if_pos (.inl (by rw [hz]; simp))]
        rfl
end Go.Proofs.YtppklecmlkicaaaDoor
