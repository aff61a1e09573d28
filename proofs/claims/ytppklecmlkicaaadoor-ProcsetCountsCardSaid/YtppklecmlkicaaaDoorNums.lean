/- The reference's numbers. -/
import Derived.Test.YtppklecmlkicaaaDoorProg
import Derived.Test.YtppklecmlkicaaaDoorFmt
import Derived.Deep.QuietTactic
import Derived.BigQuiet
import Derived.StillTactics
import Derived.Maps.RangeWalk
namespace Go.Proofs.YtppklecmlkicaaaDoor
open Go.RowKit

/-- The byte at a place. -/
def bt (b : ByteArray) (i : Nat) : Nat := if h : i < b.size then b[i].toNat else 0
theorem bt_at {b : ByteArray} {i : Nat} (h : i < b.size) : bt b i = b[i].toNat := dif_pos h
/-- Digits and commas in turn, from place i on. -/
def numGo (b : ByteArray) : Nat → Nat → List Int → Option (List Int)
  | 0, _, acc => if b.size % 2 = 1 then some acc else none
  | k + 1, i, acc => if i % 2 = 1 then (if bt b i < 48 ∨ 57 < bt b i then none else numGo b k (i + 1) (acc ++ [(bt b i : Int) - 48])) else if bt b i ≠ 44 then none else numGo b k (i + 1) acc
def numsE (b : ByteArray) : Option (List Int) := if b.size < 2 ∨ bt b 0 ≠ 123 ∨ bt b (b.size - 1) ≠ 125 then none else if b.size = 2 then some [] else numGo b (b.size - 2) 1 []

def RetNums (r : Option (List Int)) (w : World) (e : Ending) (w' : World) : Prop :=
  ∃ v, Below w.heap.size w w' ∧ match r with
    | some xs => e = .returned (.tuple #[v, .bool true]) ∧ Own w' w.heap.size v xs
    | none => e = .returned (.tuple #[v, .bool false])
theorem RetNums.none {r : Option (List Int)} {w w' : World} {v : Value} (h : r = none) (hb : Below w.heap.size w w') : RetNums r w (.returned (.tuple #[v, .bool false])) w' := by subst h; exact ⟨v, hb, rfl⟩
theorem RetNums.some {r : Option (List Int)} {w w' : World} {v : Value} {xs : List Int} (h : r = some xs) (hb : Below w.heap.size w w') (ho : Own w' w.heap.size v xs) : RetNums r w (.returned (.tuple #[v, .bool true])) w' := by subst h; exact ⟨v, hb, rfl, ho⟩

theorem numGo_digit {b : ByteArray} {k i : Nat} {acc : List Int} (h : i % 2 = 1) (h2 : ¬ (bt b i < 48 ∨ 57 < bt b i)) : numGo b (k + 1) i acc = numGo b k (i + 1) (acc ++ [(bt b i : Int) - 48]) := by
  rw [numGo, if_pos h, if_neg h2]
theorem numGo_nodigit {b : ByteArray} {k i : Nat} {acc : List Int} (h : i % 2 = 1) (h2 : bt b i < 48 ∨ 57 < bt b i) : numGo b (k + 1) i acc = none := by
  rw [numGo, if_pos h, if_pos h2]
theorem numGo_comma {b : ByteArray} {k i : Nat} {acc : List Int} (h : ¬ i % 2 = 1) (h2 : bt b i = 44) : numGo b (k + 1) i acc = numGo b k (i + 1) acc := by
  rw [numGo, if_neg h, if_neg (by simpa using h2)]
theorem numGo_nocomma {b : ByteArray} {k i : Nat} {acc : List Int} (h : ¬ i % 2 = 1) (h2 : bt b i ≠ 44) : numGo b (k + 1) i acc = none := by
  rw [numGo, if_neg h, if_pos h2]

set_option maxRecDepth 100000 in
set_option maxHeartbeats 2000000 in
theorem numbers_any (b : ByteArray) (hb : b.size ≤ 1000) (w : World) : Calls Tryd.prog 53 #[.string b] w (RetNums (numsE b) w) := by
  have H : Hid (numsE b = if b.size < 2 ∨ bt b 0 ≠ 123 ∨ bt b (b.size - 1) ≠ 125 then none else if b.size = 2 then some [] else numGo b (b.size - 2) 1 []) := rfl
  go_enter Tryd.func53, Tryd.ntmps53
  by_cases h2 : b.size < 2
  · have HM := Lib.hid (H.out.trans (if_pos (.inl h2)))
    clear H
    go_wp2_with fail
    go_ret2
    exact RetNums.none HM.out (Below.refl _ _)
  have hp0 : 0 < b.size := by omega
  have hpl : b.size - 1 < b.size := by omega
  have B0 := Lib.hid (bt_at hp0)
  have BL := Lib.hid (bt_at hpl)
  by_cases hf : b[0].toNat = 123
  case neg =>
    have HM := Lib.hid (H.out.trans (if_pos (.inr (.inl (by rw [B0.out]; exact hf)))))
    clear H
    have e0 : ((b[0].toNat : Int) != 123) = true := by simp; omega
    go_wp2_with fail
    all_goals first | (exfalso; omega) | skip
    all_goals
      go_ret2
      exact RetNums.none HM.out (Below.refl _ _)
  by_cases hg : b[b.size - 1].toNat = 125
  case neg =>
    have HM := Lib.hid (H.out.trans (if_pos (.inr (.inr (by rw [BL.out]; exact hg)))))
    clear H
    have e0 : ((b[0].toNat : Int) != 123) = false := by simp; omega
    have e1 : ((b[b.size - 1].toNat : Int) != 125) = true := by simp; omega
    go_wp2_with fail
    all_goals first | (exfalso; omega) | skip
    all_goals
      go_ret2
      exact RetNums.none HM.out (Below.refl _ _)
  have H2 := Lib.hid (H.out.trans (if_neg (by rw [B0.out, BL.out]; omega)))
  clear H
  have e0 : ((b[0].toNat : Int) != 123) = false := by simp; omega
  have e1 : ((b[b.size - 1].toNat : Int) != 125) = false := by simp; omega
  by_cases hs2 : b.size = 2
  · have HM := Lib.hid (H2.out.trans (if_pos hs2))
    clear H2
    have e2 : ((b.size : Int) == 2) = true := by simp; omega
    clear hs2
    go_wp2_with fail
    go_ret2
    exact RetNums.some HM.out (Below.refl _ _) (Own.nil _ _)
  have HM := Lib.hid (H2.out.trans (if_neg hs2))
  clear H2
  have e2 : ((b.size : Int) == 2) = false := by simp; omega
  go_wp2_with fail
  clear e0 e1 e2
  go_loopw [4, 5] (fun o i wr => ∃ (k j : Nat) (acc : List Int), j + k = b.size - 1 ∧ 1 ≤ j ∧ acc.length ≤ j ∧ i = .int .i64 (j : Int) ∧ Own wr w.heap.size o acc ∧ Below w.heap.size w wr ∧ Hid (numsE b = numGo b k j acc)) (fun _ i _ => b.size - (intOf i).toNat)
  case atStart => exact ⟨b.size - 2, 1, [], by omega, by omega, by simp, rfl, Own.nil _ _, Below.refl _ _, HM⟩
  case round =>
    obtain ⟨k, j, acc, hk, hj1, hal, rfl, hown, hbl, hrun⟩ := hrel
    have HO := Lib.hid hown
    have HB := Lib.hid hbl
    clear hown hbl HM
    cases k with
    | zero =>
      have hje : (j : Int) = (b.size : Int) - 1 := by omega
      have hrun0 : numGo b 0 j acc = if b.size % 2 = 1 then some acc else none := rfl
      by_cases hpar : b.size % 2 = 1
      · have HR := Lib.hid (hrun.out.trans (hrun0.trans (if_pos hpar)))
        clear hrun hrun0
        have e3 : ((b.size : Int) % 2 == 1) = true := by simp; omega
        go_wp2_with fail
        go_ret2
        exact RetNums.some HR.out HB.out HO.out
      · have HR := Lib.hid (hrun.out.trans (hrun0.trans (if_neg hpar)))
        clear hrun hrun0
        have e3 : ((b.size : Int) % 2 == 1) = false := by simp; omega
        go_wp2_with fail
        go_ret2
        exact RetNums.none HR.out HB.out
    | succ k =>
      have hjb : j < b.size := by omega
      have BJ := Lib.hid (bt_at hjb)
      by_cases hpar : j % 2 = 1
      · have e3 : ((j : Int) % 2 == 1) = true := by simp; omega
        by_cases hd : b[j].toNat < 48 ∨ 57 < b[j].toNat
        · have HR := Lib.hid (hrun.out.trans (numGo_nodigit hpar (by rw [BJ.out]; exact hd)))
          clear hrun
          go_wp2_with fail
          all_goals first | (exfalso; omega) | skip
          all_goals
            go_ret2
            exact RetNums.none HR.out HB.out
        · have h9 := hrun.out.trans (numGo_digit hpar (by rw [BJ.out]; exact hd))
          rw [BJ.out] at h9
          have HR := Lib.hid h9
          clear hrun h9
          have hd0 : 48 ≤ (b[j].toNat : Int) := by omega
          have hd1 : (b[j].toNat : Int) ≤ 57 := by omega
          go_wp2_with (at_builtin; go_must (refine wpList_app1 rfl _ _ rfl w.heap.size u4 _ ((b[j].toNat : Int) - 48) rfl HO.out rfl (by omega) HB.out.size ?_); intro v' w1 hown1 hg1 hb1)
          all_goals first | (exfalso; omega) | skip
          all_goals
            go_roundw
            case rel => exact ⟨k, j + 1, acc ++ [(b[j].toNat : Int) - 48], by omega, by omega, by simp; omega, by go_num, hown1, HB.out.trans hb1, HR⟩
            case measure => simp [intOf]; omega
      · have e3 : ((j : Int) % 2 == 1) = false := by simp; omega
        by_cases hc : b[j].toNat = 44
        · have HR := Lib.hid (hrun.out.trans (numGo_comma hpar (by rw [BJ.out]; exact hc)))
          clear hrun
          have e4 : ((b[j].toNat : Int) != 44) = false := by simp; omega
          go_wp2_with fail
          all_goals first | (exfalso; omega) | skip
          go_roundw
          case rel => exact ⟨k, j + 1, acc, by omega, by omega, by omega, by go_num, HO.out, HB.out, HR⟩
          case measure => simp [intOf]; omega
        · have HR := Lib.hid (hrun.out.trans (numGo_nocomma hpar (by rw [BJ.out]; exact hc)))
          clear hrun
          have e4 : ((b[j].toNat : Int) != 44) = true := by simp; omega
          go_wp2_with fail
          all_goals first | (exfalso; omega) | skip
          go_ret2
          exact RetNums.none HR.out HB.out
end Go.Proofs.YtppklecmlkicaaaDoor
