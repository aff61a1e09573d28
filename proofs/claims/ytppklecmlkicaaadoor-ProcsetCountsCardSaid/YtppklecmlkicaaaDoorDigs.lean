/- procset.digits. -/
import Derived.Test.YtppklecmlkicaaaDoorProg
import Derived.Test.YtppklecmlkicaaaDoorNums
import Derived.Deep.QuietTactic
import Derived.BigQuiet
import Derived.StillTactics
import Derived.Maps.RangeWalk
namespace Go.Proofs.YtppklecmlkicaaaDoor
open Go.RowKit

def cm : ByteArray := ⟨#[44]⟩
def partsB (m : ByteArray) : List ByteArray := Lib.splitB cm 0 (Lib.countB m cm) m
/-- Every part one digit. -/
def digRun : List ByteArray → List Int → Option (List Int)
  | [], acc => some acc
  | p :: ps, acc => if p.size ≠ 1 ∨ bt p 0 < 48 ∨ 57 < bt p 0 then none else digRun ps (acc ++ [(bt p 0 : Int) - 48])
def inner1 (b : ByteArray) : ByteArray := ⟨(Lib.trimPrefix b.data.toList [123]).toArray⟩
def inner2 (b : ByteArray) : ByteArray := ⟨(Lib.trimSuffix (Lib.trimPrefix b.data.toList [123]) [125]).toArray⟩
def digsE (b : ByteArray) : Option (List Int) :=
  if Lib.hasPrefix b.data.toList [123] = false ∨ Lib.hasSuffix (Lib.trimPrefix b.data.toList [123]) [125] = false then none else if (inner2 b).toList.isEmpty = true then some [] else digRun (partsB (inner2 b)) []

theorem cutp_any (b : ByteArray) (w : World) : Calls Tryd.prog 70 #[.string b, .string ⟨#[123]⟩] w fun e w' => e = .returned (.tuple #[.string (inner1 b), .bool (Lib.hasPrefix b.data.toList [123])]) ∧ w' = w := Tryd.strings_CutPrefix b ⟨#[123]⟩ w
theorem cuts_any (b : ByteArray) (h : (inner1 b).size ≤ 1000) (w : World) : Calls Tryd.prog 71 #[.string (inner1 b), .string ⟨#[125]⟩] w fun e w' => e = .returned (.tuple #[.string (inner2 b), .bool (Lib.hasSuffix (Lib.trimPrefix b.data.toList [123]) [125])]) ∧ w' = w := Tryd.strings_CutSuffix (inner1 b) ⟨#[125]⟩ w (by omega)

theorem digRun_no {ps : List ByteArray} {k : Nat} {acc : List Int} (hk : k < ps.length) (h : ps[k].size ≠ 1 ∨ bt ps[k] 0 < 48 ∨ 57 < bt ps[k] 0) : digRun (ps.drop k) acc = none := by
  rw [List.drop_eq_getElem_cons hk, digRun, if_pos h]
theorem digRun_yes {ps : List ByteArray} {k : Nat} {acc : List Int} (hk : k < ps.length) (h : ¬ (ps[k].size ≠ 1 ∨ bt ps[k] 0 < 48 ∨ 57 < bt ps[k] 0)) : digRun (ps.drop k) acc = digRun (ps.drop (k + 1)) (acc ++ [(bt ps[k] 0 : Int) - 48]) := by
  rw [List.drop_eq_getElem_cons hk, digRun, if_neg h]
theorem digRun_end {ps : List ByteArray} {k : Nat} {acc : List Int} (hk : k = ps.length) : digRun (ps.drop k) acc = some acc := by
  subst hk; rw [List.drop_length]; rfl

set_option maxRecDepth 100000 in
set_option maxHeartbeats 2000000 in
theorem digits_any (b : ByteArray) (h1 : (inner1 b).size ≤ 1000) (h2 : (inner2 b).size ≤ 1000) (hpl : (partsB (inner2 b)).length = Lib.countB (inner2 b) cm + 1) (hpl2 : (partsB (inner2 b)).length ≤ 1001) (w : World) (m : Int) (hm : w.cell? ⟨3, 0, none⟩ = some (.int .i64 m)) :
    Calls Tryd.prog 52 #[.string b] w (RetNums (digsE b) w) := by
  have H : Hid (digsE b = if Lib.hasPrefix b.data.toList [123] = false ∨ Lib.hasSuffix (Lib.trimPrefix b.data.toList [123]) [125] = false then none else if (inner2 b).toList.isEmpty = true then some [] else digRun (partsB (inner2 b)) []) := rfl
  have c1 := cutp_any b w
  have c2 := cuts_any b h1 w
  obtain ⟨p1, hp1⟩ : ∃ p1, Lib.hasPrefix b.data.toList [123] = p1 := ⟨_, rfl⟩
  obtain ⟨p2, hp2⟩ : ∃ p2, Lib.hasSuffix (Lib.trimPrefix b.data.toList [123]) [125] = p2 := ⟨_, rfl⟩
  obtain ⟨i1, hi1⟩ : ∃ i1, inner1 b = i1 := ⟨_, rfl⟩
  obtain ⟨i2, hi2⟩ : ∃ i2, inner2 b = i2 := ⟨_, rfl⟩
  obtain ⟨r, hr⟩ : ∃ r, digsE b = r := ⟨_, rfl⟩
  rw [hp1, hi1] at c1
  rw [hi1, hi2, hp2] at c2
  rw [hp1, hp2, hi2, hr] at H
  rw [hi2] at h2 hpl hpl2
  rw [hr]
  clear hp1 hp2 hi1 hi2 hr h1
  have c3 := Tryd.strings_Split i2 cm m w (by omega) hm (by decide)
  obtain ⟨ps, hps⟩ : ∃ ps, partsB i2 = ps := ⟨_, rfl⟩
  rw [show Lib.splitB cm 0 (Lib.countB i2 cm) i2 = ps from hps, ← hpl, hps] at c3
  rw [hps] at H hpl2
  clear hps hpl hm
  go_enter Tryd.func52, Tryd.ntmps52
  go_wp2_with fail
  refine c1.mono ?_
  rintro e w1 ⟨rfl, rfl⟩
  clear c1
  go_wp2_with fail
  refine c2.mono ?_
  rintro e w2 ⟨rfl, rfl⟩
  clear c2
  cases p1 with
  | false =>
    have HR : Hid (r = none) := H.out.trans (if_pos (.inl rfl))
    clear H c3
    go_wp2_with fail
    go_ret2
    exact RetNums.none HR.out (Below.refl _ _)
  | true =>
  cases p2 with
  | false =>
    have HR : Hid (r = none) := H.out.trans (if_pos (.inr rfl))
    clear H c3
    go_wp2_with fail
    go_ret2
    exact RetNums.none HR.out (Below.refl _ _)
  | true =>
  have H2 := Lib.hid (H.out.trans (if_neg (by simp)))
  clear H
  by_cases he : i2.toList.isEmpty = true
  · have HR := Lib.hid (H2.out.trans (if_pos he))
    clear H2 c3
    go_wp2_with fail
    go_ret2
    exact RetNums.some HR.out (Below.refl _ _) (Own.nil _ _)
  have HR := Lib.hid (H2.out.trans (if_neg he))
  clear H2
  have e0 : i2.toList.isEmpty = false := by simpa using he
  clear he
  have C3 := Lib.hid c3
  clear c3
  go_wp2_with fail
  refine C3.out.mono ?_
  rintro e w1 ⟨rfl, rfl⟩
  clear C3
  have hcs : ∀ (k : Nat) (hk : k < ps.length), (w2.alloc (.cells (ps.map Value.string).toArray 9)).cell? ⟨w2.heap.size, k, none⟩ = some (.string ps[k]) := fun k hk => by
    refine blk_cell (blk_new w2 _) k ?_
    simp [hk]
  have hB1 := bel1 w2 (.cells (ps.map Value.string).toArray 9)
  obtain ⟨w3, hw3⟩ : ∃ w3, w2.alloc (.cells (ps.map Value.string).toArray 9) = w3 := ⟨_, rfl⟩
  have hs3 : w3.heap.size = w2.heap.size + 1 := by rw [← hw3]; simp
  rw [hw3] at hcs hB1 ⊢
  clear hw3
  have HCS := Lib.hid hcs
  have HB1 := Lib.hid hB1
  clear hcs hB1
  obtain ⟨B, hB⟩ : ∃ B, B = w3.heap.size := ⟨_, rfl⟩
  go_wp2_with fail
  go_loopw [7, 32] (fun o i wr => ∃ (k : Nat) (acc : List Int), k ≤ ps.length ∧ acc.length ≤ k ∧ i = .int .i64 (k : Int) ∧ Own wr B o acc ∧ Below B w3 wr ∧ Hid (r = digRun (ps.drop k) acc)) (fun _ i _ => ps.length - (intOf i).toNat)
  case atStart => exact ⟨0, [], by omega, by simp, rfl, Own.nil _ _, Below.refl _ _, by rw [List.drop_zero]; exact HR⟩
  case round =>
    obtain ⟨k, acc, hk, hal, rfl, hown, hbl, hrun⟩ := hrel
    have HO := Lib.hid hown
    have HB := Lib.hid hbl
    have hwr : B ≤ wr.heap.size := by rw [hB]; exact hbl.size
    clear hown hbl HR
    by_cases hlt : k < ps.length
    · have hcell := (HB.out.cell (p := ⟨w2.heap.size, k, none⟩) (by show w2.heap.size < B; omega)).trans (HCS.out k hlt)
      have hno := Lib.hid (@digRun_no ps k acc hlt)
      have hyes := Lib.hid (@digRun_yes ps k acc hlt)
      obtain ⟨q, hq⟩ : ∃ q, ps[k] = q := ⟨_, rfl⟩
      rw [hq] at hcell hno hyes
      clear hq
      by_cases hq1 : q.size = 1
      · have hq0 : 0 < q.size := by omega
        have hbt := bt_at hq0
        by_cases hd : q[0].toNat < 48 ∨ 57 < q[0].toNat
        · have HR := Lib.hid (hrun.out.trans (hno.out (.inr (by rw [hbt]; exact hd))))
          clear hrun hno hyes hbt
          have e1 : ((q.size : Int) != 1) = false := by simp; omega
          clear hq1
          go_wp2_with fail
          all_goals first | (exfalso; omega) | skip
          all_goals
            go_ret2
            exact RetNums.none HR.out (HB1.out.trans (HB.out.mono (by omega)))
        · have h9 := hrun.out.trans (hyes.out (by rw [hbt]; omega))
          rw [hbt] at h9
          have HR := Lib.hid h9
          clear hrun h9 hno hyes hbt
          have hd0 : 48 ≤ (q[0].toNat : Int) := by omega
          have hd1 : (q[0].toNat : Int) ≤ 57 := by omega
          have e1 : ((q.size : Int) != 1) = false := by simp; omega
          clear hq1
          go_wp2_with (at_builtin; go_must (refine wpList_app1 rfl _ _ rfl B u7 _ ((q[0].toNat : Int) - 48) rfl HO.out rfl (by omega) (by omega) ?_); intro v' w1 hown1 hg1 hb1)
          all_goals first | (exfalso; omega) | skip
          all_goals
            go_roundw
            case rel => exact ⟨k + 1, acc ++ [(q[0].toNat : Int) - 48], by omega, by simp; omega, by go_num, hown1, HB.out.trans hb1, HR⟩
            case measure => simp [intOf]; omega
      · have HR := Lib.hid (hrun.out.trans (hno.out (.inl hq1)))
        clear hrun hno hyes
        have e1 : ((q.size : Int) != 1) = true := by simp; omega
        go_wp2_with fail
        all_goals first | (exfalso; omega) | skip
        all_goals
          go_ret2
          exact RetNums.none HR.out (HB1.out.trans (HB.out.mono (by omega)))
    · have HR := Lib.hid (hrun.out.trans (digRun_end (by omega)))
      clear hrun
      obtain rfl : k = ps.length := by omega
      go_wp2_with fail
      go_ret2
      exact RetNums.some HR.out (HB1.out.trans (HB.out.mono (by omega))) (HO.out.low (by omega))
end Go.Proofs.YtppklecmlkicaaaDoor
