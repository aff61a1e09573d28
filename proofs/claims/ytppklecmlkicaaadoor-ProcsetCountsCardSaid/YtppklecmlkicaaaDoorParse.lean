/- Parse, twice, over what the numbers' reading says. -/
import Derived.Test.YtppklecmlkicaaaDoorProg
import Derived.Test.YtppklecmlkicaaaDoorDigs
import Derived.Deep.QuietTactic
import Derived.BigQuiet
import Derived.StillTactics
import Derived.Maps.RangeWalk
namespace Go.Proofs.YtppklecmlkicaaaDoor
open Go.RowKit

/-- Is the list rising, up to place k. -/
def risTo (xs : List Int) (k : Nat) : Prop := ∀ i, 1 ≤ i → i < k → xs.getD (i - 1) 0 < xs.getD i 0
def risB (xs : List Int) : Bool := (List.range xs.length).all fun i => i == 0 || decide (xs.getD (i - 1) 0 < xs.getD i 0)
theorem ris_yes {xs : List Int} {k : Nat} (h : risTo xs k) (hk : xs.length ≤ k) : risB xs = true := by
  unfold risB
  rw [List.all_eq_true]
  intro i hi
  have hi := List.mem_range.1 hi
  by_cases h0 : i = 0
  · simp [h0]
  · have := h i (by omega) (by omega)
    rw [decide_eq_true this, Bool.or_true]
theorem ris_no {xs : List Int} {k : Nat} (h1 : 1 ≤ k) (hk : k < xs.length) (h : xs.getD k 0 ≤ xs.getD (k - 1) 0) : risB xs = false := by
  unfold risB
  rw [List.all_eq_false]
  refine ⟨k, by simpa using hk, ?_⟩
  rw [decide_eq_false (by omega), Bool.or_false]
  simp; omega
theorem getD_at {xs : List Int} {k : Nat} (hk : k < xs.length) : xs.getD k 0 = xs[k] := by
  rw [List.getD_eq_getElem?_getD, List.getElem?_eq_getElem hk]; rfl

/-- What Parse says where the numbers' reading is r. -/
def parseE (n : Int) (b : ByteArray) (r : Option (List Int)) : Int × Int :=
  if n < 1 ∨ 5 < n then (0, 1) else if 24 < b.size then (0, 13) else match r with
    | none => (0, 4)
    | some xs => if (ofE n xs).2 ≠ 0 then (0, (ofE n xs).2) else if risB xs = true then ((ofE n xs).1, 0) else (0, 14)
theorem parse_procs {n : Int} {b : ByteArray} {r : Option (List Int)} (h : n < 1 ∨ 5 < n) : parseE n b r = (0, 1) := if_pos h
theorem parse_long {n : Int} {b : ByteArray} {r : Option (List Int)} (h : ¬ (n < 1 ∨ 5 < n)) (h2 : 24 < b.size) : parseE n b r = (0, 13) := by unfold parseE; rw [if_neg h, if_pos h2]
theorem parse_none {n : Int} {b : ByteArray} {r : Option (List Int)} (h : ¬ (n < 1 ∨ 5 < n)) (h2 : ¬ 24 < b.size) (hr : r = none) : parseE n b r = (0, 4) := by unfold parseE; rw [if_neg h, if_neg h2, hr]
theorem parse_some {n : Int} {b : ByteArray} {r : Option (List Int)} (xs : List Int) (h : ¬ (n < 1 ∨ 5 < n)) (h2 : ¬ 24 < b.size) (hr : r = some xs) : parseE n b r = if (ofE n xs).2 ≠ 0 then (0, (ofE n xs).2) else if risB xs = true then ((ofE n xs).1, 0) else (0, 14) := by unfold parseE; rw [if_neg h, if_neg h2, hr]

set_option maxRecDepth 100000 in
set_option maxHeartbeats 2000000 in
theorem rparse_any (n : Int) (b : ByteArray) (r : Option (List Int)) (hl : ¬ 24 < b.size → ∀ xs, r = some xs → xs.length ≤ 1000) (w : World) (hn : ¬ 24 < b.size → Calls Tryd.prog 53 #[.string b] w (RetNums r w)) (hbig : b.size ≤ 1000000000) :
    Calls Tryd.prog 22 #[.int .i64 n, .string b] w (RetPair (parseE n b r) w) := by
  have P1 := Lib.hid (@parse_procs n b r)
  have P2 := Lib.hid (@parse_long n b r)
  have P3 := Lib.hid (@parse_none n b r)
  have P4 := Lib.hid (@parse_some n b r)
  obtain ⟨F, hF⟩ : ∃ F, parseE n b r = F := ⟨_, rfl⟩
  rw [hF] at P1 P2 P3 P4 ⊢
  clear hF
  have HN := Lib.hid hn
  have HL := Lib.hid hl
  clear hn hl
  go_enter Tryd.func22, Tryd.ntmps22
  go_wp2_with fail
  refine (rprocs_any n w).mono ?_
  rintro e w1 ⟨rfl, rfl⟩
  by_cases hp : n < 1 ∨ 5 < n
  · have HR := Lib.hid (P1.out hp)
    clear P1 P2 P3 P4
    rw [procsE_bad hp]
    go_wp2_with fail
    go_ret2
    exact RetPair.of HR.out (Below.refl _ _)
  rw [procsE_ok hp]
  by_cases hz : 24 < b.size
  · have HR := Lib.hid (P2.out hp hz)
    clear P1 P2 P3 P4
    go_wp2_with fail
    all_goals first | (exfalso; omega) | skip
    go_ret2
    exact RetPair.of HR.out (Below.refl _ _)
  have hc := HN.out hz
  cases r with
  | none =>
    have HR := Lib.hid (P3.out hp hz rfl)
    clear P1 P2 P3 P4
    go_wp2_with fail
    all_goals first | (exfalso; omega) | skip
    refine hc.mono ?_
    rintro e w1 ⟨v, hb, rfl⟩
    have HB := Lib.hid hb
    clear hb
    go_wp2_with fail
    go_ret2
    exact RetPair.of HR.out HB.out
  | some xs =>
  have HR := Lib.hid (P4.out xs hp hz rfl)
  have hl := HL.out hz xs rfl
  clear P1 P2 P3 P4
  go_wp2_with fail
  all_goals first | (exfalso; omega) | skip
  refine hc.mono ?_
  rintro e w1 ⟨v, hb, rfl, hown⟩
  obtain ⟨A, c, rfl, hA1, hA2, hIA⟩ := hown.form
  have HB := Lib.hid hb
  have HI := Lib.hid hIA
  clear hb hown hIA hc
  go_wp2_with fail
  refine (rof_any n A c xs (by omega) w1 HI.out).mono ?_
  rintro e w2 ⟨rfl, hb2⟩
  have HB2 := Lib.hid (HB.out.trans (hb2.mono HB.out.size))
  have HI2 := Lib.hid (HI.out.keep hb2)
  have hsz := hb2.size
  obtain ⟨bs, hbs⟩ : ∃ bs, bs = w1.heap.size := ⟨_, rfl⟩
  rw [← hbs] at HI2
  clear hb2
  obtain ⟨s, er, hse⟩ : ∃ s er, ofE n xs = (s, er) := ⟨_, _, rfl⟩
  rw [hse] at HR ⊢
  dsimp only at HR ⊢
  clear hse
  by_cases h0 : er = 0
  case neg =>
    have HR2 := Lib.hid (HR.out.trans (if_pos h0))
    clear HR
    have e0 : (er != 0) = true := by simpa using h0
    go_wp2_with fail
    go_ret2
    exact RetPair.of HR2.out HB2.out
  subst h0
  have HR2 := Lib.hid (HR.out.trans (if_neg (by simp)))
  clear HR
  go_wp2_with fail
  go_loopw [11] (fun i wr => ∃ k : Nat, 1 ≤ k ∧ k ≤ 1001 ∧ i = .int .i64 (k : Int) ∧ Hid (risTo xs k) ∧ Below w2.heap.size w2 wr) (fun i _ => 1002 - (intOf i).toNat)
  case atStart => exact ⟨1, by omega, by omega, rfl, fun i h1 h2 => by omega, Below.refl _ _⟩
  case round =>
    obtain ⟨k, hk1, hk2, rfl, hri, hbl⟩ := hrel
    have HBL := Lib.hid hbl
    clear hbl
    by_cases hlt : k < xs.length
    · have hI3 := HI2.out.keep (HBL.out.mono (by omega))
      obtain ⟨b1, o1, rfl, hb1, c2⟩ := hI3.at_ k hlt
      obtain ⟨b2, o2, he, hb2, c1⟩ := hI3.at_ (k - 1) (by omega)
      obtain ⟨rfl, rfl⟩ : b1 = b2 ∧ o1 = o2 := by simpa using he
      clear he hI3
      have g1 := Lib.hid (getD_at hlt)
      have g2 := Lib.hid (getD_at (xs := xs) (k := k - 1) (by omega))
      obtain ⟨x, hx⟩ : ∃ x, xs[k] = x := ⟨_, rfl⟩
      obtain ⟨y, hy⟩ : ∃ y, xs[k - 1] = y := ⟨_, rfl⟩
      rw [hx] at c2 g1
      rw [hy] at c1 g2
      clear hx hy
      obtain ⟨j, rfl⟩ : ∃ j, k = j + 1 := ⟨k - 1, by omega⟩
      rw [Nat.add_sub_cancel] at c1 g2
      by_cases hxy : x ≤ y
      · have HR3 := Lib.hid (HR2.out.trans (if_neg (by rw [ris_no hk1 hlt (by rw [Nat.add_sub_cancel, g1.out, g2.out]; exact hxy)]; decide)))
        clear HR2
        go_wp2_with fail
        go_quiet (fail)
        go_wp2_with fail
        all_goals first | (exfalso; omega) | skip
        go_ret2
        exact RetPair.of HR3.out (belN (HB2.out.trans (HBL.out.mono HB2.out.size)) _)
      · have hri2 : risTo xs (j + 1 + 1) := fun i h1 h2 => by
          by_cases e : i = j + 1
          · subst e; rw [Nat.add_sub_cancel, g1.out, g2.out]; omega
          · exact hri.out i h1 (by omega)
        have HRI := Lib.hid hri2
        clear hri2
        go_wp2_with fail
        go_quiet (fail)
        go_wp2_with fail
        all_goals first | (exfalso; omega) | skip
        go_roundw
        case rel => exact ⟨j + 1 + 1, by omega, by omega, by go_num, HRI, belN HBL.out _⟩
        case measure => simp [intOf]; omega
    · have HR3 := Lib.hid (HR2.out.trans (if_pos (ris_yes hri.out (by omega))))
      clear HR2
      go_wp2_with fail
      all_goals first | (exfalso; omega) | skip
      go_ret2
      exact RetPair.of HR3.out (HB2.out.trans (HBL.out.mono HB2.out.size))

set_option maxRecDepth 100000 in
set_option maxHeartbeats 2000000 in
theorem parse_any (n : Int) (b : ByteArray) (r : Option (List Int)) (hl : ¬ 24 < b.size → ∀ xs, r = some xs → xs.length ≤ 1000) (w : World) (hn : ¬ 24 < b.size → Calls Tryd.prog 52 #[.string b] w (RetNums r w)) (hbig : b.size ≤ 1000000000) :
    Calls Tryd.prog 21 #[.int .i64 n, .string b] w (RetPair (parseE n b r) w) := by
  have P1 := Lib.hid (@parse_procs n b r)
  have P2 := Lib.hid (@parse_long n b r)
  have P3 := Lib.hid (@parse_none n b r)
  have P4 := Lib.hid (@parse_some n b r)
  obtain ⟨F, hF⟩ : ∃ F, parseE n b r = F := ⟨_, rfl⟩
  rw [hF] at P1 P2 P3 P4 ⊢
  clear hF
  have HN := Lib.hid hn
  have HL := Lib.hid hl
  clear hn hl
  go_enter Tryd.func21, Tryd.ntmps21
  go_wp2_with fail
  refine (procs_any n w).mono ?_
  rintro e w1 ⟨rfl, rfl⟩
  by_cases hp : n < 1 ∨ 5 < n
  · have HR := Lib.hid (P1.out hp)
    clear P1 P2 P3 P4
    rw [procsE_bad hp]
    go_wp2_with fail
    go_ret2
    exact RetPair.of HR.out (Below.refl _ _)
  rw [procsE_ok hp]
  by_cases hz : 24 < b.size
  · have HR := Lib.hid (P2.out hp hz)
    clear P1 P2 P3 P4
    go_wp2_with fail
    all_goals first | (exfalso; omega) | skip
    go_ret2
    exact RetPair.of HR.out (Below.refl _ _)
  have hc := HN.out hz
  cases r with
  | none =>
    have HR := Lib.hid (P3.out hp hz rfl)
    clear P1 P2 P3 P4
    go_wp2_with fail
    all_goals first | (exfalso; omega) | skip
    refine hc.mono ?_
    rintro e w1 ⟨v, hb, rfl⟩
    have HB := Lib.hid hb
    clear hb
    go_wp2_with fail
    go_ret2
    exact RetPair.of HR.out HB.out
  | some xs =>
  have HR := Lib.hid (P4.out xs hp hz rfl)
  have hl := HL.out hz xs rfl
  clear P1 P2 P3 P4
  go_wp2_with fail
  all_goals first | (exfalso; omega) | skip
  refine hc.mono ?_
  rintro e w1 ⟨v, hb, rfl, hown⟩
  obtain ⟨A, c, rfl, hA1, hA2, hIA⟩ := hown.form
  have HB := Lib.hid hb
  have HI := Lib.hid hIA
  clear hb hown hIA hc
  go_wp2_with fail
  refine (of_any n A c xs (by omega) w1 HI.out).mono ?_
  rintro e w2 ⟨rfl, hb2⟩
  have HB2 := Lib.hid (HB.out.trans (hb2.mono HB.out.size))
  have HI2 := Lib.hid (HI.out.keep hb2)
  have hsz := hb2.size
  obtain ⟨bs, hbs⟩ : ∃ bs, bs = w1.heap.size := ⟨_, rfl⟩
  rw [← hbs] at HI2
  clear hb2
  obtain ⟨s, er, hse⟩ : ∃ s er, ofE n xs = (s, er) := ⟨_, _, rfl⟩
  rw [hse] at HR ⊢
  dsimp only at HR ⊢
  clear hse
  by_cases h0 : er = 0
  case neg =>
    have HR2 := Lib.hid (HR.out.trans (if_pos h0))
    clear HR
    have e0 : (er != 0) = true := by simpa using h0
    go_wp2_with fail
    go_ret2
    exact RetPair.of HR2.out HB2.out
  subst h0
  have HR2 := Lib.hid (HR.out.trans (if_neg (by simp)))
  clear HR
  go_wp2_with fail
  go_loopw [11] (fun i wr => ∃ k : Nat, 1 ≤ k ∧ k ≤ 1001 ∧ i = .int .i64 (k : Int) ∧ Hid (risTo xs k) ∧ Below w2.heap.size w2 wr) (fun i _ => 1002 - (intOf i).toNat)
  case atStart => exact ⟨1, by omega, by omega, rfl, fun i h1 h2 => by omega, Below.refl _ _⟩
  case round =>
    obtain ⟨k, hk1, hk2, rfl, hri, hbl⟩ := hrel
    have HBL := Lib.hid hbl
    clear hbl
    by_cases hlt : k < xs.length
    · have hI3 := HI2.out.keep (HBL.out.mono (by omega))
      obtain ⟨b1, o1, rfl, hb1, c2⟩ := hI3.at_ k hlt
      obtain ⟨b2, o2, he, hb2, c1⟩ := hI3.at_ (k - 1) (by omega)
      obtain ⟨rfl, rfl⟩ : b1 = b2 ∧ o1 = o2 := by simpa using he
      clear he hI3
      have g1 := Lib.hid (getD_at hlt)
      have g2 := Lib.hid (getD_at (xs := xs) (k := k - 1) (by omega))
      obtain ⟨x, hx⟩ : ∃ x, xs[k] = x := ⟨_, rfl⟩
      obtain ⟨y, hy⟩ : ∃ y, xs[k - 1] = y := ⟨_, rfl⟩
      rw [hx] at c2 g1
      rw [hy] at c1 g2
      clear hx hy
      obtain ⟨j, rfl⟩ : ∃ j, k = j + 1 := ⟨k - 1, by omega⟩
      rw [Nat.add_sub_cancel] at c1 g2
      by_cases hxy : x ≤ y
      · have HR3 := Lib.hid (HR2.out.trans (if_neg (by rw [ris_no hk1 hlt (by rw [Nat.add_sub_cancel, g1.out, g2.out]; exact hxy)]; decide)))
        clear HR2
        go_wp2_with fail
        go_quiet (fail)
        go_wp2_with fail
        all_goals first | (exfalso; omega) | skip
        go_ret2
        exact RetPair.of HR3.out (belN (HB2.out.trans (HBL.out.mono HB2.out.size)) _)
      · have hri2 : risTo xs (j + 1 + 1) := fun i h1 h2 => by
          by_cases e : i = j + 1
          · subst e; rw [Nat.add_sub_cancel, g1.out, g2.out]; omega
          · exact hri.out i h1 (by omega)
        have HRI := Lib.hid hri2
        clear hri2
        go_wp2_with fail
        go_quiet (fail)
        go_wp2_with fail
        all_goals first | (exfalso; omega) | skip
        go_roundw
        case rel => exact ⟨j + 1 + 1, by omega, by omega, by go_num, HRI, belN HBL.out _⟩
        case measure => simp [intOf]; omega
    · have HR3 := Lib.hid (HR2.out.trans (if_pos (ris_yes hri.out (by omega))))
      clear HR2
      go_wp2_with fail
      all_goals first | (exfalso; omega) | skip
      go_ret2
      exact RetPair.of HR3.out (HB2.out.trans (HBL.out.mono HB2.out.size))

end Go.Proofs.YtppklecmlkicaaaDoor
