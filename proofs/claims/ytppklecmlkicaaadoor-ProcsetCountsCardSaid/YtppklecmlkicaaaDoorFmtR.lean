/- The reference's Text, Format. -/
import Derived.Test.YtppklecmlkicaaaDoorProg
import Derived.Test.YtppklecmlkicaaaDoorLeast
import Derived.Shelf.Abstract
import Derived.Lib.Hide
import Derived.Test.YtppklecmlkicaaaDoorShelf
import Derived.Deep.QuietTactic
import Derived.BigQuiet
import Derived.StillTactics
import Derived.Maps.RangeWalk
namespace Go.Proofs.YtppklecmlkicaaaDoor
open Go.RowKit Go.Shelf

def dig (p : Nat) : UInt8 := UInt8.ofNat (48 + p)
def textTo (s k : Nat) : List UInt8 := Lib.join (((bitsL s).take k).map fun p => [dig p]) [44]
def textL (s : Nat) : List UInt8 := 123 :: textTo s 5 ++ [125]
def formE (n s : Int) : List UInt8 := if checkSE n s = 0 then textL s.toNat else []

theorem bits5 (s : Nat) : (bitsL s).length ≤ 5 := bits_length s 5
theorem text_step {s k : Nat} (hs : s < 32) (hk : k < (bitsL s).length) : textTo s (k + 1) = (if 0 < k then textTo s k ++ [44] else textTo s k) ++ [dig ((bitsL s)[k])] ∧ (bitsL s)[k] < 5 := by
  have h := of32 (p := fun s => below32 fun k => !decide (k < (bitsL s).length) || (decide (textTo s (k + 1) = (if 0 < k then textTo s k ++ [44] else textTo s k) ++ [dig ((bitsL s).getD k 0)]) && decide ((bitsL s).getD k 0 < 5))) (by decide +kernel) hs
  have hl : (bitsL s).length ≤ 5 := bits_length s 5
  have h := of32 h (show k < 32 by omega)
  simp only [hk, decide_true, Bool.not_true, Bool.false_or, Bool.and_eq_true, decide_eq_true_eq] at h
  rw [List.getD_eq_getElem?_getD, List.getElem?_eq_getElem hk] at h
  exact h
theorem text_all {s : Nat} : textTo s (bitsL s).length = textTo s 5 := by
  unfold textTo
  rw [List.take_length, List.take_of_length_le (bits5 s)]
theorem text_small {s k : Nat} (hs : s < 32) : (textTo s k).length ≤ 9 := by
  have h := of32 (p := fun s => (List.range 6).all fun k => decide ((textTo s k).length ≤ 9)) (by decide +kernel) hs
  by_cases hk : k < 6
  · simpa using (List.all_eq_true.1 h) k (by simpa using hk)
  · have := (List.all_eq_true.1 h) 5 (by simp)
    unfold textTo at this ⊢
    rw [List.take_of_length_le (Nat.le_trans (bits5 s) (by omega))]
    rw [List.take_of_length_le (bits5 s)] at this
    simpa using this

theorem run_rune (p : Nat) (hp : p < 5) (w : World) : (convert 21 9 (.int .i32 (48 + (p : Int)))).run Tryd.prog w = .ok (.string ⟨#[dig p]⟩) w := by
  obtain rfl | rfl | rfl | rfl | rfl : p = 0 ∨ p = 1 ∨ p = 2 ∨ p = 3 ∨ p = 4 := by omega
  all_goals kernel_rfl

set_option maxRecDepth 100000 in
set_option maxHeartbeats 2000000 in
theorem rtext_any (s : Nat) (hs : s < 32) (w : World) : Calls Tryd.prog 51 #[.int .i64 s] w fun e w' => e = .returned (.string ⟨(textL s).toArray⟩) ∧ Below w.heap.size w w' := by
  go_enter Tryd.func51, Tryd.ntmps51
  go_wp2_with fail
  refine (list_any s hs w).mono ?_
  rintro e w2 ⟨v, rfl, hown, hb2⟩
  obtain ⟨A, c, rfl, hA1, hA2, hIA⟩ := hown.form
  have hl5 : (bitsL s).length ≤ 5 := bits_length s 5
  rw [intL_length] at hA1 ⊢
  have HI := Lib.hid hIA
  have HB := Lib.hid hb2
  clear hown hb2 hIA
  go_wp2_with fail
  go_loop [3, 5] (fun o i => ∃ k : Nat, k ≤ (bitsL s).length ∧ i = .int .i64 (k : Int) ∧ o = .string ⟨(textTo s k).toArray⟩) (fun _ i => 6 - (intOf i).toNat)
  case atStart => exact ⟨0, by omega, rfl, rfl⟩
  case round =>
    obtain ⟨k, hk, rfl, rfl⟩ := hrel
    by_cases hlt : k < (bitsL s).length
    · obtain ⟨hst, hp5⟩ := text_step hs hlt
      obtain ⟨b, off, rfl, hbB, hcell⟩ := HI.out.at_ k (by rw [intL_length]; exact hlt)
      have hv : (intL (bitsL s))[k]'(by rw [intL_length]; exact hlt) = (((bitsL s)[k] : Nat) : Int) := by unfold intL; rw [List.getElem_map]
      rw [hv] at hcell
      obtain ⟨p, hp⟩ : ∃ p, (bitsL s)[k] = p := ⟨_, rfl⟩
      rw [hp] at hcell hst hp5
      clear hv hp
      have hsm := text_small (k := k) hs
      have hsm2 := text_small (k := k + 1) hs
      obtain ⟨T, hT⟩ : ∃ T, textTo s k = T := ⟨_, rfl⟩
      rw [hT] at hst hsm ⊢
      clear hT
      have HS := Lib.hid hst
      clear hst
      have hru := run_rune p hp5
      all_goals
        by_cases h0 : 0 < k
        · have h9 := HS.out
          rw [if_pos h0] at h9
          have HS2 := Lib.hid h9
          clear HS h9
          have e0 : (0 : Int) < (k : Int) := by omega
          go_wp2_with fail
          go_round
          case rel =>
            refine ⟨k + 1, by omega, by go_num, ?_⟩
            rw [HS2.out]
            first | (congr 1; done) | (congr 1; apply ByteArray.ext; simp; done) | (congr 1; apply ByteArray.ext; simp; rfl)
          case measure => simp [intOf]; omega
        · have h9 := HS.out
          rw [if_neg h0] at h9
          have HS2 := Lib.hid h9
          clear HS h9
          have e0 : (k : Int) ≤ 0 := by omega
          go_wp2_with fail
          go_round
          case rel =>
            refine ⟨k + 1, by omega, by go_num, ?_⟩
            rw [HS2.out]
            first | (congr 1; done) | (congr 1; apply ByteArray.ext; simp; done) | (congr 1; apply ByteArray.ext; simp; rfl)
          case measure => simp [intOf]; omega
    · obtain rfl : k = (bitsL s).length := by omega
      have hsm := text_small (k := (bitsL s).length) hs
      rw [text_all] at hsm ⊢
      have HTL : Hid (textL s = 123 :: textTo s 5 ++ [125]) := rfl
      obtain ⟨T, hT⟩ : ∃ T, textTo s 5 = T := ⟨_, rfl⟩
      rw [hT] at hsm HTL ⊢
      go_wp2_with fail
      go_ret
      refine ⟨?_, HB.out⟩
      rw [HTL.out]
      first | (congr 2; done) | (congr 2; apply ByteArray.ext; simp; done) | (congr 2; apply ByteArray.ext; simp; rfl)
end Go.Proofs.YtppklecmlkicaaaDoor
