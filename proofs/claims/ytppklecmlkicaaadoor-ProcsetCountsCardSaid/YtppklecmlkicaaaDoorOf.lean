/- Of, twice. -/
import Derived.Test.YtppklecmlkicaaaDoorProg
import Derived.Test.YtppklecmlkicaaaDoorRChoo
import Derived.Deep.QuietTactic
import Derived.BigQuiet
import Derived.StillTactics
namespace Go.Proofs.YtppklecmlkicaaaDoor
open Go.RowKit

def ofRun (n : Int) : Nat → List Int → Int × Int
  | acc, [] => ((acc : Int), 0)
  | acc, x :: xs => if x < 0 ∨ n ≤ x then (0, 2) else if acc.testBit x.toNat = true then (0, 7) else ofRun n (acc ||| 2 ^ x.toNat) xs
def ofE (n : Int) (xs : List Int) : Int × Int := if n < 1 ∨ 5 < n then (0, 1) else ofRun n 0 xs

theorem ofRun_out {n : Int} {acc k : Nat} {xs : List Int} (hk : k < xs.length) (h : xs[k] < 0 ∨ n ≤ xs[k]) : ofRun n acc (xs.drop k) = (0, 2) := by
  rw [List.drop_eq_getElem_cons hk, ofRun, if_pos h]
theorem ofRun_twice {n : Int} {acc k : Nat} {xs : List Int} (hk : k < xs.length) (h : ¬ (xs[k] < 0 ∨ n ≤ xs[k])) (h2 : acc.testBit xs[k].toNat = true) : ofRun n acc (xs.drop k) = (0, 7) := by
  rw [List.drop_eq_getElem_cons hk, ofRun, if_neg h, if_pos h2]
theorem ofRun_on {n : Int} {acc k : Nat} {xs : List Int} (hk : k < xs.length) (h : ¬ (xs[k] < 0 ∨ n ≤ xs[k])) (h2 : acc.testBit xs[k].toNat = false) : ofRun n acc (xs.drop k) = ofRun n (acc ||| 2 ^ xs[k].toNat) (xs.drop (k + 1)) := by
  rw [List.drop_eq_getElem_cons hk, ofRun, if_neg h, if_neg (by rw [h2]; decide)]
theorem ofRun_end {n : Int} {acc k : Nat} {xs : List Int} (hk : k = xs.length) : ofRun n acc (xs.drop k) = ((acc : Int), 0) := by
  subst hk; rw [List.drop_length]; rfl

def RetPair (r : Int × Int) (w : World) (e : Ending) (w' : World) : Prop := e = .returned (.tuple #[.int .i64 r.1, .int .i64 r.2]) ∧ Below w.heap.size w w'
theorem RetPair.of {r : Int × Int} {a b : Int} {w w' : World} (h : r = (a, b)) (hb : Below w.heap.size w w') : RetPair r w (.returned (.tuple #[.int .i64 a, .int .i64 b])) w' := by subst h; exact ⟨rfl, hb⟩

set_option maxHeartbeats 2000000 in
theorem rof_any (n : Int) (A : Option Addr) (cap : Nat) (xs : List Int) (hl : xs.length ≤ 2199023255552) (w : World) (hA : IAt w w.heap.size A xs) :
    Calls Tryd.prog 13 #[.int .i64 n, .slice A xs.length cap] w (RetPair (ofE n xs) w) := by
  have H : Hid (ofE n xs = if n < 1 ∨ 5 < n then (0, 1) else ofRun n 0 xs) := rfl
  have HA := Lib.hid hA
  clear hA
  have hc := rprocs_any n w
  go_enter Tryd.func13, Tryd.ntmps13
  go_wp2_with fail
  refine hc.mono ?_
  rintro e w1 ⟨rfl, rfl⟩
  by_cases hn : n < 1 ∨ 5 < n
  · have HM := Lib.hid (H.out.trans (if_pos hn))
    clear H
    rw [procsE_bad hn]
    go_wp2_with fail
    go_ret2
    exact RetPair.of HM.out (Below.refl _ _)
  have HM := Lib.hid (H.out.trans (if_neg hn))
  clear H
  rw [procsE_ok hn]
  go_wp2_with fail
  go_loop [7, 8] (fun v i => ∃ acc k : Nat, acc < 32 ∧ k ≤ xs.length ∧ v = .int .i64 (acc : Int) ∧ i = .int .i64 (k : Int) ∧ Hid (ofE n xs = ofRun n acc (xs.drop k))) (fun _ i => xs.length - (intOf i).toNat)
  case atStart => exact ⟨0, 0, by omega, by omega, rfl, rfl, by rw [List.drop_zero]; exact HM⟩
  case round =>
    obtain ⟨acc, k, ha, hk, rfl, rfl, hof⟩ := hrel
    clear HM
    by_cases hlt : k < xs.length
    · obtain ⟨b, off, rfl, hbB, hcell⟩ := HA.out.at_ k hlt
      obtain ⟨x, hx⟩ : ∃ x, xs[k] = x := ⟨_, rfl⟩
      have h1 := Lib.hid (@ofRun_out n acc k xs hlt)
      have h2 := Lib.hid (@ofRun_twice n acc k xs hlt)
      have h3 := Lib.hid (@ofRun_on n acc k xs hlt)
      rw [hx] at hcell h1 h2 h3
      clear hx
      by_cases hx0 : x < 0
      · have HR := Lib.hid (hof.out.trans (h1.out (.inl hx0)))
        clear hof h1 h2 h3
        go_wp2_with fail
        go_ret2
        exact RetPair.of HR.out (Below.refl _ _)
      by_cases hxn : n ≤ x
      · have HR := Lib.hid (hof.out.trans (h1.out (.inr hxn)))
        clear hof h1 h2 h3
        go_wp2_with fail
        go_ret2
        exact RetPair.of HR.out (Below.refl _ _)
      obtain ⟨p, rfl⟩ := Int.eq_ofNat_of_zero_le (show 0 ≤ x by omega)
      have hp5 : p < 5 := by omega
      have c1 := has_any acc p ha hp5 w
      have c2 := with_any acc p ha hp5 w
      have hwf := (with_fact ha hp5).2
      go_wp2_with fail
      refine c1.mono ?_
      rintro e w1 ⟨rfl, rfl⟩
      by_cases hb : acc.testBit p = true
      · have HR := Lib.hid (hof.out.trans (h2.out (by omega) hb))
        clear hof h1 h2 h3
        rw [hb]
        go_wp2_with fail
        go_ret2
        exact RetPair.of HR.out (Below.refl _ _)
      · have hb' : acc.testBit p = false := by simpa using hb
        have HR := Lib.hid (hof.out.trans (h3.out (by omega) hb'))
        clear hof h1 h2 h3
        rw [hb']
        go_wp2_with fail
        refine c2.mono ?_
        rintro e w1 ⟨rfl, rfl⟩
        go_wp2_with fail
        go_round
        case rel => exact ⟨_, k + 1, hwf, by omega, rfl, by go_num, HR⟩
        case measure => simp [intOf]; omega
    · obtain rfl : k = xs.length := by omega
      have HR := Lib.hid (hof.out.trans (ofRun_end rfl))
      clear hof
      go_wp2_with fail
      go_ret2
      exact RetPair.of HR.out (Below.refl _ _)

theorem of_fact {s p : Nat} (hs : s < 32) (hp : p < 5) : (bits BinOp.and IntKind.i64 ((s : Int) / 2 ^ p) 1 == 1) = s.testBit p ∧ bits BinOp.or IntKind.i64 (s : Int) (wrap64 (2 ^ p)) = ((s ||| 2 ^ p : Nat) : Int) := by
  have h := of32 (p := fun s => below32 fun p => !decide (p < 5) || (((bits BinOp.and IntKind.i64 ((s : Int) / 2 ^ p) 1 == 1) == s.testBit p) && decide (bits BinOp.or IntKind.i64 (s : Int) (wrap64 (2 ^ p)) = ((s ||| 2 ^ p : Nat) : Int)))) (by decide +kernel) hs
  have h := of32 h (show p < 32 by omega)
  simpa only [hp, decide_true, Bool.not_true, Bool.false_or, Bool.and_eq_true, decide_eq_true_eq, beq_iff_eq] using h

set_option maxHeartbeats 2000000 in
theorem of_any (n : Int) (A : Option Addr) (cap : Nat) (xs : List Int) (hl : xs.length ≤ 2199023255552) (w : World) (hA : IAt w w.heap.size A xs) :
    Calls Tryd.prog 12 #[.int .i64 n, .slice A xs.length cap] w (RetPair (ofE n xs) w) := by
  have H : Hid (ofE n xs = if n < 1 ∨ 5 < n then (0, 1) else ofRun n 0 xs) := rfl
  have HA := Lib.hid hA
  clear hA
  have hc := procs_any n w
  go_enter Tryd.func12, Tryd.ntmps12
  go_wp2_with fail
  refine hc.mono ?_
  rintro e w1 ⟨rfl, rfl⟩
  by_cases hn : n < 1 ∨ 5 < n
  · have HM := Lib.hid (H.out.trans (if_pos hn))
    clear H
    rw [procsE_bad hn]
    go_wp2_with fail
    go_ret2
    exact RetPair.of HM.out (Below.refl _ _)
  have HM := Lib.hid (H.out.trans (if_neg hn))
  clear H
  rw [procsE_ok hn]
  go_wp2_with fail
  go_loop [7, 17] (fun v i => ∃ acc k : Nat, acc < 32 ∧ k ≤ xs.length ∧ v = .int .i64 (acc : Int) ∧ i = .int .i64 (k : Int) ∧ Hid (ofE n xs = ofRun n acc (xs.drop k))) (fun _ i => xs.length - (intOf i).toNat)
  case atStart => exact ⟨0, 0, by omega, by omega, rfl, rfl, by rw [List.drop_zero]; exact HM⟩
  case round =>
    obtain ⟨acc, k, ha, hk, rfl, rfl, hof⟩ := hrel
    clear HM
    by_cases hlt : k < xs.length
    · obtain ⟨b, off, rfl, hbB, hcell⟩ := HA.out.at_ k hlt
      obtain ⟨x, hx⟩ : ∃ x, xs[k] = x := ⟨_, rfl⟩
      have h1 := Lib.hid (@ofRun_out n acc k xs hlt)
      have h2 := Lib.hid (@ofRun_twice n acc k xs hlt)
      have h3 := Lib.hid (@ofRun_on n acc k xs hlt)
      rw [hx] at hcell h1 h2 h3
      clear hx
      by_cases hx0 : x < 0
      · have HR := Lib.hid (hof.out.trans (h1.out (.inl hx0)))
        clear hof h1 h2 h3
        go_wp2_with fail
        go_ret2
        exact RetPair.of HR.out (Below.refl _ _)
      by_cases hxn : n ≤ x
      · have HR := Lib.hid (hof.out.trans (h1.out (.inr hxn)))
        clear hof h1 h2 h3
        go_wp2_with fail
        go_ret2
        exact RetPair.of HR.out (Below.refl _ _)
      obtain ⟨p, rfl⟩ := Int.eq_ofNat_of_zero_le (show 0 ≤ x by omega)
      have hp5 : p < 5 := by omega
      obtain ⟨f1, f2⟩ := of_fact ha hp5
      have hwf := (with_fact ha hp5).2
      have F2 := Lib.hid f2
      clear f2
      by_cases hb : acc.testBit p = true
      · have HR := Lib.hid (hof.out.trans (h2.out (by omega) hb))
        clear hof h1 h2 h3
        rw [hb] at f1
        go_wp2_with fail
        go_ret2
        exact RetPair.of HR.out (Below.refl _ _)
      · have hb' : acc.testBit p = false := by simpa using hb
        have HR := Lib.hid (hof.out.trans (h3.out (by omega) hb'))
        clear hof h1 h2 h3
        rw [hb'] at f1
        go_wp2_with fail
        go_round
        case rel => exact ⟨_, k + 1, hwf, by omega, by rw [F2.out], by go_num, HR⟩
        case measure => simp [intOf]; omega
    · obtain rfl : k = xs.length := by omega
      have HR := Lib.hid (hof.out.trans (ofRun_end rfl))
      clear hof
      go_wp2_with fail
      go_ret2
      exact RetPair.of HR.out (Below.refl _ _)
end Go.Proofs.YtppklecmlkicaaaDoor
