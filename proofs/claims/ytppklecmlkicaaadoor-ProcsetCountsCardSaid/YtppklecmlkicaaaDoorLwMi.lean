/- The law Mirrors: its walk. -/
import Derived.Test.YtppklecmlkicaaaDoorProg
import Derived.Test.YtppklecmlkicaaaDoorLwLs
import Derived.Test.YtppklecmlkicaaaDoorEndA
import Derived.Deep.QuietTactic
import Derived.BigQuiet
import Derived.StillTactics
namespace Go.Proofs.YtppklecmlkicaaaDoor
open Go.RowKit

theorem mirror_at {t q i : Nat} (h32 : t < 32) (hq : q ≤ cardN t) (hi : i < (chA t q).length) : ∃ p : Nat, p ≤ t ∧ (chA t q)[i] = (p : Int) ∧ (chA t (cardN t - q))[(chA t q).length - 1 - i]? = some ((t : Int) - (p : Int)) := by
  obtain ⟨p, hp, hpt, _⟩ := chA_mem h32 (List.getElem_mem hi)
  refine ⟨p, hpt, hp, ?_⟩
  rw [mirror_plain h32 hq, List.getElem?_reverse (by simp; omega)]
  simp only [List.length_map]
  rw [show (chA t q).length - 1 - ((chA t q).length - 1 - i) = i by omega, List.getElem?_map, List.getElem?_eq_getElem hi, hp]
  rfl
theorem mirror_len {t q : Nat} (h32 : t < 32) (hq : q ≤ cardN t) : (chA t (cardN t - q)).length = (chA t q).length := by
  rw [mirror_plain h32 hq]; simp

theorem low_mask {t : Nat} (h32 : t < 32) (h0 : t ≠ 0) : bits BinOp.and IntKind.i64 (t : Int) (wrap64 (wrap64 (2 ^ low t) - 1)) = 0 := by
  have h := of32 (p := fun t => t == 0 || (bits BinOp.and IntKind.i64 (t : Int) (wrap64 (wrap64 (2 ^ low t) - 1)) == 0)) (by decide +kernel) h32
  simpa [h0] using h

set_option maxRecDepth 100000 in
set_option maxHeartbeats 4000000 in
theorem mirrors_any (n s k : Int) (w : World) (hT : Tab w) (m : Int) (hm : w.cell? ⟨3, 0, none⟩ = some (.int .i64 m)) (h4 : 4 ≤ w.heap.size) :
    Calls Tryd.prog 6 #[.int .i64 n, .int .i64 s, .int .i64 k] w fun e w' => e = .returned (.bool true) ∧ Below w.heap.size w w' := by
  have HT := Lib.hid hT
  have HM := Lib.hid hm
  have C1 := Lib.hid (size_any n s)
  by_cases hc : checkSE n s = 0
  case neg =>
    obtain ⟨x3, hx3⟩ : ∃ L, checkSE n s = L := ⟨_, rfl⟩
    rw [hx3] at C1 hc
    have e0 : (x3 != 0) = true := by simpa using hc
    obtain ⟨x4, hx4⟩ : ∃ L, sizeE n s = L := ⟨_, rfl⟩
    rw [hx4] at C1
    clear hT hm hx3 hx4 hc
    go_enter Tryd.func6, Tryd.ntmps6
    go_wp2_with fail
    refine (C1.out w).mono ?_
    rintro e w1 ⟨rfl, hb⟩
    have B1 := Lib.hid hb
    have c5 := awake_any w1 (HT.out.keep B1.out (by omega)) m ((B1.out.cell (p := ⟨3, 0, none⟩) (by show 3 < w.heap.size; omega)).trans HM.out) (by have := B1.out.size; omega)
    clear hb
    go_wp2_with fail
    refine c5.mono ?_
    rintro e w2 ⟨rfl, hb⟩
    have B2 := Lib.hid (B1.out.trans (hb.mono B1.out.size))
    clear hb c5
    go_wp2_with fail
    go_ret
    exact ⟨rfl, B2.out⟩
  case pos =>
  obtain ⟨a, t, rfl, rfl, a1, a5, hlt, h32⟩ := check_ok hc
  have hz : sizeE (a : Int) (t : Int) = (cardN t : Int) := by unfold sizeE; rw [if_pos hc]; rfl
  have h5 := card_le t
  rw [hz, hc] at C1
  by_cases hk : k < 0 ∨ (cardN t : Int) < k
  · obtain ⟨cz, hcz⟩ : ∃ cz, cardN t = cz := ⟨_, rfl⟩
    rw [hcz] at C1 hk h5
    clear hT hm hz hcz hc
    go_enter Tryd.func6, Tryd.ntmps6
    go_wp2_with fail
    refine (C1.out w).mono ?_
    rintro e w1 ⟨rfl, hb⟩
    have B1 := Lib.hid hb
    have c5 := awake_any w1 (HT.out.keep B1.out (by omega)) m ((B1.out.cell (p := ⟨3, 0, none⟩) (by show 3 < w.heap.size; omega)).trans HM.out) (by have := B1.out.size; omega)
    clear hb
    have C5 := Lib.hid c5
    clear c5
    rcases hk with hk | hk
    · go_wp2_with fail
      refine C5.out.mono ?_
      rintro e w2 ⟨rfl, hb⟩
      have B2 := Lib.hid (B1.out.trans (hb.mono B1.out.size))
      clear hb
      go_wp2_with fail
      go_ret
      exact ⟨rfl, B2.out⟩
    · have hk0 : ¬ k < 0 := by omega
      go_wp2_with fail
      refine C5.out.mono ?_
      rintro e w2 ⟨rfl, hb⟩
      have B2 := Lib.hid (B1.out.trans (hb.mono B1.out.size))
      clear hb
      go_wp2_with fail
      go_ret
      exact ⟨rfl, B2.out⟩
  obtain ⟨q, rfl⟩ := Int.eq_ofNat_of_zero_le (show 0 ≤ k by omega)
  have hq : q ≤ cardN t := by omega
  obtain ⟨d1, d2⟩ := choo_at hc hq
  obtain ⟨d3, d4⟩ := choo_at (k := cardN t - q) hc (by omega)
  have C2 := Lib.hid (choose_any (a : Int) (t : Int) (q : Int))
  have C3 := Lib.hid (choose_any (a : Int) (t : Int) ((cardN t - q : Nat) : Int))
  rw [show ((cardN t - q : Nat) : Int) = (cardN t : Int) - (q : Int) by omega] at C3 d3 d4
  rw [d1, d2] at C2
  rw [d3, d4] at C3
  have hml := mirror_len h32 hq
  have hla := chA_length t q h32
  have HMI := Lib.hid (fun i => @mirror_at t q i h32 hq)
  have C7 := Lib.hid (least_any (a : Int) (t : Int))
  have HCZ : Hid (cardN t = 0 ↔ t = 0) := card_zero h32
  obtain ⟨La, hLa⟩ : ∃ L, chA t q = L := ⟨_, rfl⟩
  obtain ⟨Lb, hLb⟩ : ∃ L, chA t (cardN t - q) = L := ⟨_, rfl⟩
  rw [hLa] at C2 hml hla HMI
  rw [hLb] at C3 hml HMI
  obtain ⟨cz, hcz⟩ : ∃ cz, cardN t = cz := ⟨_, rfl⟩
  rw [hcz] at C1 hk h5 hq HCZ C3
  have HC := Lib.hid hc
  clear hT hm hz hcz hc d1 d2 d3 d4 hLa hLb
  go_enter Tryd.func6, Tryd.ntmps6
  go_wp2_with fail
  refine (C1.out w).mono ?_
  rintro e w1 ⟨rfl, hb⟩
  have B1 := Lib.hid hb
  clear hb
  have hk0 : ¬ ((q : Int) < 0) := by omega
  have hk1 : ¬ ((cz : Int) < (q : Int)) := by omega
  clear hk
  go_wp2_with fail
  all_goals first | (exfalso; omega) | skip
  refine (C2.out w1).mono ?_
  rintro e w2 ⟨v2, rfl, ho2, hb⟩
  obtain ⟨A2, k2, rfl, _, _, hI2⟩ := ho2.form
  have I2 := Lib.hid hI2
  have B2 := Lib.hid (B1.out.trans (hb.mono B1.out.size))
  clear ho2 hI2 hb B1
  go_wp2_with fail
  refine (C3.out w2).mono ?_
  rintro e w3 ⟨v3, rfl, ho3, hb⟩
  obtain ⟨A3, k3, rfl, _, _, hI3⟩ := ho3.form
  have I3 := Lib.hid hI3
  have I2a := Lib.hid (I2.out.up hb)
  have B3 := Lib.hid (B2.out.trans (hb.mono B2.out.size))
  have HML := Lib.hid hml
  clear ho3 hI3 hb B2 I2
  rw [hml]
  clear hml
  go_wp2_with fail
  go_loop [66] (fun i => ∃ k : Nat, k ≤ La.length ∧ i = .int .i64 (k : Int)) (fun i => La.length - (intOf i).toNat)
  case atStart => exact ⟨0, by omega, rfl⟩
  case round =>
    obtain ⟨i, hi, rfl⟩ := hrel
    by_cases hil : i < La.length
    · obtain ⟨p, hp, hpe, hpm⟩ := HMI.out i hil
      obtain ⟨b1, o1, rfl, hb1, c1⟩ := I2a.out.at_ i hil
      have hjl : La.length - 1 - i < Lb.length := by have := HML.out; omega
      obtain ⟨b2, o2, rfl, hb2, c2⟩ := I3.out.at_ (La.length - 1 - i) hjl
      rw [List.getElem?_eq_getElem hjl] at hpm
      rw [hpe] at c1
      rw [Option.some.inj hpm] at c2
      have j1 : 0 ≤ (La.length : Int) - 1 - (i : Int) := by omega
      have j2 : (La.length : Int) - 1 - (i : Int) < (La.length : Int) := by omega
      clear hpm hpe hjl
      go_wp2_with fail
      go_round
      case rel => exact ⟨i + 1, by omega, by go_num⟩
      case measure => simp [intOf]; omega
    · obtain rfl : i = La.length := by omega
      go_wp2_with fail
      refine (C7.out w3 (HT.out.keep B3.out (by omega)) (by have := B3.out.size; omega)).mono ?_
      rintro e w4 ⟨rfl, hb⟩
      have B4 := Lib.hid (B3.out.trans (hb.mono B3.out.size))
      have c5 := awake_any w4 (HT.out.keep B4.out (by omega)) m ((B4.out.cell (p := ⟨3, 0, none⟩) (by show 3 < w.heap.size; omega)).trans HM.out) (by have := B4.out.size; omega)
      have C5 := Lib.hid c5
      clear hb c5
      by_cases ht : t = 0
      · obtain rfl : cz = 0 := HCZ.out.2 ht
        have hle := leastE_none (n := (a : Int)) (s := (t : Int)) HC.out (by rw [ht]; rfl)
        rw [hle]
        clear hle
        go_wp2_with fail
        refine C5.out.mono ?_
        rintro e w5 ⟨rfl, hb⟩
        have B5 := Lib.hid (B4.out.trans (hb.mono B4.out.size))
        clear hb
        go_wp2_with fail
        go_ret
        exact ⟨rfl, B5.out⟩
      · have hz0 : ¬ cz = 0 := fun h => ht (HCZ.out.1 h)
        have e0 : ((cz : Int) == 0) = false := by simp; omega
        have hle := leastE_some (n := (a : Int)) (s := (t : Int)) HC.out (by rw [Int.toNat_natCast]; intro h; exact ht ((card_zero h32).1 (by unfold cardN; rw [h]; rfl)))
        rw [Int.toNat_natCast] at hle
        rw [hle]
        obtain ⟨p1, p2, p3, p4⟩ := low_plain h32 ht
        have p5 := low_lt h32 ht hlt
        have hof := (of_fact h32 p2).1
        rw [p1] at hof
        have hbl := low_mask h32 ht
        obtain ⟨p, hp⟩ : ∃ p, low t = p := ⟨_, rfl⟩
        rw [hp] at p2 p5 hof hbl ⊢
        clear hle p1 p3 p4 ht hz0 hp
        go_wp2_with fail
        refine C5.out.mono ?_
        rintro e w5 ⟨rfl, hb⟩
        have B5 := Lib.hid (B4.out.trans (hb.mono B4.out.size))
        clear hb
        go_wp2_with fail
        go_ret
        exact ⟨rfl, B5.out⟩
end Go.Proofs.YtppklecmlkicaaaDoor
