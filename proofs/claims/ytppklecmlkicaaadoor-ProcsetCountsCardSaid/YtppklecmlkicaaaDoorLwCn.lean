/- The law Counts: its walk. -/
import Derived.Test.YtppklecmlkicaaaDoorProg
import Derived.Test.YtppklecmlkicaaaDoorLwRt
import Derived.Test.YtppklecmlkicaaaDoorOwnSrt
import Derived.Deep.QuietTactic
import Derived.BigQuiet
import Derived.StillTactics
import Derived.Maps.RangeWalk
namespace Go.Proofs.YtppklecmlkicaaaDoor
open Go.RowKit

theorem andnot_sub {s x : Nat} (hs : s < 32) (hx : x < 32) (h : x &&& s = x) : bits BinOp.andNot IntKind.i64 (x : Int) (s : Int) = 0 := by
  have h1 := of32 (p := fun s => below32 fun x => !(x &&& s == x) || (bits BinOp.andNot IntKind.i64 (x : Int) (s : Int) == 0)) (by decide +kernel) hs
  have h2 := of32 h1 hx
  simpa [h] using h2
theorem chA_pos {s k : Nat} (hs : s < 32) (hk : k ≤ cardN s) : 0 < (chA s k).length := by
  have h := of32 (p := fun s => (List.range 6).all fun k => !decide (k ≤ cardN s) || decide (0 < (chA s k).length)) (by decide +kernel) hs
  have := card_le s
  have h := List.all_eq_true.1 h k (by simp; omega)
  simpa [hk] using h
def SubsAt (t : Nat) (l : List Int) : Prop := ∀ i (hi : i < l.length), ∃ p : Nat, p < 32 ∧ l[i] = (p : Int) ∧ bits BinOp.andNot IntKind.i64 (p : Int) (t : Int) = 0
theorem subs_at {t i : Nat} (h32 : t < 32) (hi : i < (intL (subsL t)).length) : ∃ p : Nat, p < 32 ∧ (intL (subsL t))[i] = (p : Int) ∧ bits BinOp.andNot IntKind.i64 (p : Int) (t : Int) = 0 := by
  obtain ⟨p, hp, he⟩ := List.mem_map.1 (List.getElem_mem hi)
  obtain ⟨a, b⟩ := List.mem_filter.1 hp
  have a := List.mem_range.1 a
  exact ⟨p, by omega, he.symm, andnot_sub h32 (by omega) (by simpa using b)⟩

set_option maxRecDepth 100000 in
set_option maxHeartbeats 4000000 in
theorem counts_any (n s : Int) (w : World) (hT : Tab w) (m : Int) (hm : w.cell? ⟨3, 0, none⟩ = some (.int .i64 m)) (h4 : 4 ≤ w.heap.size) :
    Calls Tryd.prog 9 #[.int .i64 n, .int .i64 s] w fun e w' => e = .returned (.bool true) ∧ Below w.heap.size w w' := by
  have HT := Lib.hid hT
  have HM := Lib.hid hm
  have C0 := Lib.hid (check_any n s w)
  by_cases hc : checkSE n s = 0
  case neg =>
    have c5 := awake_any w hT m hm h4
    obtain ⟨x3, hx3⟩ : ∃ L, checkSE n s = L := ⟨_, rfl⟩
    rw [hx3] at C0 hc
    have e0 : (x3 != 0) = true := by simpa using hc
    clear hT hm hx3 hc
    go_enter Tryd.func9, Tryd.ntmps9
    go_wp2_with fail
    refine C0.out.mono ?_
    rintro e w1 ⟨rfl, rfl⟩
    go_wp2_with fail
    refine c5.mono ?_
    rintro e w2 ⟨rfl, hb⟩
    have B2 := Lib.hid hb
    clear hb c5
    go_wp2_with fail
    go_ret
    exact ⟨rfl, B2.out⟩
  case pos =>
  obtain ⟨a, t, rfl, rfl, a1, a5, hlt, h32⟩ := check_ok hc
  have hz : sizeE (a : Int) (t : Int) = (cardN t : Int) := by unfold sizeE; rw [if_pos hc]; rfl
  have hsl : subL (a : Int) (t : Int) = intL (subsL t) := by unfold subL; rw [if_pos hc]; rfl
  have h5 := card_le t
  have hsc : (intL (subsL t)).length = 2 ^ cardN t := by rw [intL_length]; exact subs_card h32
  have SR : Hid (Rise (intL (subsL t))) := fun i h => @subs_rise t h32 i h
  have SA : Hid (SubsAt t (intL (subsL t))) := fun i h => @subs_at t i h32 h
  have CH := Lib.hid (fun k (h : k ≤ cardN t) => choo_at hc h)
  have CP := Lib.hid (fun k (h : k ≤ cardN t) => chA_pos h32 h)
  have LL := Lib.hid (fun k h => @layers_length t h32 k h)
  have LS := Lib.hid (layers_sort h32)
  have PC := Lib.hid (fun p (h : p ≤ t) => part_check hc h)
  have CM := Lib.hid (fun k x h => @chA_mem t k h32 x h)
  have CL := Lib.hid (fun k => chA_length t k h32)
  have C1 := Lib.hid (subsets_any (a : Int) (t : Int))
  have C2 := Lib.hid (size_any (a : Int) (t : Int))
  rw [hc] at C0
  rw [hsl, hc] at C1
  rw [hz, hc] at C2
  obtain ⟨xs, hxs⟩ : ∃ xs, intL (subsL t) = xs := ⟨_, rfl⟩
  rw [hxs] at C1 hsc SR SA LS
  obtain ⟨cz, hcz⟩ : ∃ cz, cardN t = cz := ⟨_, rfl⟩
  rw [hcz] at C2 h5 hsc CH CP LS
  have hx32 : xs.length ≤ 32 ∧ 1 ≤ xs.length := by
    rw [hsc]
    obtain rfl | rfl | rfl | rfl | rfl | rfl : cz = 0 ∨ cz = 1 ∨ cz = 2 ∨ cz = 3 ∨ cz = 4 ∨ cz = 5 := by omega
    all_goals simp
  have hsh : (((xs.length : Nat) : Int) != wrap64 (2 ^ cz)) = false := by
    rw [hsc]
    obtain rfl | rfl | rfl | rfl | rfl | rfl : cz = 0 ∨ cz = 1 ∨ cz = 2 ∨ cz = 3 ∨ cz = 4 ∨ cz = 5 := by omega
    all_goals decide +kernel
  clear hT hm hc hz hsl hxs hcz hsc
  go_enter Tryd.func9, Tryd.ntmps9
  go_wp2_with fail
  refine C0.out.mono ?_
  rintro e w1 ⟨rfl, rfl⟩
  go_wp2_with fail
  refine (C1.out w).mono ?_
  rintro e w1 ⟨v1, rfl, ho1, hb⟩
  have B1 := Lib.hid hb
  obtain ⟨A1, k1, rfl, _, _, hI1⟩ := ho1.form
  have I1 := Lib.hid hI1
  clear hb ho1 hI1
  go_wp2_with fail
  refine (C2.out w1).mono ?_
  rintro e w2 ⟨rfl, hb⟩
  have B2 := Lib.hid (B1.out.trans (hb.mono B1.out.size))
  have I2 := Lib.hid (I1.out.up hb)
  clear hb B1 I1
  have k0 : ¬ ((cz : Int) < 0) := by omega
  have k5 : ¬ (5 < (cz : Int)) := by omega
  go_wp2_with fail
  all_goals first | (exfalso; omega) | skip
  go_loop [59] (fun i => ∃ k : Nat, k ≤ xs.length ∧ i = .int .i64 (k : Int)) (fun i => xs.length - (intOf i).toNat)
  case atStart => exact ⟨0, by omega, rfl⟩
  case round =>
    obtain ⟨i, hi, rfl⟩ := hrel
    by_cases hil : i < xs.length
    · obtain ⟨p, hp, hpe, hpa⟩ := SA.out i hil
      obtain ⟨b1, o1, rfl, hb1, c1⟩ := I2.out.at_ i hil
      rw [hpe] at c1
      by_cases hi0 : 0 < i
      · obtain ⟨j, rfl⟩ : ∃ j, i = j + 1 := ⟨i - 1, by omega⟩
        obtain ⟨b2, o2, e2, hb2, c2⟩ := I2.out.at_ j (by omega)
        cases e2
        have hri := SR.out j hil
        rw [hpe] at hri
        obtain ⟨y, hy⟩ : ∃ y, xs[j] = y := ⟨_, rfl⟩
        rw [hy] at c2 hri
        have e1 : (((j + 1 : Nat) : Int) - 1) = (j : Int) := by omega
        have e3 : decide ((p : Int) ≤ y) = false := by simp; omega
        have e4 : ¬ ((p : Int) ≤ y) := by omega
        clear hpe hy
        go_wp2_with fail
        all_goals first | (exfalso; omega) | skip
        go_round
        case rel => exact ⟨j + 1 + 1, by omega, by go_num⟩
        case measure => simp [intOf]; omega
      · obtain rfl : i = 0 := by omega
        rw [Nat.add_zero] at c1
        clear hpe
        go_wp2_with fail
        all_goals first | (exfalso; omega) | skip
        go_round
        case rel => exact ⟨1, by omega, by go_num⟩
        case measure => simp [intOf]; omega
    · obtain rfl : i = xs.length := by omega
      go_wp2_with fail
      obtain ⟨W, hW⟩ : ∃ W, w2 = W := ⟨_, rfl⟩
      rw [hW] at I2 B2 ⊢
      clear hW
      go_loopw [11, 84] (fun v i wr => ∃ k : Nat, k ≤ cz + 1 ∧ i = .int .i64 (k : Int) ∧ Own wr W.heap.size v (layers t k) ∧ Below W.heap.size W wr) (fun _ i _ => 7 - (intOf i).toNat)
      case atStart => exact ⟨0, by omega, rfl, Own.nil _ _, Below.refl _ _⟩
      case round =>
        obtain ⟨k, hk, rfl, hown, hbl⟩ := hrel
        have HO := Lib.hid hown
        have HBL := Lib.hid hbl
        clear hown hbl
        by_cases hkl : k ≤ cz
        · obtain ⟨d1, d2⟩ := CH.out k hkl
          have C3 := Lib.hid (choose_any (a : Int) (t : Int) (k : Int))
          rw [d1, d2] at C3
          have hll := LL.out k (by omega)
          have hpos := CP.out k hkl
          have hcl := CL.out k
          have hcm := CM.out k
          obtain ⟨ys, hys⟩ : ∃ ys, chA t k = ys := ⟨_, rfl⟩
          have hlk : layers t (k + 1) = layers t k ++ ys := by rw [← hys]; rfl
          obtain ⟨ls, hls⟩ : ∃ ls, layers t k = ls := ⟨_, rfl⟩
          rw [hys] at C3 hpos hcl hcm
          rw [hls] at HO hll hlk
          have HLK := Lib.hid hlk
          have HCM := Lib.hid hcm
          clear d1 d2 hys hlk hls hcm
          go_wp2_with fail
          refine (C3.out wr).mono ?_
          rintro e w3 ⟨v3, rfl, ho3, hb⟩
          obtain ⟨A3, k3, rfl, _, _, hI3⟩ := ho3.form
          have I3 := Lib.hid hI3
          have HO3 := Lib.hid (HO.out.below hb (Nat.le_refl _))
          have HB3 := Lib.hid (HBL.out.trans (hb.mono HBL.out.size))
          clear ho3 hI3 hb HO HBL C3
          obtain ⟨W3, hW3⟩ : ∃ W3, w3 = W3 := ⟨_, rfl⟩
          rw [hW3] at I3 HO3 HB3 ⊢
          clear hW3
          go_wp2_with fail
          go_loopw [98] (fun i wr => ∃ j : Nat, j ≤ ys.length ∧ i = .int .i64 (j : Int) ∧ Below W3.heap.size W3 wr) (fun i _ => ys.length - (intOf i).toNat)
          case atStart => exact ⟨0, by omega, rfl, Below.refl _ _⟩
          case round =>
            obtain ⟨j, hj, rfl, hbl⟩ := hrel
            by_cases hjl : j < ys.length
            · obtain ⟨b3, o3, rfl, hb3, c3⟩ := (I3.out.keep hbl).at_ j hjl
              obtain ⟨p, hpe, hpt, _, hpk⟩ := HCM.out _ (List.getElem_mem hjl)
              rw [hpe] at c3
              obtain ⟨g1, g2⟩ := PC.out p hpt
              have C4 := Lib.hid (size_any (a : Int) (p : Int))
              rw [g1, g2, hpk] at C4
              have HBL := Lib.hid hbl
              clear hbl hpe g1 g2 hpk
              go_wp2_with fail
              refine (C4.out _).mono ?_
              rintro e w5 ⟨rfl, hb⟩
              have HB5 := Lib.hid (HBL.out.trans (hb.mono HBL.out.size))
              clear hb C4 HBL
              go_wp2_with fail
              go_roundw
              case rel => exact ⟨j + 1, by omega, by go_num, HB5.out⟩
              case measure => simp [intOf]; omega
            · obtain rfl : j = ys.length := by omega
              have HBL := Lib.hid (HB3.out.trans (hbl.mono HB3.out.size))
              have HO4 := Lib.hid (HO3.out.below hbl (Nat.le_refl _))
              have I4 := Lib.hid (I3.out.up hbl)
              have hWs := HBL.out.size
              clear hbl
              go_wp2_with (at_builtin; go_must (refine wpList_appn rfl _ _ rfl W.heap.size _ ls ys rfl HO4.out A3 k3 rfl I4.out hpos (by omega) hWs ?_); intro v' w6 hown6 hg6 hb6)
              go_roundw
              case rel => exact ⟨k + 1, by omega, by go_num, by rw [HLK.out]; exact hown6, HBL.out.trans hb6⟩
              case measure => simp [intOf]; omega
        · obtain rfl : k = cz + 1 := by omega
          have hpos : 0 < (layers t (cz + 1)).length := by
            have := congrArg List.length LS.out
            rw [List.length_mergeSort] at this
            omega
          have C6 := Lib.hid (sort_own HO.out hpos (by have := LL.out (cz + 1) (by omega); omega))
          rw [LS.out] at C6
          go_wp2_with fail
          refine C6.out.mono ?_
          rintro e w7 ⟨rfl, ho7, hg7⟩
          have B7 := Lib.hid ((B2.out.trans (HBL.out.mono B2.out.size)).grown hg7 (by have := B2.out.size; have := HBL.out.size; omega) (fun k hk => by have := (HO.out.lt k hk).1; have := B2.out.size; omega))
          have I7 := Lib.hid (I2.out.keep (HBL.out.grown hg7 HBL.out.size (fun k hk => (HO.out.lt k hk).1)))
          obtain ⟨A7, k7, rfl, _, _, hI7⟩ := ho7.form
          have C8 := Lib.hid (eq_iat (c1 := k7) (c2 := k1) hI7 I7.out hx32.2 (by omega))
          clear ho7 hg7 hI7 C6 hpos
          go_wp2_with fail
          refine C8.out.mono ?_
          rintro e w8 ⟨rfl, hb⟩
          have B8 := Lib.hid (B7.out.trans (hb.mono B7.out.size))
          have C5 := Lib.hid (awake_any w8 (HT.out.keep B8.out (by omega)) m ((B8.out.cell (p := ⟨3, 0, none⟩) (by show 3 < w.heap.size; omega)).trans HM.out) (by have := B8.out.size; omega))
          clear hb C8
          go_wp2_with fail
          refine C5.out.mono ?_
          rintro e w9 ⟨rfl, hb⟩
          have B9 := Lib.hid (B8.out.trans (hb.mono B8.out.size))
          clear hb C5
          go_wp2_with fail
          go_ret
          exact ⟨rfl, B9.out⟩
end Go.Proofs.YtppklecmlkicaaaDoor
