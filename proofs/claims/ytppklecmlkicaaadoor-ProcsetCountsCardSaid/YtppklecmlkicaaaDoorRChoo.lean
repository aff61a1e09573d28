/- The reference's Choose, Same. -/
import Derived.Test.YtppklecmlkicaaaDoorProg
import Derived.Test.YtppklecmlkicaaaDoorChoo
import Derived.Deep.QuietTactic
import Derived.BigQuiet
import Derived.StillTactics
import Derived.Maps.RangeWalk
namespace Go.Proofs.YtppklecmlkicaaaDoor
open Go.RowKit

def selTo (s : Nat) (k : Int) (j : Nat) : List Int := ((intL (subsL s)).take j).filter fun x => ((cardN x.toNat : Nat) : Int) == k
theorem selTo_succ {s : Nat} {k : Int} {j : Nat} (hj : j < (intL (subsL s)).length) : selTo s k (j + 1) = if ((cardN ((intL (subsL s))[j]).toNat : Nat) : Int) = k then selTo s k j ++ [(intL (subsL s))[j]] else selTo s k j := by
  unfold selTo
  rw [List.take_succ_eq_append_getElem hj, List.filter_append]
  by_cases h : ((cardN ((intL (subsL s))[j]).toNat : Nat) : Int) = k <;> simp [h]

set_option maxRecDepth 100000 in
set_option maxHeartbeats 2000000 in
theorem rchoose_any (n s k : Int) (w : World) : Calls Tryd.prog 17 #[.int .i64 n, .int .i64 s, .int .i64 k] w (RetIntsE (chooL n s k) (chooseE n s k) w) := by
  have HL : Hid (chooL n s k = if chooseE n s k = 0 then (intL (subsL s.toNat)).filter (fun x => ((cardN x.toNat : Nat) : Int) == k) else []) := rfl
  have HE1 := Lib.hid (@chooseE_bad n s k)
  have HE2 := Lib.hid (@chooseE_out n s k)
  have HE3 := Lib.hid (@chooseE_ok n s k)
  have HZ : Hid (checkSE n s = 0 → sizeE n s = ((cardN s.toNat : Nat) : Int)) := fun h => if_pos h
  have hok := @check_ok n s
  have hc := rcheck_any n s w
  obtain ⟨er, her⟩ : ∃ er, checkSE n s = er := ⟨_, rfl⟩
  obtain ⟨sz, hsz⟩ : ∃ sz, sizeE n s = sz := ⟨_, rfl⟩
  obtain ⟨fe, hfe⟩ : ∃ fe, chooseE n s k = fe := ⟨_, rfl⟩
  rw [her] at hok HE1 HE2 HE3 hc HZ
  rw [hsz] at HE2 HE3 HZ
  rw [hfe] at HE1 HE2 HE3 HL ⊢
  clear her hfe hsz
  have HOK := Lib.hid hok
  clear hok
  go_enter Tryd.func17, Tryd.ntmps17
  go_wp2_with fail
  refine hc.mono ?_
  rintro e w1 ⟨rfl, rfl⟩
  by_cases h0 : er = 0
  · subst h0
    have hz := HZ.out rfl
    obtain ⟨m, t, rfl, rfl, _, _, _, h32⟩ := HOK.out rfl
    have hz : sz = ((cardN t : Nat) : Int) := hz
    clear HZ
    subst hz
    by_cases hk0 : k < 0
    · have HM := Lib.hid (HE2.out rfl (.inl hk0))
      clear HE1 HE2 HE3
      have HN : Hid (chooL m t k = []) := HL.out.trans (if_neg (by rw [HM.out]; decide))
      clear HL
      go_wp2_with fail
      go_ret2
      exact ⟨_, by rw [HM.out]; rfl, by rw [HN.out]; exact Own.nil _ _, Below.refl _ _⟩
    have c1 := number_any t h32 w
    go_wp2_with fail
    refine c1.mono ?_
    rintro e w1 ⟨rfl, hb1⟩
    have HB1 := Lib.hid hb1
    clear hb1
    by_cases hk : ((cardN t : Nat) : Int) < k
    · have HM := Lib.hid (HE2.out (by simp) (.inr hk))
      clear HE1 HE2 HE3
      have HN : Hid (chooL m t k = []) := HL.out.trans (if_neg (by rw [HM.out]; decide))
      clear HL
      go_wp2_with fail
      go_ret2
      exact ⟨_, by rw [HM.out]; rfl, by rw [HN.out]; exact Own.nil _ _, HB1.out⟩
    have HM := Lib.hid (HE3.out (by simp) (by omega))
    clear HE1 HE2 HE3
    have HN := Lib.hid (HL.out.trans (if_pos HM.out))
    clear HL
    go_wp2_with fail
    refine (rparts_any t h32 w1).mono ?_
    rintro e w2 ⟨v, rfl, hown, hb2⟩
    obtain ⟨A, c, rfl, hA1, hA2, hIA⟩ := hown.form
    have hl32 : (intL (subsL t)).length ≤ 32 := by rw [intL_length]; have := subs_length t (t + 1); unfold subsL; omega
    have HB2 := Lib.hid (HB1.out.trans (hb2.mono HB1.out.size))
    have HI := Lib.hid hIA
    obtain ⟨B2, hB2⟩ : ∃ B2, B2 = w2.heap.size := ⟨_, rfl⟩
    rw [← hB2] at HI
    have hw2 : w.heap.size ≤ B2 := by rw [hB2]; exact HB2.out.size
    clear hown hb2 hIA
    go_wp2_with fail
    go_loopw [9, 11] (fun o i wr => ∃ j : Nat, j ≤ (intL (subsL t)).length ∧ i = .int .i64 (j : Int) ∧ Own wr B2 o (selTo t k j) ∧ Below B2 w2 wr) (fun _ i _ => 33 - (intOf i).toNat)
    case atStart => exact ⟨0, by omega, rfl, by have : selTo t k 0 = [] := rfl
                                                rw [this]; exact Own.nil _ _, Below.refl _ _⟩
    case round =>
      obtain ⟨j, hj, rfl, hown, hbl⟩ := hrel
      have HO := Lib.hid hown
      have HBL := Lib.hid hbl
      have hln : (selTo t k j).length ≤ 32 := by
        unfold selTo
        refine Nat.le_trans (List.length_filter_le _ _) ?_
        rw [List.length_take]; omega
      clear hown hbl
      by_cases hlt : j < (intL (subsL t)).length
      · have hst := selTo_succ (k := k) hlt
        obtain ⟨b, off, rfl, hbB, hcell⟩ := (HI.out.keep HBL.out).at_ j hlt
        obtain ⟨y, hy, hy32⟩ := subs_lt h32 (List.getElem_mem hlt)
        rw [hy] at hcell hst
        have hst' : selTo t k (j + 1) = if ((cardN y : Nat) : Int) = k then selTo t k j ++ [(y : Int)] else selTo t k j := hst
        have HST := Lib.hid hst'
        clear hst hst' hy
        have c2 := number_any y hy32 wr
        go_wp2_with fail
        refine c2.mono ?_
        rintro e w3 ⟨rfl, hb3⟩
        have hcell3 := (hb3.cell (p := ⟨b, off + j, none⟩) (by show b < _; have := HBL.out.size; omega)).trans hcell
        have HO3 := Lib.hid (HO.out.below hb3 (Nat.le_refl _))
        have HBL3 := Lib.hid (HBL.out.trans (hb3.mono (by have := HBL.out.size; omega)))
        clear hb3 hcell
        by_cases h1 : ((cardN y : Nat) : Int) = k
        · have HS := Lib.hid (HST.out.trans (if_pos h1))
          clear HST
          go_wp2_with (at_builtin; go_must (refine wpList_app1 rfl _ _ rfl B2 u9 _ (y : Int) rfl HO3.out rfl (by omega) (by have := HBL3.out.size; omega) ?_); intro v' w4 hown1 hg1 hb1)
          go_roundw
          case rel =>
            (repeat apply Exists.intro)
            exact ⟨⟨j + 1, by omega, rfl, by rw [HS.out]; exact hown1, HBL3.out.trans hb1⟩, by first | rfl | (go_frame; rfl) | (simp [Act.put]; done)⟩
          case measure => simp [intOf]; omega
        · have HS := Lib.hid (HST.out.trans (if_neg h1))
          clear HST
          go_wp2_with fail
          go_roundw
          case rel => exact ⟨j + 1, by omega, by go_num, by rw [HS.out]; exact HO3.out, HBL3.out⟩
          case measure => simp [intOf]; omega
      · obtain rfl : j = (intL (subsL t)).length := by omega
        go_wp2_with fail
        go_ret2
        have e0 : selTo t k (intL (subsL t)).length = chooL m t k := by rw [HN.out]; unfold selTo; rw [List.take_length]; rfl
        exact ⟨_, by rw [HM.out]; rfl, by rw [← e0]; exact HO.out.low hw2, HB2.out.trans (HBL.out.mono hw2)⟩
  · have HM := Lib.hid (HE1.out h0)
    clear HE1 HE2 HE3
    have HN : Hid (chooL n s k = []) := HL.out.trans (if_neg (by rw [HM.out]; exact h0))
    clear HL
    go_wp2_with fail
    go_ret2
    exact ⟨_, by rw [HM.out]; rfl, by rw [HN.out]; exact Own.nil _ _, Below.refl _ _⟩
end Go.Proofs.YtppklecmlkicaaaDoor
