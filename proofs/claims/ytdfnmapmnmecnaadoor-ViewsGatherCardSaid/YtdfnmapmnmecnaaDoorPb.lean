/- Part LawRe. What each part says stands at its head; no part has a condition beyond its own statements. -/
import Derived.Test.YtdfnmapmnmecnaaDoorProg
import Derived.Test.YtdfnmapmnmecnaaDoorPa
import Derived.IntWalk

/- law: ViewsRemember: answers true for every table and index. -/
namespace Go.Proofs.YtdfnmapmnmecnaaDoor
open Go.RowKit

theorem past_e {n : Int} {vs : List Vw} (h : goodB n vs = true) {i : Nat} (hi : i < vs.length) : pastE n vs i = (castL (pastL vs [i]), 0) := pastE_yes (good_at h hi)
theorem inputs_e {N : Nat} {vs : List Vw} (h : goodB (N : Int) vs = true) {i : Nat} (hi : i < vs.length) : inputsE (N : Int) vs i = (knows N vs i, 0) := inputsE_yes (good_at h hi)
theorem cont_e {n : Int} {vs : List Vw} (h : goodB n vs = true) {k i : Nat} (hk : k < vs.length) (hi : i < vs.length) : contE n vs k i = (cont vs k i, 0) := contE_yes (good_at2 h hk hi)
theorem mem_cast {x : Nat} {l : List Nat} : (x : Int) ∈ castL l ↔ x ∈ l := by
  unfold castL
  rw [List.mem_map]
  constructor
  · rintro ⟨y, hy, e⟩
    have : y = x := by omega
    subst this
    exact hy
  · exact fun h => ⟨x, h, rfl⟩
theorem cast_get {l : List Nat} {j : Nat} (hj : j < l.length) : (castL l)[j]'(by simpa [castL] using hj) = (l[j] : Int) := by simp [castL]
theorem past_in {n : Int} {vs : List Vw} (h : Wf n vs) {i k : Nat} (hi : i < vs.length) (hc : cont vs k i = true) {j : Nat} (hj : j < (castL (pastL vs [k])).length) : (castL (pastL vs [k]))[j] ∈ castL (pastL vs [i]) := by
  have hj' : j < (pastL vs [k]).length := by simpa [castL] using hj
  rw [cast_get hj', mem_cast]
  exact past_mono h.acyc hi (cont_reach h k i hi hc).1 (List.getElem_mem hj')
theorem know_in {N : Nat} {vs : List Vw} (h : Wf N vs) {i k : Nat} (hi : i < vs.length) (hc : cont vs k i = true) {p : Nat} (hp : p < (knows N vs k).length) (hp' : p < (knows N vs i).length) (hne : (knows N vs k)[p] ≠ -1) : (knows N vs k)[p] = (knows N vs i)[p] := by
  have e := knows_mono h hi (cont_reach h k i hi hc).1 hne (p := p) (by simp [hp])
  rw [List.getElem?_eq_getElem hp'] at e
  exact (Option.some.inj e).symm
theorem past_short {vs : List Vw} {i : Nat} (hl : vs.length ≤ 60) : (castL (pastL vs [i])).length ≤ 1000000 := by have := past_len vs [i]; omega
theorem VAt.pAt {w : World} {B b off : Nat} {vs : List Vw} (h : VAt w B (some ⟨b, off, none⟩) vs) {k : Nat} (hk : k < vs.length) : w.cell? ⟨b, off + k * 8, none⟩ = some (.int .i64 vs[k].p) ∧ w.cell? ⟨b, off + k * 8 + 1, none⟩ = some (.int .i64 vs[k].r) := by
  obtain ⟨b', off', e, _, h0, h1, _⟩ := h.row k hk
  cases e
  exact ⟨h0, h1⟩
theorem VAt.bAt {w : World} {B b off : Nat} {vs : List Vw} (h : VAt w B (some ⟨b, off, none⟩) vs) {k : Nat} (hk : k < vs.length) : b < B := by
  obtain ⟨b', off', e, hb, _⟩ := h.row k hk
  cases e
  exact hb
def contN (vs : List Vw) (i k : Nat) : Nat := (List.range k).countP fun x => cont vs x i
theorem contN_yes {vs : List Vw} {i k : Nat} (h : cont vs k i = true) : contN vs i (k + 1) = contN vs i k + 1 := by simp [contN, List.range_succ, h]
theorem contN_no {vs : List Vw} {i k : Nat} (h : cont vs k i = false) : contN vs i (k + 1) = contN vs i k := by simp [contN, List.range_succ, h]
theorem contN_le (vs : List Vw) (i k : Nat) : contN vs i k ≤ k := by
  have := List.countP_le_length (p := fun x => cont vs x i) (l := List.range k)
  simpa [contN] using this

set_option maxRecDepth 100000 in
set_option maxHeartbeats 8000000 in
theorem law_remember (n : Int) (A : Option Addr) (cap : Nat) (vs : List Vw) (i : Int) (w : World) (hA : VAt w w.heap.size A vs) (hc : vs.length ≤ cap) (hm : cap ≤ maxLen) (hl : vs.length ≤ 2199023255552) :
    Calls Tryd.prog 9 #[.agg #[.int .i64 n, .slice A vs.length cap], .int .i64 i] w (RetTrue w) := by
  have HA := Lib.hid hA
  have HC := Lib.hid hc
  have HM := Lib.hid hm
  clear hA hc hm
  go_enter Tryd.func9, Tryd.ntmps9
  go_wp2_with fail
  obtain ⟨W0, hW0, d0, hsz, hB0⟩ := onebox w #[.int .i64 n, .slice A vs.length cap] 24
  rw [hW0]
  clear hW0
  refine (good_any n A cap vs W0 ((HA.out.keep hB0).more hB0.size) HC.out HM.out hl).mono ?_
  rintro e w1 ⟨rfl, hb⟩
  have DT := Lib.hid d0
  have B := Lib.hid hB0
  clear d0 hB0 hsz
  replace DT := Lib.hid ((hb.block _ (blk_lt DT.out)).trans DT.out)
  replace B := Lib.hid (B.out.trans (hb.mono B.out.size))
  clear hb
  have dT := DT.out
  have cT0 := blk_cell dT 0 rfl
  have cT1 := blk_cell dT 1 rfl
  have lT := blk_lt dT
  clear dT
  obtain ⟨gg, hgg⟩ : ∃ gg, goodB n vs = gg := ⟨_, rfl⟩
  rw [hgg]
  have HG := Lib.hid hgg
  clear hgg
  cases gg
  · go_wp2_with fail
    refine (awake_any w1).mono ?_
    rintro e wz ⟨rfl, hbz⟩
    go_wp2_with fail
    go_ret
    exact ⟨rfl, B.out.trans (hbz.mono B.out.size)⟩
  · have hfew := few_len (good_few HG.out)
    have HTA : Hid (TArg w1 A cap vs) := (show TArg w A cap vs from ⟨HA.out, HC.out, HM.out, by omega⟩).keep B.out
    have HWF := Lib.hid (good_wf HG.out)
    clear HA HC HM hl
    by_cases hi0 : i < 0
    · have g1 : decide (i < 0) = true := by simpa using hi0
      clear hi0
      go_wp2_with fail
      refine (awake_any w1).mono ?_
      rintro e wz ⟨rfl, hbz⟩
      go_wp2_with fail
      go_ret
      exact ⟨rfl, B.out.trans (hbz.mono B.out.size)⟩
    · obtain ⟨j, rfl⟩ := Int.eq_ofNat_of_zero_le (show 0 ≤ i by omega)
      clear hi0
      have g1 : decide ((j : Int) < 0) = false := decide_eq_false (by omega)
      by_cases hj : j < vs.length
      · have g2 : decide (vs.length ≤ j) = false := decide_eq_false (by omega)
        have g3 : decide ((j : Int) ≥ (vs.length : Int)) = false := decide_eq_false (by omega)
        obtain ⟨N, rfl⟩ := Int.eq_ofNat_of_zero_le (show 0 ≤ n by have := HWF.out.1; omega)
        have hN5 : N ≤ 5 := by have := HWF.out.2.1; omega
        have hc := vpast_any (N : Int) A cap vs j _ HTA.out
        rw [past_e HG.out hj] at hc
        have HCL := Lib.hid hc
        clear hc
        go_wp2_with fail
        refine HCL.out.mono ?_
        rintro e w2 ⟨vl, rfl, ho, hb⟩
        clear HCL
        replace B := Lib.hid B.out
        have OL : Hid (Own w2 w.heap.size vl (castL (pastL vs [j]))) := ho.low B.out.size
        clear ho g1 g2 g3
        clear cT0 cT1 lT
        replace DT := Lib.hid ((hb.block _ (blk_lt DT.out)).trans DT.out)
        replace B := Lib.hid (B.out.trans (hb.mono B.out.size))
        replace HTA := Lib.hid (HTA.out.keep hb)
        clear hb
        have dT := DT.out
        have cT0 := blk_cell dT 0 rfl
        have cT1 := blk_cell dT 1 rfl
        have lT := blk_lt dT
        clear dT
        have hc := vinputs_any (N : Int) A cap vs j _ HTA.out
        rw [inputs_e HG.out hj] at hc
        have HCL := Lib.hid hc
        clear hc
        go_wp2_with fail
        refine HCL.out.mono ?_
        rintro e w3 ⟨vi, rfl, ho, hb⟩
        clear HCL
        have OI : Hid (Own w3 w.heap.size vi (knows N vs j)) := ho.low B.out.size
        clear ho
        clear cT0 cT1 lT
        replace DT := Lib.hid ((hb.block _ (blk_lt DT.out)).trans DT.out)
        replace B := Lib.hid (B.out.trans (hb.mono B.out.size))
        replace HTA := Lib.hid (HTA.out.keep hb)
        replace OL := Lib.hid (OL.out.below hb (Nat.le_refl _))
        clear hb
        have dT := DT.out
        have cT0 := blk_cell dT 0 rfl
        have cT1 := blk_cell dT 1 rfl
        have lT := blk_lt dT
        clear dT
        obtain ⟨AI, capI, rfl, hlcI, hcmI, hII⟩ := OI.out.form
        have HII := Lib.hid hII
        have kl : (knows N vs j).length = N := knows_length N vs j
        rw [kl]
        have KL := Lib.hid kl
        clear hII kl hlcI hcmI
        have e1 : ((N : Int) != (N : Int)) = false := by simp
        go_wp2_with fail
        have HD3 := Lib.hid DT.out
        have HB3 := Lib.hid B.out
        have HT3 := Lib.hid HTA.out
        have HL3 := Lib.hid OL.out
        have HI3 := Lib.hid OI.out
        have lw3 : w.heap.size < w3.heap.size := blk_lt DT.out
        clear e1
        obtain ⟨b, off, rfl, _⟩ := HT3.out.rows.row j hj
        go_loopw [9, 68] (fun c x wr => ∃ k : Nat, k ≤ vs.length ∧ x = .int .i64 k ∧ c = .int .i64 (contN vs j k : Nat) ∧ Below w3.heap.size w3 wr) (fun _ x _ => vs.length - (intOf x).toNat)
        case atStart => exact ⟨0, by omega, rfl, rfl, Below.refl _ _⟩
        case round =>
          clear cT0 cT1 lT
          obtain ⟨k, hk, rfl, rfl, hbl⟩ := hrel
          have HBL := Lib.hid hbl
          replace DT := Lib.hid ((hbl.block _ lw3).trans HD3.out)
          replace B := Lib.hid (HB3.out.trans (hbl.mono HB3.out.size))
          replace HTA := Lib.hid (HT3.out.keep hbl)
          replace OL := Lib.hid (HL3.out.below hbl (Nat.le_refl _))
          replace OI := Lib.hid (HI3.out.below hbl (Nat.le_refl _))
          have lwr := hbl.size
          clear hbl
          have dT := DT.out
          have cT0 := blk_cell dT 0 rfl
          have cT1 := blk_cell dT 1 rfl
          have lT := blk_lt dT
          clear dT
          have hcn := contN_le vs j k
          by_cases hlt : k < vs.length
          · have hc := vcont_any (N : Int) _ cap vs k j _ HTA.out
            rw [cont_e HG.out hlt hj] at hc
            have HCL := Lib.hid hc
            clear hc
            go_wp2_with fail
            refine HCL.out.mono ?_
            rintro e w4 ⟨rfl, hb⟩
            clear HCL
            clear cT0 cT1 lT
            replace DT := Lib.hid ((hb.block _ (blk_lt DT.out)).trans DT.out)
            replace B := Lib.hid (B.out.trans (hb.mono B.out.size))
            replace HBL := Lib.hid (HBL.out.trans (hb.mono HBL.out.size))
            replace HTA := Lib.hid (HTA.out.keep hb)
            replace OL := Lib.hid (OL.out.below hb (Nat.le_refl _))
            replace OI := Lib.hid (OI.out.below hb (Nat.le_refl _))
            clear hb
            have dT := DT.out
            have cT0 := blk_cell dT 0 rfl
            have cT1 := blk_cell dT 1 rfl
            have lT := blk_lt dT
            clear dT
            obtain ⟨yes, hyes⟩ : ∃ yes, cont vs k j = yes := ⟨_, rfl⟩
            rw [hyes]
            have HY := Lib.hid hyes
            clear hyes
            cases yes
            · have HN := Lib.hid (contN_no HY.out)
              go_wp2_with fail
              go_roundw
              case rel => exact ⟨k + 1, by omega, by go_num, by rw [HN.out], HBL.out⟩
              case measure => simp [intOf]; omega
            · have HN := Lib.hid (contN_yes HY.out)
              go_wp2_with fail
              have hc := vpast_any (N : Int) _ cap vs k _ HTA.out
              rw [past_e HG.out hlt] at hc
              have HCL := Lib.hid hc
              clear hc
              go_wp2_with fail
              refine HCL.out.mono ?_
              rintro e w5 ⟨vp, rfl, ho, hb⟩
              clear HCL
              have OP : Hid (Own w5 w.heap.size vp (castL (pastL vs [k]))) := ho.low B.out.size
              clear ho
              clear cT0 cT1 lT
              replace DT := Lib.hid ((hb.block _ (blk_lt DT.out)).trans DT.out)
              replace B := Lib.hid (B.out.trans (hb.mono B.out.size))
              replace HBL := Lib.hid (HBL.out.trans (hb.mono HBL.out.size))
              replace HTA := Lib.hid (HTA.out.keep hb)
              replace OL := Lib.hid (OL.out.below hb (Nat.le_refl _))
              replace OI := Lib.hid (OI.out.below hb (Nat.le_refl _))
              clear hb
              have dT := DT.out
              have cT0 := blk_cell dT 0 rfl
              have cT1 := blk_cell dT 1 rfl
              have lT := blk_lt dT
              clear dT
              have hc := vinputs_any (N : Int) _ cap vs k _ HTA.out
              rw [inputs_e HG.out hlt] at hc
              have HCL := Lib.hid hc
              clear hc
              go_wp2_with fail
              refine HCL.out.mono ?_
              rintro e w6 ⟨vq, rfl, ho, hb⟩
              clear HCL
              have OQ : Hid (Own w6 w.heap.size vq (knows N vs k)) := ho.low B.out.size
              clear ho
              clear cT0 cT1 lT
              replace DT := Lib.hid ((hb.block _ (blk_lt DT.out)).trans DT.out)
              replace B := Lib.hid (B.out.trans (hb.mono B.out.size))
              replace HBL := Lib.hid (HBL.out.trans (hb.mono HBL.out.size))
              replace HTA := Lib.hid (HTA.out.keep hb)
              replace OL := Lib.hid (OL.out.below hb (Nat.le_refl _))
              replace OI := Lib.hid (OI.out.below hb (Nat.le_refl _))
              replace OP := Lib.hid (OP.out.below hb (Nat.le_refl _))
              clear hb
              have dT := DT.out
              have cT0 := blk_cell dT 0 rfl
              have cT1 := blk_cell dT 1 rfl
              have lT := blk_lt dT
              clear dT
              obtain ⟨AP, capP, rfl, hlcP, hcmP, hIP⟩ := OP.out.form
              obtain ⟨AQ, capQ, rfl, hlcQ, hcmQ, hIQ⟩ := OQ.out.form
              have HIP := Lib.hid hIP
              have HIQ := Lib.hid hIQ
              have kl : (knows N vs k).length = N := knows_length N vs k
              rw [kl]
              have KLQ := Lib.hid kl
              obtain ⟨lp, hlp⟩ : ∃ lp, (castL (pastL vs [k])).length = lp := ⟨_, rfl⟩
              rw [hlp]
              have HLP := Lib.hid hlp
              have hlp60 : lp ≤ 60 := by have := past_len vs [k]; omega
              clear hIP hIQ kl hlp hlcP hcmP hlcQ hcmQ
              have p1 := (HTA.out.rows.pAt hlt).1
              have p2 := (HTA.out.rows.pAt hj).1
              have pe : vs[k].p = vs[j].p := by
                have := (cont_reach HWF.out k j hj HY.out).2.2
                rwa [getV_eq hlt, getV_eq hj] at this
              rw [pe] at p1
              have e1 : ((N : Int) != (N : Int)) = false := by simp
              have e2 : (vs[j].p != vs[j].p) = false := by simp
              have x1 : (k : Int) < (vs.length : Int) := by omega
              have x2 : (j : Int) < (vs.length : Int) := by omega
              have x3 : (0 : Int) ≤ (k : Int) := by omega
              have x4 : (0 : Int) ≤ (j : Int) := by omega
              clear pe
              go_upto_region 18 with fail
              go_region_held3 (fun w' => w'.cell? ⟨w.heap.size, 0, none⟩ = some (.int .i64 (N : Int)) ∧ w'.cell? ⟨w.heap.size, 1, none⟩ = some (.slice (some ⟨b, off, none⟩) vs.length cap) ∧ w'.cell? ⟨b, off + k * 8, none⟩ = some (.int .i64 vs[j].p) ∧ w'.cell? ⟨b, off + j * 8, none⟩ = some (.int .i64 vs[j].p))
                (exact ⟨cT0, cT1, p1, p2⟩)
                (fail)
              rename_i hjunk
              clear hjunk
              obtain ⟨w7, hw7⟩ : ∃ w7, w6.drew = w7 := ⟨_, rfl⟩
              have hb : Below w6.heap.size w6 w7 := by rw [← hw7]; exact (Below.refl _ _).drew
              rw [hw7]
              clear hw7 p1 p2 e1 e2 x1 x2 x3 x4
              clear cT0 cT1 lT
              replace DT := Lib.hid ((hb.block _ (blk_lt DT.out)).trans DT.out)
              replace B := Lib.hid (B.out.trans (hb.mono B.out.size))
              replace HBL := Lib.hid (HBL.out.trans (hb.mono HBL.out.size))
              replace HTA := Lib.hid (HTA.out.keep hb)
              replace HIP := Lib.hid (HIP.out.keep hb)
              replace HIQ := Lib.hid (HIQ.out.keep hb)
              replace OL := Lib.hid (OL.out.below hb (Nat.le_refl _))
              replace OI := Lib.hid (OI.out.below hb (Nat.le_refl _))
              replace OP := Lib.hid (OP.out.below hb (Nat.le_refl _))
              replace OQ := Lib.hid (OQ.out.below hb (Nat.le_refl _))
              clear hb
              have dT := DT.out
              have cT0 := blk_cell dT 0 rfl
              have cT1 := blk_cell dT 1 rfl
              have lT := blk_lt dT
              clear dT
              have HII7 := Lib.hid (IAt.of_own OI.out)
              go_wp2_with fail
              go_loop [126] (fun x => ∃ q : Nat, q ≤ lp ∧ x = .int .i64 q) (fun x => lp - (intOf x).toNat)
              case atStart => exact ⟨0, by omega, rfl⟩
              case round =>
                obtain ⟨q, hq, rfl⟩ := hrel
                by_cases hql : q < lp
                · have hq2 : q < (castL (pastL vs [k])).length := by rw [HLP.out]; exact hql
                  have hin : decide ((castL (pastL vs [k]))[q] ∈ castL (pastL vs [j])) = true := decide_eq_true (past_in HWF.out hj HY.out hq2)
                  obtain ⟨bp, op, rfl, hbp, y1⟩ := HIP.out.at_ q hq2
                  obtain ⟨X, hX⟩ : ∃ X, (castL (pastL vs [k]))[q] = X := ⟨_, rfl⟩
                  rw [hX] at y1 hin
                  have hcn2 := contI_own OL.out (by have := past_len vs [j]; omega) X
                  rw [hin] at hcn2
                  have HCN := Lib.hid hcn2
                  have xq1 : (q : Int) < (lp : Int) := by omega
                  clear hX hin hcn2
                  go_wp2_with fail
                  refine HCN.out.mono ?_
                  rintro e w8 ⟨rfl, rfl⟩
                  go_wp2_with fail
                  go_round
                  case rel => exact ⟨q + 1, by omega, by go_num⟩
                  case measure => simp [intOf]; omega
                · go_wp2_with fail
                  go_loop [137] (fun x => ∃ q : Nat, q ≤ N ∧ x = .int .i64 q) (fun x => N - (intOf x).toNat)
                  case atStart => exact ⟨0, by omega, rfl⟩
                  case round =>
                    obtain ⟨p, hp, rfl⟩ := hrel
                    by_cases hpl : p < N
                    · have hp1 : p < (knows N vs k).length := by rw [KLQ.out]; exact hpl
                      have hp2 : p < (knows N vs j).length := by rw [KL.out]; exact hpl
                      obtain ⟨bq, oq, rfl, hbq, y1⟩ := HIQ.out.at_ p hp1
                      obtain ⟨bi, oi, rfl, hbi, y2⟩ := HII7.out.at_ p hp2
                      have xq1 : (p : Int) < (N : Int) := by omega
                      have hki := know_in HWF.out hj HY.out hp1 hp2
                      obtain ⟨X, hX⟩ : ∃ X, (knows N vs k)[p] = X := ⟨_, rfl⟩
                      rw [hX] at y1 hki
                      by_cases hm1 : X = -1
                      · subst hm1
                        have z1 : ((-1 : Int) != -1) = false := by decide
                        clear hki hX
                        go_wp2_with fail
                        go_round
                        case rel => exact ⟨p + 1, by omega, by go_num⟩
                        case measure => simp [intOf]; omega
                      · rw [← hki hm1] at y2
                        have z1 : (X != -1) = true := by simpa using hm1
                        have z2 : (X != X) = false := by simp
                        clear hki hX hm1
                        go_wp2_with fail
                        go_round
                        case rel => exact ⟨p + 1, by omega, by go_num⟩
                        case measure => simp [intOf]; omega
                    · go_wp2_with fail
                      go_roundw
                      case rel => exact ⟨k + 1, by omega, by go_num, by rw [HN.out]; go_num, HBL.out⟩
                      case measure => simp [intOf]; omega
          · obtain rfl : k = vs.length := by omega
            have hcc : ((contN vs j vs.length : Nat) : Int) = vs[j].r + 1 := by have := cont_count HWF.out j hj; rwa [getV_eq hj] at this
            obtain ⟨C, hC⟩ : ∃ C : Nat, contN vs j vs.length = C := ⟨_, rfl⟩
            rw [hC] at hcc hcn
            rw [hC]
            have HCC := Lib.hid hcc
            clear hC hcc hk hlt
            have hrb := begE_ok (HWF.out.begv hj)
            rw [getV_eq hj] at hrb
            have hr0 : 0 ≤ vs[j].r := hrb.2.2.1
            have hr6 : vs[j].r ≤ 6 := hrb.2.2.2.1
            clear hrb
            have p2 := (HTA.out.rows.pAt hj).2
            by_cases hr : vs[j].r = 0
            · have hoe : ownE (N : Int) vs j = (0, 16) := ownE_zero (good_at HG.out hj) (by rw [Int.toNat_natCast, getV_eq hj]; exact hr)
              have HOE := Lib.hid hoe
              have e1 : (vs[j].r == 0) = true := by simpa using hr
              have e2 : ((C : Int) == 1) = true := by have := HCC.out; simp; omega
              clear hoe hr
              rw [beq_iff_eq] at e1
              rw [e1] at p2
              clear e1
              have hc := vown_any (N : Int) _ cap vs j _ HTA.out
              rw [HOE.out] at hc
              have HCL := Lib.hid hc
              clear hc
              go_wp2_with fail
              refine HCL.out.mono ?_
              rintro e wo ⟨rfl, hb⟩
              clear HCL
              replace p2 : wo.cell? ⟨b, off + j * 8 + 1, none⟩ = some (.int .i64 0) := (hb.cell (p := ⟨b, off + j * 8 + 1, none⟩) (HTA.out.rows.bAt hj)).trans p2
              clear cT0 cT1 lT
              replace DT := Lib.hid ((hb.block _ (blk_lt DT.out)).trans DT.out)
              replace B := Lib.hid (B.out.trans (hb.mono B.out.size))
              replace HBL := Lib.hid (HBL.out.trans (hb.mono HBL.out.size))
              replace HTA := Lib.hid (HTA.out.keep hb)
              replace OL := Lib.hid (OL.out.below hb (Nat.le_refl _))
              replace OI := Lib.hid (OI.out.below hb (Nat.le_refl _))
              clear hb
              have dT := DT.out
              have cT0 := blk_cell dT 0 rfl
              have cT1 := blk_cell dT 1 rfl
              have lT := blk_lt dT
              clear dT
              have x2 : (j : Int) < (vs.length : Int) := by omega
              go_wp2_with fail
              refine (awake_any wo).mono ?_
              rintro e wz ⟨rfl, hbz⟩
              go_wp2_with fail
              go_ret
              exact ⟨rfl, B.out.trans (hbz.mono B.out.size)⟩
            · obtain ⟨q, c, hq5, hpq, hhq, hcj, how⟩ := own_row HWF.out hj hr
              have hoe : ownE (N : Int) vs j = ((c : Int), 0) := by
                rw [ownE_yes (good_at HG.out hj) (by rw [Int.toNat_natCast, getV_eq hj]; exact hr), Int.toNat_natCast, getV_eq hj, hpq, Int.toNat_natCast, hhq]
              have HOE := Lib.hid hoe
              have hct : cont vs c j = true := by
                rw [cont_step HWF.out c hj, how, cont_self HWF.out (by omega)]
                simp
                right
                omega
              have hcl : c < vs.length := by omega
              have hce := cont_e HG.out hcl hj
              rw [hct] at hce
              have HCE := Lib.hid hce
              have e1 : (vs[j].r == 0) = false := by simpa using hr
              have e2 : ((C : Int) == vs[j].r + 1) = true := by rw [HCC.out]; simp
              have e4 : decide ((c : Int) < (j : Int)) = true := decide_eq_true (by omega)
              have e5 : decide (c < j) = true := decide_eq_true hcj
              clear hoe hct hce hr hpq hhq how
              have hc := vown_any (N : Int) _ cap vs j _ HTA.out
              rw [HOE.out] at hc
              have HCL := Lib.hid hc
              clear hc
              go_wp2_with fail
              refine HCL.out.mono ?_
              rintro e wo ⟨rfl, hb⟩
              clear HCL
              replace p2 : wo.cell? ⟨b, off + j * 8 + 1, none⟩ = some (.int .i64 vs[j].r) := (hb.cell (p := ⟨b, off + j * 8 + 1, none⟩) (HTA.out.rows.bAt hj)).trans p2
              clear cT0 cT1 lT
              replace DT := Lib.hid ((hb.block _ (blk_lt DT.out)).trans DT.out)
              replace B := Lib.hid (B.out.trans (hb.mono B.out.size))
              replace HBL := Lib.hid (HBL.out.trans (hb.mono HBL.out.size))
              replace HTA := Lib.hid (HTA.out.keep hb)
              replace OL := Lib.hid (OL.out.below hb (Nat.le_refl _))
              replace OI := Lib.hid (OI.out.below hb (Nat.le_refl _))
              clear hb
              have dT := DT.out
              have cT0 := blk_cell dT 0 rfl
              have cT1 := blk_cell dT 1 rfl
              have lT := blk_lt dT
              clear dT
              have x2 : (j : Int) < (vs.length : Int) := by omega
              have x4 : (0 : Int) ≤ (j : Int) := by omega
              have hc := vcont_any (N : Int) _ cap vs c j _ HTA.out
              rw [HCE.out] at hc
              have HCL := Lib.hid hc
              clear hc
              go_wp2_with fail
              refine HCL.out.mono ?_
              rintro e wp ⟨rfl, hb⟩
              clear HCL
              replace p2 : wp.cell? ⟨b, off + j * 8 + 1, none⟩ = some (.int .i64 vs[j].r) := (hb.cell (p := ⟨b, off + j * 8 + 1, none⟩) (HTA.out.rows.bAt hj)).trans p2
              clear cT0 cT1 lT
              replace DT := Lib.hid ((hb.block _ (blk_lt DT.out)).trans DT.out)
              replace B := Lib.hid (B.out.trans (hb.mono B.out.size))
              replace HBL := Lib.hid (HBL.out.trans (hb.mono HBL.out.size))
              replace HTA := Lib.hid (HTA.out.keep hb)
              replace OL := Lib.hid (OL.out.below hb (Nat.le_refl _))
              replace OI := Lib.hid (OI.out.below hb (Nat.le_refl _))
              clear hb
              have dT := DT.out
              have cT0 := blk_cell dT 0 rfl
              have cT1 := blk_cell dT 1 rfl
              have lT := blk_lt dT
              clear dT
              go_wp2_with fail
              refine (awake_any wp).mono ?_
              rintro e wz ⟨rfl, hbz⟩
              go_wp2_with fail
              go_ret
              exact ⟨rfl, B.out.trans (hbz.mono B.out.size)⟩
      · have g2 : decide (vs.length ≤ j) = true := decide_eq_true (by omega)
        have g3 : decide ((j : Int) ≥ (vs.length : Int)) = true := decide_eq_true (by omega)
        clear hj
        go_wp2_with fail
        refine (awake_any w1).mono ?_
        rintro e wz ⟨rfl, hbz⟩
        go_wp2_with fail
        go_ret
        exact ⟨rfl, B.out.trans (hbz.mono B.out.size)⟩
end Go.Proofs.YtdfnmapmnmecnaaDoor
