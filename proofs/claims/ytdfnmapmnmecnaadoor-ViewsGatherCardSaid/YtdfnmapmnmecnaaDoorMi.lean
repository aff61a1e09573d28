/- Part VAdd. Part Known. Part Repeat. Part VInputs. Part Dag. What each part says stands at its head; no part has a condition beyond its own statements. -/
import Derived.Test.YtdfnmapmnmecnaaDoorProg
import Derived.Test.YtdfnmapmnmecnaaDoorMh
import Derived.Deep.QuietTactic
import Derived.BigQuiet
import Derived.Deep.RegionHeld3
import Derived.Deep.RegionWith
import Derived.Deep.DeepCutAuto
import Derived.StillTactics
import Derived.Test.YtdfnmapmnmecnaaDoorMf
import Derived.Test.YtdfnmapmnmecnaaDoorMa
import Derived.Laws.CopyOwn
import Derived.Deep.RegionLaw
import Derived.IntWalk
import Derived.WalkKit
import Derived.Orders
import Derived.Below
import Derived.Laws.OwnMore

/- views.Add. -/
namespace Go.Proofs.YtdfnmapmnmecnaaDoor
open Go.RowKit

/-- What the cloning leaves: the copy, in the block of its variable. -/
def VaddCut (n : Int) (vs : List Vw) (w2 : World) (s : Value) (wx : World) : Prop :=
  ∃ g A4 c4, s = .pointer (some ⟨g, 0, none⟩) ∧ wx.heap[g]? = some (.cells #[.int .i64 n, .slice A4 vs.length c4] 24 (0, 0)) ∧ OwnV wx w2.heap.size (.slice A4 vs.length c4) vs ∧
    (Value.slice A4 vs.length c4).ownBlock ≠ some g ∧ w2.heap.size ≤ g ∧ Below w2.heap.size w2 wx
theorem own_not {w : World} {base : Nat} {v : Value} {vs : List Vw} (h : OwnV w base v vs) {k : Nat} {cs : Array Value} (hk : w.heap[k]? = some (.cells cs 24 (0, 0))) : v.ownBlock ≠ some k := by
  intro e
  rcases h.2 with ⟨rfl, _⟩ | ⟨g, cap, cur, rfl, _, hg, _⟩
  · cases e
  · have : g = k := by simpa [Value.ownBlock] using e
    subst this
    rw [hg] at hk
    cases hk

theorem set_two {w : World} {g : Nat} {t : TypeId} {a b a' b' : Value} (h : w.heap[g]? = some (.cells #[a, b] t (0, 0))) : ((w.setCell ⟨g, 0, none⟩ a').setCell ⟨g, 1, none⟩ b').heap[g]? = some (.cells #[a', b'] t (0, 0)) := by
  simp [World.setCell, Array.getElem?_modify, h]
theorem vaddcut1 {n : Int} {vs : List Vw} {w2 W w3 X : World} {A4 : Option Addr} {c4 : Nat} (hX : X.heap = (w3.alloc (.cells #[.int .i64 n, .slice A4 vs.length c4] 24)).heap) (hbx : Below w2.heap.size w2 X) (hW : w2.heap.size ≤ W.heap.size) (ho : OwnV w3 W.heap.size (.slice A4 vs.length c4) vs) (hle : w2.heap.size ≤ w3.heap.size) :
    VaddCut n vs w2 (.pointer (some ⟨w3.heap.size, 0, none⟩)) X := by
  have ho' : OwnV X w2.heap.size (.slice A4 vs.length c4) vs := by
    have h1 := (ho.alloc (.cells #[.int .i64 n, .slice A4 vs.length c4] 24)).low hW
    unfold OwnV World.ownsRow at *
    rw [hX]; exact h1
  exact ⟨_, A4, c4, rfl, by rw [hX]; exact blk_new w3 _, ho', fun e => by have := (ho.lt _ e).2; omega, hle, hbx⟩
theorem vaddcut2 {n : Int} {vs : List Vw} {w2 W w3 X : World} {A4 : Option Addr} {c4 : Nat} (hX : X.heap = ((w3.setCell ⟨w2.heap.size, 0, none⟩ (.int .i64 n)).setCell ⟨w2.heap.size, 1, none⟩ (.slice A4 vs.length c4)).heap) (hbx : Below w2.heap.size w2 X) (hW : w2.heap.size ≤ W.heap.size) (ho : OwnV w3 W.heap.size (.slice A4 vs.length c4) vs)
    (z0 : w3.heap[w2.heap.size]? = some (.cells #[.int .i64 0, .slice none 0 0] 24 (0, 0))) : VaddCut n vs w2 (.pointer (some ⟨w2.heap.size, 0, none⟩)) X := by
  have ho' : OwnV X w2.heap.size (.slice A4 vs.length c4) vs := by
    have h1 := (((ho.kept (grown_set1 w3 w2.heap.size 0 (.int .i64 n)) (Or.inr (own_not ho z0))).kept (grown_set1 _ w2.heap.size 1 (.slice A4 vs.length c4)) (Or.inr (own_not ho z0)))).low hW
    unfold OwnV World.ownsRow at *
    rw [hX]; exact h1
  exact ⟨_, A4, c4, rfl, by rw [hX]; exact set_two z0, ho', own_not ho z0, Nat.le_refl _, hbx⟩

set_option maxRecDepth 100000 in
set_option maxHeartbeats 4000000 in
theorem vadd_any (n : Int) (A : Option Addr) (cap : Nat) (vs : List Vw) (v : Vw) (w : World) (hT : TArg w A cap vs) :
    Calls Tryd.prog 13 #[.agg #[.int .i64 n, .slice A vs.length cap], .agg v.cells] w (RetAdd (addE n vs v) w) := by
  have HT := Lib.hid hT
  have hfew := hT.few
  clear hT
  go_enter Tryd.func13, Tryd.ntmps13
  unfold Vw.cells
  go_wp2_with fail
  obtain ⟨W0, hW0, b0, b1, b2, hsz, hB0⟩ := threeboxes w #[.int .i64 n, .slice A vs.length cap] v.cells #[.int .i64 0, .slice none 0 0] 24 27 24
  unfold Vw.cells at hW0
  rw [hW0]
  clear hW0
  refine (vcheck_any n A cap vs W0 (HT.out.keep hB0)).mono ?_
  rintro e w1 ⟨rfl, hb⟩
  have d0 := (hb.block _ (by omega)).trans b0
  have d1 := (hb.block _ (by omega)).trans b1
  have d2 := (hb.block _ (by omega)).trans b2
  have B1 : Hid (Below w.heap.size w w1) := hB0.trans (hb.mono (by omega))
  have l1 : w.heap.size + 3 ≤ w1.heap.size := by have := hb.size; omega
  have t0 := blk_cell d0 0 rfl
  have t1 := blk_cell d0 1 rfl
  have q0 := blk_cell d1 0 rfl
  have q1 := blk_cell d1 1 rfl
  have q2 := blk_cell d1 2 rfl
  have q3 := blk_cell d1 3 rfl
  have q4 := blk_cell d1 4 rfl
  have q5 := blk_cell d1 5 rfl
  have q6 := blk_cell d1 6 rfl
  have q7 := blk_cell d1 7 rfl
  have r0 := blk_cell d2 0 rfl
  have r1 := blk_cell d2 1 rfl
  have f0 := blk_froz d2 0
  have f1 := blk_froz d2 1
  have HD0 := Lib.hid d0
  have HD1 := Lib.hid d1
  have HD2 := Lib.hid d2
  clear b0 b1 b2 hsz hB0 hb d0 d1 d2
  by_cases hc : CheckE n vs = 0
  · have e0 : (CheckE n vs != 0) = false := by simp [hc]
    obtain ⟨hwf, h8⟩ := Wf.of_CheckE hc
    obtain ⟨N, rfl⟩ := Int.eq_ofNat_of_zero_le (show 0 ≤ n by have := hwf.1; omega)
    have HC := Lib.hid hc
    have HW := Lib.hid hwf
    clear hc hwf
    go_wp2_with fail
    refine (check_any N A cap vs v w1 (HT.out.keep B1.out) HW.out).mono ?_
    rintro e w2 ⟨rfl, hb2⟩
    have B2 : Hid (Below w.heap.size w w2) := B1.out.trans (hb2.mono B1.out.size)
    have d0 := (hb2.block _ (by omega)).trans HD0.out
    have d1 := (hb2.block _ (by omega)).trans HD1.out
    have d2 := (hb2.block _ (by omega)).trans HD2.out
    have l2 : w.heap.size + 3 ≤ w2.heap.size := by have := hb2.size; omega
    clear t0 t1 q0 q1 q2 q3 q4 q5 q6 q7 r0 r1 f0 f1 hb2
    have t0 : w2.cell? ⟨w.heap.size, 0, none⟩ = some (.int .i64 N) := blk_cell d0 0 rfl
    have t1 : w2.cell? ⟨w.heap.size, 1, none⟩ = some (.slice A vs.length cap) := blk_cell d0 1 rfl
    have r0 := blk_cell d2 0 rfl
    have r1 := blk_cell d2 1 rfl
    have f0 := blk_froz d2 0
    have f1 := blk_froz d2 1
    have K0 := Lib.hid d0
    have K1 := Lib.hid d1
    have K2 := Lib.hid d2
    clear d0 d1 d2
    by_cases hv : checkE N vs v = 0
    · have e1 : (checkE N vs v != 0) = false := by simp [hv]
      have HV := Lib.hid hv
      have l3 : w.heap.size < w2.heap.size := by omega
      have l4 : w.heap.size + 1 + 1 < w2.heap.size := by omega
      clear hv
      go_upto_region 7 with fail
      go_cut [9] (fun s9 wx => VaddCut N vs w2 s9 wx)
      case first =>
        go_region_with (go_at_call 41; refine (clone_view A cap vs _ (by first | exact HT.out.keep B2.out | exact (HT.out.keep B2.out).keep (Below.refl _ _).drew | exact ((HT.out.keep B2.out).keep (bel1 w2 _)) | exact ((HT.out.keep B2.out).keep (bel1 w2 _).drew))).mono ?_; rintro e w3 ⟨V, rfl, hoV, hbV⟩; obtain ⟨A4, c4, rfl, _⟩ := hoV.form (by omega); have y0 : w3.cell? ⟨w.heap.size, 0, none⟩ = some (.int .i64 N) := (hbV.cell (p := ⟨w.heap.size, 0, none⟩) (by first | exact l3 | (simp; omega))).trans (by first | exact t0 | exact Lib.cell?_alloc_some _ t0); have y1 : w2.heap.size ≤ w3.heap.size := (by (have h := hbV.size; first | exact h | (simp at h; omega))); have y2 : w.heap.size < w3.heap.size := (by omega); try (have z0 : w3.heap[w2.heap.size]? = some (.cells #[.int .i64 0, .slice none 0 0] 24 (0, 0)) := (hbV.block w2.heap.size (by simp)).trans (blk_new w2 _); have z1 := blk_cell z0 0 rfl; have z2 := blk_cell z0 1 rfl; have z3 := blk_froz z0 0; have z4 := blk_froz z0 1))
        all_goals
          go_wp2_with fail
          go_meet
          first
            | exact vaddcut1 rfl (by first | exact (belU hbV).alloc (belU hbV).size _ | exact hbV.alloc hbV.size _) (by first | exact Nat.le_refl _ | simp) hoV y1
            | exact vaddcut2 rfl (by first | exact (((bel1 w2 _).trans ((belU hbV).mono (by simp))).setCell (by simp) _).setCell (by simp) _ | exact (((bel1 w2 _).trans (hbV.mono (by simp))).setCell (by simp) _).setCell (by simp) _) (by simp) hoV z0
      case rest =>
        obtain ⟨g, A4, c4, rfl, g0, hO, hne, hle, hB⟩ := hcut
        have d0 := (hB.block _ (by omega)).trans K0.out
        have d1 := (hB.block _ (by omega)).trans K1.out
        have d2 := (hB.block _ (by omega)).trans K2.out
        have t1 : wc.cell? ⟨w.heap.size, 1, none⟩ = some (.slice A vs.length cap) := blk_cell d0 1 rfl
        have q0 : wc.cell? ⟨w.heap.size + 1, 0, none⟩ = some (.int .i64 v.p) := blk_cell d1 0 rfl
        have q1 : wc.cell? ⟨w.heap.size + 1, 1, none⟩ = some (.int .i64 v.r) := blk_cell d1 1 rfl
        have q2 : wc.cell? ⟨w.heap.size + 1, 2, none⟩ = some (.int .i64 v.i) := blk_cell d1 2 rfl
        have q3 : wc.cell? ⟨w.heap.size + 1, 3, none⟩ = some (.int .i64 v.h0) := blk_cell d1 3 rfl
        have q4 : wc.cell? ⟨w.heap.size + 1, 4, none⟩ = some (.int .i64 v.h1) := blk_cell d1 4 rfl
        have q5 : wc.cell? ⟨w.heap.size + 1, 5, none⟩ = some (.int .i64 v.h2) := blk_cell d1 5 rfl
        have q6 : wc.cell? ⟨w.heap.size + 1, 6, none⟩ = some (.int .i64 v.h3) := blk_cell d1 6 rfl
        have q7 : wc.cell? ⟨w.heap.size + 1, 7, none⟩ = some (.int .i64 v.h4) := blk_cell d1 7 rfl
        have BC : Hid (Below w.heap.size w wc) := B2.out.trans (hB.mono B2.out.size)
        have lc : w2.heap.size ≤ wc.heap.size := hB.size
        have lg := blk_lt g0
        have HG := Lib.hid g0
        have HO := Lib.hid hO
        have HN := Lib.hid hne
        have KK0 := Lib.hid d0
        have KK1 := Lib.hid d1
        have KK2 := Lib.hid d2
        clear d0 d1 d2 g0 hO hne hB
        go_wp2_with fail
        refine (sindex_any A cap vs v wc (HT.out.keep BC.out)).mono ?_
        rintro e w5 ⟨rfl, hb5⟩
        have B5 : Hid (Below w.heap.size w w5) := BC.out.trans (hb5.mono BC.out.size)
        have g5 := (hb5.block _ lg).trans HG.out
        have O5 : Hid (OwnV w5 w2.heap.size (.slice A4 vs.length c4) vs) := HO.out.below hb5 (Nat.le_refl _)
        have d0 := (hb5.block _ (by omega)).trans KK0.out
        have d1 := (hb5.block _ (by omega)).trans KK1.out
        have d2 := (hb5.block _ (by omega)).trans KK2.out
        have l5 : wc.heap.size ≤ w5.heap.size := hb5.size
        clear t1 q0 q1 q2 q3 q4 q5 q6 q7
        have t1 : w5.cell? ⟨w.heap.size, 1, none⟩ = some (.slice A vs.length cap) := blk_cell d0 1 rfl
        have r0 := blk_cell d2 0 rfl
        have r1 := blk_cell d2 1 rfl
        have f0 := blk_froz d2 0
        have f1 := blk_froz d2 1
        have y0 : w5.cell? ⟨g, 0, none⟩ = some (.int .i64 N) := blk_cell g5 0 rfl
        have y1 : w5.cell? ⟨g, 1, none⟩ = some (.slice A4 vs.length c4) := blk_cell g5 1 rfl
        have KD1 := Lib.hid d1
        have KD2 := Lib.hid d2
        have KD0 := Lib.hid d0
        have KG := Lib.hid g5
        clear hb5 d0 d1 d2 g5
        by_cases hm : v ∈ vs
        · have hz := Lib.hid (addE_old HC.out HV.out hm)
          have h0 : 0 ≤ idxE vs v := idxE_yes hm
          clear hm
          go_wp2_with fail
          have hbs : Hid (Below w.heap.size w (((w5.setCell ⟨w.heap.size + 1 + 1, 0, none⟩ (Value.int .i64 N)).setCell ⟨w.heap.size + 1 + 1, 1, none⟩ (Value.slice A4 vs.length c4)))) := (B5.out.setCell (by simp; omega) _).setCell (by simp; omega) _
          have hfin : OwnV (((w5.setCell ⟨w.heap.size + 1 + 1, 0, none⟩ (Value.int .i64 N)).setCell ⟨w.heap.size + 1 + 1, 1, none⟩ (Value.slice A4 vs.length c4))) w2.heap.size (.slice A4 vs.length c4) vs := (O5.out.kept (grown_set1 w5 (w.heap.size + 1 + 1) 0 _) (Or.inr (O5.out.ne (by omega)))).kept (grown_set1 _ (w.heap.size + 1 + 1) 1 _) (Or.inr (O5.out.ne (by omega)))
          exact bodyPost_ret (v := .tuple #[.agg #[.int .i64 N, .slice A4 vs.length c4], .int .i64 (idxE vs v), .int .i64 0]) (by simp [results, Tryd.results13, go_sem, r0, r1]) rfl (RetAdd.of hz.out rfl (TArg.of_own hfin (by omega)) hbs.out)
        · have h0 : Hid (idxE vs v = -1) := idxE_none hm
          obtain ⟨ix, hix⟩ : ∃ ix, idxE vs v = ix := ⟨_, rfl⟩
          rw [hix] at h0 ⊢
          have h1 : ix < 0 := by have := h0.out; omega
          have HM := Lib.hid hm
          clear hm hix
          by_cases h92 : vs.length = 8192
          · have hz := Lib.hid (addE_full HC.out HV.out HM.out h92)
            have hx : ((vs.length : Int) == 8192) = true := by simp [h92]
            have H92 := Lib.hid h92
            clear h92
            go_wp2_with fail
            have hbs : Hid (Below w.heap.size w (((w5.setCell ⟨w.heap.size + 1 + 1, 0, none⟩ (Value.int .i64 0)).setCell ⟨w.heap.size + 1 + 1, 1, none⟩ (Value.slice none 0 0)))) := (B5.out.setCell (by simp; omega) _).setCell (by simp; omega) _
            exact bodyPost_ret (v := .tuple #[.agg #[.int .i64 0, .slice none 0 0], .int .i64 0, .int .i64 17]) (by simp [results, Tryd.results13, go_sem, r0, r1]) rfl (RetAdd.of hz.out rfl (TArg.nil _) hbs.out)
          · have hz := Lib.hid (addE_new HC.out HV.out HM.out h92)
            have hx : ((vs.length : Int) == 8192) = false := by simp; omega
            have q0 : w5.cell? ⟨w.heap.size + 1, 0, none⟩ = some (.int .i64 v.p) := blk_cell KD1.out 0 rfl
            have q1 : w5.cell? ⟨w.heap.size + 1, 1, none⟩ = some (.int .i64 v.r) := blk_cell KD1.out 1 rfl
            have q2 : w5.cell? ⟨w.heap.size + 1, 2, none⟩ = some (.int .i64 v.i) := blk_cell KD1.out 2 rfl
            have q3 : w5.cell? ⟨w.heap.size + 1, 3, none⟩ = some (.int .i64 v.h0) := blk_cell KD1.out 3 rfl
            have q4 : w5.cell? ⟨w.heap.size + 1, 4, none⟩ = some (.int .i64 v.h1) := blk_cell KD1.out 4 rfl
            have q5 : w5.cell? ⟨w.heap.size + 1, 5, none⟩ = some (.int .i64 v.h2) := blk_cell KD1.out 5 rfl
            have q6 : w5.cell? ⟨w.heap.size + 1, 6, none⟩ = some (.int .i64 v.h3) := blk_cell KD1.out 6 rfl
            have q7 : w5.cell? ⟨w.heap.size + 1, 7, none⟩ = some (.int .i64 v.h4) := blk_cell KD1.out 7 rfl
            clear h92
            go_wp2_with (at_builtin; refine wpList_appv1 (by rfl) (.tmp 44) (.tmp 46) (by rfl) w2.heap.size _ vs v (by rfl) (O5.out.alloc _) (by omega) w5.heap.size (by rfl) (blk_new w5 _) (by simp; omega) ?_; intro A6 c6 w6 hown6 hgrow6; have G6 := grown_heap (grown_of_alloc hgrow6) KG.out HN.out; have B6 : Hid (Below w2.heap.size w5 w6) := (Below.refl _ _).grown (grown_of_alloc hgrow6) (by omega) (fun k hk => (O5.out.lt k hk).1); have z0 : w6.cell? ⟨g, 0, none⟩ = some (.int .i64 N) := blk_cell G6 0 rfl; have z1 : w6.cell? ⟨g, 1, none⟩ = some (.slice A4 vs.length c4) := blk_cell G6 1 rfl; have z2 := blk_froz G6 1; have HO6 := Lib.hid hown6; have HG6 := Lib.hid G6; clear q0 q1 q2 q3 q4 q5 q6 q7 y0 y1 t1 r0 r1 f0 f1 G6 hown6 hgrow6)
            have D0 := (B6.out.block _ (by omega)).trans KD0.out
            have D2 := (B6.out.block _ (by omega)).trans KD2.out
            obtain ⟨w7, hw7⟩ : ∃ w7, w6.setCell ⟨g, 1, none⟩ (.slice A6 (vs.length + 1) c6) = w7 := ⟨_, rfl⟩
            rw [hw7]
            have lg6 : w.heap.size + 1 + 1 < g := by omega
            have E0 : w7.heap[w.heap.size]? = some (.cells #[.int .i64 N, .slice A vs.length cap] 24 (0, 0)) := by rw [← hw7]; exact grown_heap (grown_set1 w6 g 1 _) D0 (by simp; omega)
            have E2 : w7.heap[w.heap.size + 1 + 1]? = some (.cells #[.int .i64 0, .slice none 0 0] 24 (0, 0)) := by rw [← hw7]; exact grown_heap (grown_set1 w6 g 1 _) D2 (by simp; omega)
            have z0' : w7.cell? ⟨g, 0, none⟩ = some (.int .i64 N) := by rw [← hw7]; simp [go_sem, z0]
            have z1' : w7.cell? ⟨g, 1, none⟩ = some (.slice A6 (vs.length + 1) c6) := by rw [← hw7]; simp [go_sem, z1]
            have O7 : Hid (OwnV w7 w2.heap.size (.slice A6 (vs.length + 1) c6) (vs ++ [v])) := by
              show OwnV _ _ _ _
              rw [← hw7]
              exact HO6.out.kept (grown_set1 w6 g 1 _) (Or.inr (own_not HO6.out HG6.out))
            have B7 : Hid (Below w.heap.size w w7) := by
              show Below _ _ _
              rw [← hw7]
              exact (B5.out.trans (B6.out.mono B2.out.size)).setCell (by simp; omega) _
            have l7 : w.heap.size + 1 + 1 < w7.heap.size := blk_lt E2
            clear hw7 z0 z1 z2 D0 D2
            have t1 : w7.cell? ⟨w.heap.size, 1, none⟩ = some (.slice A vs.length cap) := blk_cell E0 1 rfl
            have r0 := blk_cell E2 0 rfl
            have r1 := blk_cell E2 1 rfl
            have f0 := blk_froz E2 0
            have f1 := blk_froz E2 1
            clear E0 E2
            go_region
            all_goals
              go_wp2_with fail
              have hbs : Hid (Below w.heap.size w (((w7.setCell ⟨w.heap.size + 1 + 1, 0, none⟩ (Value.int .i64 N)).setCell ⟨w.heap.size + 1 + 1, 1, none⟩ (Value.slice A6 (vs.length + 1) c6)))) := (B7.out.setCell (by simp; omega) _).setCell (by simp; omega) _
              have hfin : OwnV (((w7.setCell ⟨w.heap.size + 1 + 1, 0, none⟩ (Value.int .i64 N)).setCell ⟨w.heap.size + 1 + 1, 1, none⟩ (Value.slice A6 (vs.length + 1) c6))) w2.heap.size (.slice A6 (vs.length + 1) c6) (vs ++ [v]) := (O7.out.kept (grown_set1 w7 (w.heap.size + 1 + 1) 0 _) (Or.inr (O7.out.ne (by omega)))).kept (grown_set1 _ (w.heap.size + 1 + 1) 1 _) (Or.inr (O7.out.ne (by omega)))
              exact bodyPost_ret (v := .tuple #[.agg #[.int .i64 N, .slice A6 (vs.length + 1) c6], .int .i64 vs.length, .int .i64 0]) (by simp [results, Tryd.results13, go_sem, r0, r1]) rfl (RetAdd.of hz.out (by simp) (TArg.of_own (OwnV.drew hfin) (by simp; omega)) hbs.out.drew)
    · have e1 : (checkE N vs v != 0) = true := by simpa using hv
      have hz := Lib.hid (addE_row HC.out hv)
      clear hv
      go_wp2_with fail
      have hbs : Hid (Below w.heap.size w ((w2.setCell ⟨w.heap.size + 1 + 1, 0, none⟩ (Value.int .i64 0)).setCell ⟨w.heap.size + 1 + 1, 1, none⟩ (Value.slice none 0 0))) := (B2.out.setCell (by simp; omega) _).setCell (by simp; omega) _
      exact bodyPost_ret (v := .tuple #[.agg #[.int .i64 0, .slice none 0 0], .int .i64 0, .int .i64 (checkE N vs v)]) (by simp [results, Tryd.results13, go_sem, r0, r1]) rfl (RetAdd.of hz.out rfl (TArg.nil _) hbs.out)
  · have e0 : (CheckE n vs != 0) = true := by simpa using hc
    have hz := Lib.hid (addE_bad (v := v) hc)
    clear hc
    go_wp2_with fail
    have hbs : Hid (Below w.heap.size w ((w1.setCell ⟨w.heap.size + 1 + 1, 0, none⟩ (Value.int .i64 0)).setCell ⟨w.heap.size + 1 + 1, 1, none⟩ (Value.slice none 0 0))) := (B1.out.setCell (by simp; omega) _).setCell (by simp; omega) _
    exact bodyPost_ret (v := .tuple #[.agg #[.int .i64 0, .slice none 0 0], .int .i64 0, .int .i64 (CheckE n vs)]) (by simp [results, Tryd.results13, go_sem, r0, r1]) rfl (RetAdd.of hz.out rfl (TArg.nil _) hbs.out)
end Go.Proofs.YtdfnmapmnmecnaaDoor

/- ref22.Known, Inputs. -/
namespace Go.Proofs.YtdfnmapmnmecnaaDoor
open Go.RowKit

theorem make_row (n : Nat) (h1 : 1 ≤ n) (h5 : n ≤ 5) (W : World) : (Instr.makeSlice 37 (.int .i64 n) (.int .i64 n)).run Tryd.prog W = .ok (.slice (some ⟨W.heap.size, 0, none⟩) n n) (W.alloc (.cells ((List.replicate n 0).map (Value.int .i64)).toArray 3)) := by
  obtain rfl | rfl | rfl | rfl | rfl : n = 1 ∨ n = 2 ∨ n = 3 ∨ n = 4 ∨ n = 5 := by omega
  all_goals kernel_rfl
theorem grown_setk (w : World) (g k : Nat) (v' : Value) : w.grownBy (w.setCell ⟨g, k, none⟩ v') (some g) :=
  ⟨rfl, rfl, rfl, by simp [World.setCell], fun j _ hj => Below.heap_setCell w ⟨g, k, none⟩ v' j (fun e => hj (by rw [e]))⟩
theorem all_minus {xs : List Int} {n : Nat} (hl : xs.length = n) (h : ∀ j, j < n → xs[j]? = some (-1)) : xs = List.replicate n (-1) := by
  refine List.ext_getElem? fun j => ?_
  by_cases hj : j < n
  · rw [h j hj]; simp [hj]
  · rw [List.getElem?_eq_none (by omega), List.getElem?_eq_none (by simp; omega)]

set_option maxRecDepth 100000 in
set_option maxHeartbeats 4000000 in
theorem known_any (n : Nat) (A : Option Addr) (cap : Nat) (vs : List Vw) (hw : Wf (n : Int) vs) (i : Nat) (hi : i < vs.length) (w : World) (hT : TArg w A cap vs) :
    Calls Tryd.prog 50 #[.agg #[.int .i64 n, .slice A vs.length cap], .int .i64 i] w (RetInts (knowL vs (pastL vs [i]) (List.replicate n (-1))) w) := by
  have HT := Lib.hid hT
  have HW := Lib.hid hw
  have hfew := hT.few
  have hn1 : 1 ≤ n := by have := hw.1; omega
  have hn5 : n ≤ 5 := by have := hw.2.1; omega
  clear hT hw
  go_enter Tryd.func50, Tryd.ntmps50
  have hmk := make_row n hn1 hn5
  obtain ⟨ar, har⟩ : ∃ ar, ((List.replicate n 0).map (Value.int .i64)).toArray = ar := ⟨_, rfl⟩
  rw [har] at hmk
  have HAR := Lib.hid har
  clear har
  go_wp2_with fail
  obtain ⟨W0, hW0, b0, b1, hsz, hB0⟩ := twoboxes w #[.int .i64 n, .slice A vs.length cap] ar 24 3
  rw [hW0]
  clear hW0 hmk
  obtain ⟨g5, hg5⟩ : ∃ g5, g5 = w.heap.size + 1 := ⟨_, rfl⟩
  rw [← hg5] at b1 ⊢
  have b2 : RowAt W0 g5 (List.replicate n 0) := by unfold RowAt; rw [HAR.out]; exact b1
  have hgw : w.heap.size < g5 := by omega
  have HG5 := Lib.hid hg5
  clear hg5
  go_loopw [6] (fun l wr => ∃ (k : Nat) (xs : List Int), k ≤ n ∧ l = .int .i64 k ∧ xs.length = n ∧ RowAt wr g5 xs ∧ Hid (∀ j, j < k → xs[j]? = some (-1)) ∧ wr.heap[w.heap.size]? = some (.cells #[.int .i64 n, .slice A vs.length cap] 24 (0, 0)) ∧ Below w.heap.size w wr) (fun l _ => n - (intOf l).toNat)
  case atStart => exact ⟨0, List.replicate n 0, by omega, rfl, by simp, b2, fun j hj => absurd hj (by omega), b0, hB0⟩
  case round =>
    obtain ⟨k, xs, hk, rfl, hxl, hrow, hmin, htab, hbl⟩ := hrel
    have t0 := blk_cell htab 0 rfl
    have RW := Lib.hid hrow
    have TB := Lib.hid htab
    have BL := Lib.hid hbl
    have XL := Lib.hid hxl
    by_cases hlt : k < n
    · obtain ⟨u0, r0⟩ : ∃ u : Int, wr.cell? ⟨g5, k, none⟩ = some (.int .i64 u) := ⟨_, hrow.cell k (by omega)⟩
      have f0 := hrow.froz k
      have l0 := hrow.lt
      clear hrow htab hbl hxl
      go_wp2_with fail
      go_roundw
      case rel => exact ⟨k + 1, xs.set k (-1), by omega, by go_num, by simp [XL.out], RW.out.set k (-1), fun j hj => by
          rw [List.getElem?_set]
          split
          · rename_i e; subst e; simp [XL.out, hlt]
          · exact hmin.out j (by omega), (Below.heap_setCell _ _ _ _ (by simp; omega)).trans TB.out, BL.out.grown (grown_setk wr g5 k _) (by have := BL.out.size; omega) (fun r e => by cases e; omega)⟩
      case measure => simp [intOf]; omega
    · obtain rfl : k = n := by omega
      have hxs := all_minus XL.out hmin.out
      rw [hxs] at RW
      clear hrow htab hxl t0
      have t0 := blk_cell TB.out 0 rfl
      have t1 := blk_cell TB.out 1 rfl
      go_wp2_with fail
      refine (contained_any HW.out i hi A cap wr (HT.out.keep hbl)).mono ?_
      rintro e W3 ⟨v3, rfl, ho3, hb3⟩
      obtain ⟨P3, c3, rfl, hc31, hc32, hI3⟩ := ho3.form
      rw [castL_length] at hc31 ho3
      have hlg : g5 < wr.heap.size := RW.out.lt
      have R3 : RowAt W3 g5 (List.replicate k (-1)) := (hb3.block _ hlg).trans RW.out
      have T3 := Lib.hid ((hb3.block _ (by omega)).trans TB.out)
      have B3 := Lib.hid (BL.out.trans (hb3.mono BL.out.size))
      have O3 := Lib.hid ho3
      have I3 := Lib.hid hI3
      have sz3 := hb3.size
      have hll : (pastL vs [i]).length ≤ vs.length := by have := past_len vs [i]; rwa [castL_length] at this
      have hmem := Lib.hid (fun x (hx : x ∈ pastL vs [i]) => (mem_pastL.1 hx).1)
      obtain ⟨ls, hls⟩ : ∃ ls, pastL vs [i] = ls := ⟨_, rfl⟩
      rw [castL_length, hls]
      rw [hls] at hc31 I3 O3 hll hmem
      have HLS := Lib.hid hls
      clear hls ho3 hI3 t0 t1 hbl hb3
      go_wp2_with fail
      go_loopw [8] (fun l wr' => ∃ k' : Nat, k' ≤ ls.length ∧ l = .int .i64 k' ∧ RowAt wr' g5 (knowL vs (ls.take k') (List.replicate k (-1))) ∧ W3.grownBy wr' (some g5)) (fun l _ => ls.length - (intOf l).toNat)
      case atStart => exact ⟨0, by omega, rfl, by simpa [knowL] using R3, World.grownBy.refl _ _⟩
      case round =>
        obtain ⟨k', hk', rfl, hrow', hgr⟩ := hrel
        have RW' := Lib.hid hrow'
        have BW : Hid (Below w.heap.size w wr) := B3.out.grown hgr (by have := B3.out.size; omega) (fun r e => by cases e; omega)
        by_cases hlt' : k' < ls.length
        · have hx := hmem.out ls[k'] (List.getElem_mem hlt')
          have hks := Lib.hid (knowL_step vs ls k' hlt' (List.replicate k (-1)))
          obtain ⟨x, hxk⟩ : ∃ x, ls[k'] = x := ⟨_, rfl⟩
          rw [hxk] at hx hks
          have hlen : (castL ls).length = ls.length := castL_length ls
          obtain ⟨b3, off3, rfl, hb3, hc3⟩ := I3.out.at_ k' (by omega)
          have hge : g5 + 1 ≤ b3 := by have := (O3.out.lt b3 rfl).1; omega
          have hcx : (castL ls)[k']'(by omega) = (x : Int) := by simp [castL, hxk]
          rw [hcx] at hc3
          have r3 := (World.cell?_of_block (hgr.block b3 hb3 (by simp; omega))).trans hc3
          obtain ⟨b, off, rfl, hbb, c0, c1, c2, c4, c5, c6, c7, c8⟩ := (HT.out.rows.keep BW.out).row x hx
          have t1 : wr.cell? ⟨w.heap.size, 1, none⟩ = some (.slice (some ⟨b, off, none⟩) vs.length cap) := blk_cell ((hgr.block w.heap.size (blk_lt T3.out) (by simp; omega)).trans T3.out) 1 rfl
          have hbx : b < wr.heap.size := by have := BW.out.size; omega
          have hbt : w.heap.size < wr.heap.size := by have := hgr.size; omega
          have hb3w : b3 < wr.heap.size := by have := hgr.size; omega
          have hs0 : (0 : Int) ≤ (x : Int) := by omega
          have hs1 : (x : Int) < (vs.length : Int) := by omega
          have hk0 : (0 : Int) ≤ (k' : Int) := by omega
          have hk1 : (k' : Int) < (ls.length : Int) := by omega
          have HGR := Lib.hid hgr
          have HXK := Lib.hid hxk
          have HV := Lib.hid (getV_eq hx)
          clear hgr hxk hlen hcx hc3 hrow'
          go_upto_region 10 with fail
          go_region_held3 (fun w' => w'.cell? ⟨w.heap.size, 1, none⟩ = some (.slice (some ⟨b, off, none⟩) vs.length cap) ∧ w'.cell? ⟨b3, off3 + k', none⟩ = some (.int .i64 (x : Int)) ∧
              w'.cell? ⟨b, off + x * 8, none⟩ = some (.int .i64 vs[x].p) ∧ w'.cell? ⟨b, off + x * 8 + 1, none⟩ = some (.int .i64 vs[x].r) ∧ w'.cell? ⟨b, off + x * 8 + 2, none⟩ = some (.int .i64 vs[x].i) ∧
              w'.cell? ⟨b, off + x * 8 + 3, none⟩ = some (.int .i64 vs[x].h0) ∧ w'.cell? ⟨b, off + x * 8 + 4, none⟩ = some (.int .i64 vs[x].h1) ∧ w'.cell? ⟨b, off + x * 8 + 5, none⟩ = some (.int .i64 vs[x].h2) ∧
              w'.cell? ⟨b, off + x * 8 + 6, none⟩ = some (.int .i64 vs[x].h3) ∧ w'.cell? ⟨b, off + x * 8 + 7, none⟩ = some (.int .i64 vs[x].h4))
            (first
              | exact ⟨t1, r3, c0, c1, c2, c4, c5, c6, c7, c8⟩
              | exact ⟨(World.cell?_alloc_lt _ _ _ hbt).trans t1, (World.cell?_alloc_lt _ _ _ hb3w).trans r3, (World.cell?_alloc_lt _ _ _ hbx).trans c0, (World.cell?_alloc_lt _ _ _ hbx).trans c1, (World.cell?_alloc_lt _ _ _ hbx).trans c2, (World.cell?_alloc_lt _ _ _ hbx).trans c4, (World.cell?_alloc_lt _ _ _ hbx).trans c5, (World.cell?_alloc_lt _ _ _ hbx).trans c6, (World.cell?_alloc_lt _ _ _ hbx).trans c7, (World.cell?_alloc_lt _ _ _ hbx).trans c8⟩)
            (fail)
          have hbg := begE_ok (HW.out.beg hx)
          obtain ⟨q, hq⟩ := Int.eq_ofNat_of_zero_le hbg.1
          have hqk : q < k := by have := hbg.2.1; omega
          have hqt : vs[x].p.toNat = q := by omega
          obtain ⟨W1, hW1⟩ : ∃ W1, (wr.alloc (.cells vs[x].cells 27)).drew = W1 := ⟨_, rfl⟩
          have z1 : W1.heap[wr.heap.size]? = some (.cells vs[x].cells 27 (0, 0)) := by rw [← hW1]; exact blk_new wr _
          have zB : Below wr.heap.size wr W1 := by rw [← hW1]; exact (bel1 wr _).drew
          have zs : wr.heap.size < W1.heap.size := blk_lt z1
          have zr : RowAt W1 g5 (knowL vs (ls.take k') (List.replicate k (-1))) := (zB.block g5 RW'.out.lt).trans RW'.out
          have zG : Hid (W3.grownBy W1 (some g5)) := HGR.out.trans ⟨zB.os, zB.tape, zB.output, zB.size, fun j hj _ => zB.block j hj⟩
          have y0 : W1.cell? ⟨wr.heap.size, 0, none⟩ = some (.int .i64 (q : Int)) := by rw [← hq]; exact blk_cell z1 0 rfl
          have y1 : W1.cell? ⟨wr.heap.size, 1, none⟩ = some (.int .i64 vs[x].r) := blk_cell z1 1 rfl
          have y2 : W1.cell? ⟨wr.heap.size, 2, none⟩ = some (.int .i64 vs[x].i) := blk_cell z1 2 rfl
          have hkl : (knowL vs (ls.take k') (List.replicate k (-1))).length = k := by rw [knowL_length]; simp
          obtain ⟨u0, r0⟩ : ∃ u : Int, W1.cell? ⟨g5, q, none⟩ = some (.int .i64 u) := ⟨_, zr.cell q (by omega)⟩
          have f0 := zr.froz q
          have l0 := zr.lt
          have ZR := Lib.hid zr
          unfold Vw.cells at hW1
          rw [hW1]
          have HQT := Lib.hid hqt
          clear hW1 z1 zB hbg hq hqt zr t1 r3 c0 c1 c2 c4 c5 c6 c7 c8 hkl
          by_cases hr : vs[x].r = 0
          · have e1 : (vs[x].r == 0) = true := by simp [hr]
            have hst : Hid (knowL vs (ls.take (k' + 1)) (List.replicate k (-1)) = (knowL vs (ls.take k') (List.replicate k (-1))).set q vs[x].i) := by
              show _ = _; rw [hks.out, HV.out, if_pos hr, HQT.out]
            clear hr
            go_wp2_with fail
            go_roundw
            case rel => exact ⟨k' + 1, by omega, by go_num, by rw [hst.out]; exact ZR.out.set q _, zG.out.trans (grown_setk _ g5 q _)⟩
            case measure => simp [intOf]; omega
          · have e1 : (vs[x].r == 0) = false := by simp [hr]
            have hst : Hid (knowL vs (ls.take (k' + 1)) (List.replicate k (-1)) = knowL vs (ls.take k') (List.replicate k (-1))) := by
              show _ = _; rw [hks.out, HV.out, if_neg hr]
            clear hr
            go_wp2_with fail
            go_roundw
            case rel => exact ⟨k' + 1, by omega, by go_num, by rw [hst.out]; exact ZR.out, zG.out⟩
            case measure => simp [intOf]; omega
        · obtain rfl : k' = ls.length := by omega
          go_wp2_with fail
          go_ret
          have hkl : (knowL vs ls (List.replicate k (-1))).length = k := by rw [knowL_length]; simp
          have hro := RW'.out
          rw [List.take_length] at hro
          have hown := hro.own (base := w.heap.size) (by omega) (by rw [hkl]; unfold maxLen; omega)
          rw [hkl] at hown
          refine ⟨_, rfl, ?_, BW.out⟩
          rw [HLS.out]
          exact hown
end Go.Proofs.YtdfnmapmnmecnaaDoor

/- slices.Repeat of one integer. -/
namespace Go.Proofs.YtdfnmapmnmecnaaDoor
open Go.RowKit

theorem splice_rep {cur : List Value} {x : Value} {k m n : Nat} (hl : cur.length = n) (h : cur.take k = List.replicate k x) (hk : k + m ≤ n) : (splice cur k (List.replicate m x)).take (k + m) = List.replicate (k + m) x ∧ (splice cur k (List.replicate m x)).length = n := by
  constructor
  · unfold splice
    rw [h, ← List.append_assoc, List.take_append_of_le_length (by simp), List.take_of_length_le (by simp)]
    exact List.replicate_append_replicate
  · rw [length_splice _ _ _ (by simp; omega), hl]

theorem one_src {w : World} {b o : Nat} {x : Value} (h : w.cell? ⟨b, o, none⟩ = some x) : ∀ j v, [x][j]? = some v → w.cell? ((⟨b, o, none⟩ : Addr).add j) = some v := by
  intro j v hj
  have h0 : j = 0 := by have := (List.getElem?_eq_some_iff.1 hj).1; simp at this; omega
  subst h0
  simp at hj; subst hj
  rw [Addr.add_lit]; exact h
theorem size_int : (Tryd.prog.info? 3).map (·.size) = some 1 := by kernel_rfl
set_option maxRecDepth 100000 in
set_option maxHeartbeats 4000000 in
theorem repeat_any (n b : Nat) (h1 : 1 ≤ n) (h5 : n ≤ 5) (u : Int) (w : World) (hb : w.heap[b]? = some (.cells #[.int .i64 u] 3 (0, 0))) :
    Calls Tryd.prog 49 #[.slice (some ⟨b, 0, none⟩) 1 1, .int .i64 n] w fun e w' => ∃ g, e = .returned (.slice (some ⟨g, 0, none⟩) n n) ∧ w.heap.size ≤ g ∧ RowAt w' g (List.replicate n u) ∧ Below w.heap.size w w' := by
  have hmk := make_row n h1 h5
  obtain ⟨ar, har⟩ : ∃ ar : List Value, (List.replicate n 0).map (Value.int .i64) = ar := ⟨_, rfl⟩
  rw [har] at hmk
  have hal : ar.length = n := by rw [← har]; simp
  have hc := blk_cell hb 0 rfl
  have hbl := blk_lt hb
  have hm := Tryd.bits_Mul 1 n (by omega) (by omega) w
  have e1 : (1 * n / 18446744073709551616 : Nat) = 0 := by omega
  have e2 : (1 * n % 18446744073709551616 : Nat) = n := by omega
  rw [e1, e2] at hm
  have hn0 : ¬ (n : Int) < 0 := by omega
  clear har e1 e2
  go_enter Tryd.func49, Tryd.ntmps49
  go_wp2_with fail
  refine hm.mono ?_
  rintro e w1 ⟨rfl, hw1⟩
  obtain rfl := hw1
  clear hm
  obtain ⟨W0, hW0, b0, hsz, hB0⟩ := onebox w1 ar.toArray 3
  have hx : W0.cell? ⟨b, 0, none⟩ = some (.int .i64 u) := (hB0.cell (p := ⟨b, 0, none⟩) hbl).trans hc
  have BB := Lib.hid hB0
  have BX := Lib.hid b0
  have HX := Lib.hid hx
  clear hc hB0 b0 hx hb
  go_wp2_with ((refine wpList_copy_splice rfl (.tmp 31) (.tmp 32) 37 37 rfl 3 Tryd.underlying37 size_int (some ⟨w1.heap.size, 0, none⟩) (some ⟨b, 0, none⟩) n n 1 1 rfl rfl w1.heap.size 0 ar 3 BX.out [.int .i64 u] (by simp [Nat.min_def]; omega) (fun _ => ⟨rfl, _, rfl, one_src HX.out⟩) (by simp; omega) (by simp [Value.oneCell']) w1.heap.size w1 BB.out (Nat.le_refl _) ?_); intro w2 hr2 hb2)
  obtain ⟨g, hg⟩ : ∃ g, w1.heap.size = g := ⟨_, rfl⟩
  have s1 := splice_rep (cur := ar) (x := .int .i64 u) (k := 0) (m := 1) (n := n) hal (by simp) (by omega)
  have S1 := Lib.hid s1
  have HGG := Lib.hid hg
  rw [hg] at hr2 hb2 ⊢
  clear s1 BX HX BB hW0 hsz hmk hg
  go_loopw [8] (fun l wr => ∃ (k : Nat) (cur : List Value), 1 ≤ k ∧ k ≤ n ∧ l = .int .i64 k ∧ Hid (cur.length = n) ∧ Hid (cur.take k = List.replicate k (.int .i64 u)) ∧ Hid (wr.heap[g]? = some (.cells cur.toArray 3 (0, 0))) ∧ Below g w1 wr) (fun l _ => n - (intOf l).toNat)
  case atStart => exact ⟨1, splice ar 0 [.int .i64 u], by omega, h1, rfl, S1.out.2, S1.out.1, hr2, hb2⟩
  case round =>
    obtain ⟨k, cur, hk1, hkn, rfl, hcl, hct, hcell, hbl2⟩ := hrel
    by_cases hlt : k < n
    · clear S1 hr2 hb2
      have hk0 : (0 : Int) ≤ (k : Int) := by omega
      have hk2 : (k : Int) ≤ (n : Int) := by omega
      have hne : ¬ n = k := by omega
      have hne' : ¬ k = n := by omega
      go_upto_region 9 with fail
      obtain ⟨d, hd⟩ : ∃ d, n - k = d := ⟨_, rfl⟩
      obtain ⟨m, hm⟩ : ∃ m, Nat.min k d = m := ⟨_, rfl⟩
      have hm0 : min k d = m := hm
      have hm1 : 1 ≤ m := by omega
      have hm2 : k + m ≤ n := by omega
      have hm3 : m ≤ k := by omega
      clear hm0
      have hsrc : ∀ j v, (List.replicate m (Value.int .i64 u))[j]? = some v → wr.cell? ((⟨g, 0, none⟩ : Addr).add j) = some v := by
        intro j v hj
        have hjm : j < m := by have := (List.getElem?_eq_some_iff.1 hj).1; simpa using this
        rw [List.getElem?_replicate, if_pos hjm] at hj
        cases hj
        rw [Addr.add_lit, Nat.zero_add]
        refine blk_cell hcell.out j ?_
        rw [List.getElem?_toArray]
        have h2 := congrArg (fun l => l[j]?) hct.out
        simp only [List.getElem?_take, List.getElem?_replicate] at h2
        rwa [if_pos (by omega), if_pos (by omega)] at h2
      have SP := Lib.hid (splice_rep (cur := cur) (x := Value.int .i64 u) (k := k) (m := m) (n := n) hcl.out hct.out hm2)
      have HSRC := Lib.hid hsrc
      have HM := Lib.hid hm
      have HBL2 := Lib.hid hbl2
      have hs1 : IntKind.i64.wrap ((k : Int) + (m : Int)) = (k : Int) + (m : Int) := IntWalk.i64_in _ (by omega)
      have HS1 := Lib.hid hs1
      clear hsrc hm hbl2 hs1
      go_region_law ((refine step_copy_splice (by rfl) (.tmp 41) (.tmp 44) 37 37 (by rfl) 3 Tryd.underlying37 size_int (some ⟨g, k, none⟩) (some ⟨g, 0, none⟩) d d k n (by simp [go_sem]) (by simp [go_sem]) g k cur 3 hcell.out (List.replicate m (.int .i64 u)) (by rw [List.length_replicate]; exact HM.out.symm) (fun _ => ⟨rfl, _, rfl, HSRC.out⟩) (by rw [List.length_replicate, hcl.out]; exact hm2) (by intro v hv; rw [List.eq_of_mem_replicate hv]; rfl) g w1 HBL2.out.drew (Nat.le_refl _) ?_; intro w3 hr3 hb3; rw [List.length_replicate]))
      all_goals
        rw [HS1.out]
        go_wp2_with fail
        go_frame
        go_roundw
        case rel =>
          (repeat apply Exists.intro)
          exact ⟨⟨k + m, splice cur k (List.replicate m (.int .i64 u)), by omega, by omega, rfl, SP.out.2, SP.out.1, hr3, hb3⟩, by first | rfl | (go_frame; rfl) | (simp [Act.put]; done)⟩
        case measure => simp [intOf]; omega
    · obtain rfl : k = n := by omega
      go_wp2_with fail
      go_ret
      refine ⟨g, rfl, by have := HGG.out; omega, ?_, by have := HGG.out; rw [this]; exact hbl2⟩
      unfold RowAt
      have e := hct.out
      rw [List.take_of_length_le (by have := hcl.out; omega)] at e
      rw [hcell.out, e]; simp
end Go.Proofs.YtdfnmapmnmecnaaDoor

/- views.Inputs. -/
namespace Go.Proofs.YtdfnmapmnmecnaaDoor
open Go.RowKit

set_option maxRecDepth 100000 in
set_option maxHeartbeats 4000000 in
theorem vinputs_any (n : Int) (A : Option Addr) (cap : Nat) (vs : List Vw) (i : Int) (w : World) (hT : TArg w A cap vs) :
    Calls Tryd.prog 18 #[.agg #[.int .i64 n, .slice A vs.length cap], .int .i64 i] w (RetPast (inputsE n vs i) w) := by
  have HT := Lib.hid hT
  have hfew := hT.few
  clear hT
  go_enter Tryd.func18, Tryd.ntmps18
  go_wp2_with fail
  obtain ⟨W0, hW0, b0, hsz, hB0⟩ := onebox w #[.int .i64 n, .slice A vs.length cap] 24
  rw [hW0]
  clear hW0
  have hI : IAt (W0.alloc (.cells #[.int .i64 i] 3)) (W0.alloc (.cells #[.int .i64 i] 3)).heap.size (some ⟨w.heap.size + 1, 0, none⟩) [i] := by have := IAt.box W0 i 3; rwa [hsz] at this
  have hbx := bel1 W0 (.cells #[.int .i64 i] 3)
  refine (vat_any n A (some ⟨w.heap.size + 1, 0, none⟩) cap 1 vs [i] (W0.alloc (.cells #[.int .i64 i] 3)) (HT.out.keep (hB0.trans (hbx.mono (by omega)))) hI (by simp)).mono ?_
  rintro e w1 ⟨rfl, hb⟩
  have d0 := (hb.block _ (by simp; omega)).trans ((hbx.block _ (by omega)).trans b0)
  have B1 : Hid (Below w.heap.size w w1) := hB0.trans ((hbx.trans (hb.mono (by simp))).mono (by omega))
  have l1 : w.heap.size < w1.heap.size := by have := hb.size; simp at this; omega
  clear hI hbx
  have t0 := blk_cell d0 0 rfl
  have t1 := blk_cell d0 1 rfl
  have HD := Lib.hid d0
  clear b0 hsz hB0 hb d0
  by_cases hc : atE n vs [i] = 0
  · have e0 : (atE n vs [i] != 0) = false := by simp [hc]
    obtain ⟨hwf, _, hin⟩ := atE_ok hc
    obtain ⟨h0, h1⟩ := hin i (by simp)
    obtain ⟨j, rfl⟩ := Int.eq_ofNat_of_zero_le h0
    have hj : j < vs.length := by omega
    obtain ⟨N, rfl⟩ := Int.eq_ofNat_of_zero_le (show 0 ≤ n by have := hwf.1; omega)
    have hn1 : 1 ≤ N := by have := hwf.1; omega
    have hn5 : N ≤ 5 := by have := hwf.2.1; omega
    have hz := Lib.hid (inputsE_yes hc)
    have HW := Lib.hid hwf
    clear hc hin hwf
    go_wp2_with fail
    obtain ⟨W4, hW4, b4, hsz4, hB4⟩ := onebox w1 #[.int .i64 (-1)] 3
    rw [hW4]
    clear hW4
    refine (repeat_any N w1.heap.size hn1 hn5 (-1) W4 b4).mono ?_
    rintro e w2 ⟨g, rfl, hgl, hrow, hb2⟩
    have B2 : Hid (Below w.heap.size w w2) := B1.out.trans ((hB4.trans (hb2.mono (by omega))).mono B1.out.size)
    have d2 := (hb2.block _ (by omega)).trans ((hB4.block _ l1).trans HD.out)
    have l2 : w.heap.size < w2.heap.size := by have := hb2.size; omega
    have hgw : w.heap.size < g := by omega
    have HROW := Lib.hid hrow
    have HD2 := Lib.hid d2
    clear t0 t1
    have t0 := blk_cell d2 0 rfl
    have t1 := blk_cell d2 1 rfl
    clear b4 hsz4 hB4 hgl hrow hb2 d2
    go_wp2_with fail
    have hI : IAt (w2.alloc (.cells #[.int .i64 (j : Int)] 3)) (w2.alloc (.cells #[.int .i64 (j : Int)] 3)).heap.size (some ⟨w2.heap.size, 0, none⟩) (castL [j]) := IAt.box w2 j 3
    have hbx := bel1 w2 (.cells #[.int .i64 (j : Int)] 3)
    have B3 := B2.out.trans (hbx.mono B2.out.size)
    refine (past_any N A (some ⟨w2.heap.size, 0, none⟩) cap 1 vs [j] _ (HT.out.keep B3) HW.out.acyc hI (by simp; omega) (by simp)).mono ?_
    rintro e W3 ⟨v3, rfl, ho3, hb3⟩
    have B4 : Hid (Below w.heap.size w W3) := B3.trans (hb3.mono B3.size)
    have hbw : Below w2.heap.size w2 W3 := hbx.trans (hb3.mono (by simp))
    have hlg : g < w2.heap.size := HROW.out.lt
    have R3 : RowAt W3 g (List.replicate N (-1)) := (hbw.block _ hlg).trans HROW.out
    have T3 := Lib.hid ((hbw.block _ l2).trans HD2.out)
    obtain ⟨P3, c3, rfl, hc31, hc32, hI3⟩ := ho3.form
    rw [castL_length] at hc31 ho3
    have sz3 := hbw.size
    have hgo : g < (w2.alloc (.cells #[.int .i64 (j : Int)] 3)).heap.size := by simp; omega
    have O3 := Lib.hid ho3
    have I3 := Lib.hid hI3
    have HR3 := Lib.hid R3
    have hll : (pastL vs [j]).length ≤ vs.length := by have := past_len vs [j]; rwa [castL_length] at this
    have hmem := Lib.hid (fun x (hx : x ∈ pastL vs [j]) => (mem_pastL.1 hx).1)
    obtain ⟨ls, hls⟩ : ∃ ls, pastL vs [j] = ls := ⟨_, rfl⟩
    rw [castL_length, hls]
    rw [hls] at hc31 I3 O3 hll hmem
    have HLS := Lib.hid hls
    clear hls ho3 hI3 t0 t1 hb3 hbw hI hbx B3 R3
    go_wp2_with fail
    go_loopw [27] (fun l wr' => ∃ k' : Nat, k' ≤ ls.length ∧ l = .int .i64 k' ∧ RowAt wr' g (knowL vs (ls.take k') (List.replicate N (-1))) ∧ W3.grownBy wr' (some g)) (fun l _ => ls.length - (intOf l).toNat)
    case atStart => exact ⟨0, by omega, rfl, by simpa [knowL] using HR3.out, World.grownBy.refl _ _⟩
    case round =>
      obtain ⟨k', hk', rfl, hrow', hgr⟩ := hrel
      have RW' := Lib.hid hrow'
      have BW : Hid (Below w.heap.size w wr) := B4.out.grown hgr (by have := B4.out.size; omega) (fun r e => by cases e; omega)
      by_cases hlt' : k' < ls.length
      · have hx := hmem.out ls[k'] (List.getElem_mem hlt')
        have hks := Lib.hid (knowL_step vs ls k' hlt' (List.replicate N (-1)))
        obtain ⟨x, hxk⟩ : ∃ x, ls[k'] = x := ⟨_, rfl⟩
        rw [hxk] at hx hks
        have hlen : (castL ls).length = ls.length := castL_length ls
        obtain ⟨b3, off3, rfl, hb3, hc3⟩ := I3.out.at_ k' (by omega)
        have hge : g + 1 ≤ b3 := by have := (O3.out.lt b3 rfl).1; omega
        have hcx : (castL ls)[k']'(by omega) = (x : Int) := by simp [castL, hxk]
        rw [hcx] at hc3
        have r3 := (World.cell?_of_block (hgr.block b3 hb3 (by simp; omega))).trans hc3
        obtain ⟨b, off, rfl, hbb, c0, c1, c2, c4, c5, c6, c7, c8⟩ := (HT.out.rows.keep BW.out).row x hx
        have t1 : wr.cell? ⟨w.heap.size, 1, none⟩ = some (.slice (some ⟨b, off, none⟩) vs.length cap) := blk_cell ((hgr.block w.heap.size (blk_lt T3.out) (by simp; omega)).trans T3.out) 1 rfl
        have hs0 : (0 : Int) ≤ (x : Int) := by omega
        have hs1 : (x : Int) < (vs.length : Int) := by omega
        have hk0 : (0 : Int) ≤ (k' : Int) := by omega
        have hk1 : (k' : Int) < (ls.length : Int) := by omega
        have HGR := Lib.hid hgr
        have HXK := Lib.hid hxk
        have HV := Lib.hid (getV_eq hx)
        clear hgr hxk hlen hcx hc3 hrow'
        go_upto_region 9 with fail
        obtain ⟨W1, hW1, z0, zsz, zB⟩ := onebox wr vs[x].cells 27
        unfold Vw.cells at hW1
        rw [hW1]
        clear hW1
        have hbg := begE_ok (HW.out.beg hx)
        obtain ⟨q, hq⟩ := Int.eq_ofNat_of_zero_le hbg.1
        have hqk : q < N := by have := hbg.2.1; omega
        have hqt : vs[x].p.toNat = q := by omega
        have zr : RowAt W1 g (knowL vs (ls.take k') (List.replicate N (-1))) := (zB.block g RW'.out.lt).trans RW'.out
        have zG : Hid (W3.grownBy W1 (some g)) := HGR.out.trans ⟨zB.os, zB.tape, zB.output, zB.size, fun j hj _ => zB.block j hj⟩
        have y0 : W1.cell? ⟨wr.heap.size, 0, none⟩ = some (.int .i64 (q : Int)) := by rw [← hq]; exact blk_cell z0 0 rfl
        have y1 : W1.cell? ⟨wr.heap.size, 1, none⟩ = some (.int .i64 vs[x].r) := blk_cell z0 1 rfl
        have y2 : W1.cell? ⟨wr.heap.size, 2, none⟩ = some (.int .i64 vs[x].i) := blk_cell z0 2 rfl
        have hkl : (knowL vs (ls.take k') (List.replicate N (-1))).length = N := by rw [knowL_length]; simp
        obtain ⟨u0, r0⟩ : ∃ u : Int, W1.cell? ⟨g, q, none⟩ = some (.int .i64 u) := ⟨_, zr.cell q (by omega)⟩
        have f0 := zr.froz q
        have l0 := zr.lt
        have ZR := Lib.hid zr
        have HQT := Lib.hid hqt
        have hq0 : (0 : Int) ≤ (q : Int) := by omega
        have hq1 : (q : Int) < (N : Int) := by omega
        clear z0 zB zsz hbg hq hqt zr t1 r3 c0 c1 c2 c4 c5 c6 c7 c8 hkl
        by_cases hr : vs[x].r = 0
        · have e1 : (vs[x].r == 0) = true := by simp [hr]
          have hst : Hid (knowL vs (ls.take (k' + 1)) (List.replicate N (-1)) = (knowL vs (ls.take k') (List.replicate N (-1))).set q vs[x].i) := by
            show _ = _; rw [hks.out, HV.out, if_pos hr, HQT.out]
          clear hr
          go_wp2_with fail
          go_roundw
          case rel => exact ⟨k' + 1, by omega, by go_num, by rw [hst.out]; exact ZR.out.set q _, zG.out.trans (grown_setk _ g q _)⟩
          case measure => simp [intOf]; omega
        · have e1 : (vs[x].r == 0) = false := by simp [hr]
          have hst : Hid (knowL vs (ls.take (k' + 1)) (List.replicate N (-1)) = knowL vs (ls.take k') (List.replicate N (-1))) := by
            show _ = _; rw [hks.out, HV.out, if_neg hr]
          clear hr
          go_wp2_with fail
          go_roundw
          case rel => exact ⟨k' + 1, by omega, by go_num, by rw [hst.out]; exact ZR.out, zG.out⟩
          case measure => simp [intOf]; omega
      · obtain rfl : k' = ls.length := by omega
        go_wp2_with fail
        go_ret2
        have hkl : (knowL vs ls (List.replicate N (-1))).length = N := by rw [knowL_length]; simp
        have hro := RW'.out
        rw [List.take_length] at hro
        have hown := hro.own (base := w.heap.size) (by omega) (by rw [hkl]; unfold maxLen; omega)
        rw [hkl] at hown
        refine RetPast.of (hz.out.trans ?_) hown BW.out
        rw [HLS.out]
  · have e0 : (atE n vs [i] != 0) = true := by simpa using hc
    have hz := Lib.hid (inputsE_bad hc)
    clear hc
    go_wp2_with fail
    go_ret2
    exact RetPast.of hz.out (Own.nil _ _) B1.out
end Go.Proofs.YtdfnmapmnmecnaaDoor

/- A region that draws its order, proved operation by operation: an invariant over the set of what has been done, in place of a way for each order. No program in sight. -/
namespace Go.Proofs.YtdfnmapmnmecnaaDoor
open Go.RowKit

/-- The set l, and i. -/
def upd (l : Nat → Bool) (i : Nat) : Nat → Bool := fun j => j == i || l j
theorem upd_self (l : Nat → Bool) (i : Nat) : upd l i i = true := by simp [upd]
theorem upd_ne {l : Nat → Bool} {i j : Nat} (h : j ≠ i) : upd l i j = l j := by simp [upd, h]
theorem upd_true {l : Nat → Bool} {i j : Nat} (h : l j = true) : upd l i j = true := by simp [upd, h]

def dstOf (ops : Array Oper) (j : Nat) : Option Tmp := (ops[j]?).bind (·.dst)
/-- The activation once what l names has been done, the values being val. -/
def doneOn (ops : Array Oper) (l : Nat → Bool) (val : Nat → Value) (L : List Nat) (a : Act) : Act := L.foldl (fun a j => if l j then a.put (dstOf ops j) (val j) else a) a

theorem Act.put_put_comm (a : Act) {x y : Option Tmp} (v u : Value) (h : ∀ d, x = some d → y ≠ some d) : (a.put x v).put y u = (a.put y u).put x v := Act.put_comm a v u h

theorem doneOn_put {ops : Array Oper} {l : Nat → Bool} {val : Nat → Value} {x : Option Tmp} (v : Value) :
    ∀ (L : List Nat) (a : Act), (∀ j ∈ L, ∀ d, x = some d → dstOf ops j ≠ some d) → doneOn ops l val L (a.put x v) = (doneOn ops l val L a).put x v
  | [], _, _ => rfl
  | j :: L, a, h => by
    have hj : ∀ d, x = some d → dstOf ops j ≠ some d := h j (by simp)
    have hL : ∀ k ∈ L, ∀ d, x = some d → dstOf ops k ≠ some d := fun k hk => h k (by simp [hk])
    show doneOn ops l val L (if l j then (a.put x v).put (dstOf ops j) (val j) else a.put x v) = (doneOn ops l val L (if l j then a.put (dstOf ops j) (val j) else a)).put x v
    by_cases hl : l j = true
    · rw [if_pos hl, if_pos hl, Act.put_put_comm a v (val j) hj]
      exact doneOn_put v L _ hL
    · rw [if_neg hl, if_neg hl]
      exact doneOn_put v L _ hL

theorem doneOn_congr {ops : Array Oper} {l l' : Nat → Bool} {val val' : Nat → Value} :
    ∀ (L : List Nat) (a : Act), (∀ j ∈ L, l' j = l j ∧ (l j = true → val' j = val j)) → doneOn ops l' val' L a = doneOn ops l val L a
  | [], _, _ => rfl
  | j :: L, a, h => by
    have hj := h j (by simp)
    show doneOn ops l' val' L (if l' j then a.put (dstOf ops j) (val' j) else a) = doneOn ops l val L (if l j then a.put (dstOf ops j) (val j) else a)
    rw [hj.1]
    by_cases hl : l j = true
    · rw [if_pos hl, if_pos hl, hj.2 hl]
      exact doneOn_congr L _ (fun k hk => h k (by simp [hk]))
    · rw [if_neg hl, if_neg hl]
      exact doneOn_congr L _ (fun k hk => h k (by simp [hk]))

theorem doneOn_step {ops : Array Oper} {l : Nat → Bool} {val val' : Nat → Value} {i : Nat} :
    ∀ (L : List Nat) (a : Act), L.Nodup → i ∈ L → l i = false → (∀ j ∈ L, j ≠ i → ∀ d, dstOf ops i = some d → dstOf ops j ≠ some d) → (∀ j, l j = true → val' j = val j) →
      doneOn ops (upd l i) val' L a = (doneOn ops l val L a).put (dstOf ops i) (val' i)
  | [], _, _, h, _, _, _ => by cases h
  | j :: L, a, hn, hi, hli, hd, hv => by
    obtain ⟨hj, hn'⟩ := List.nodup_cons.1 hn
    by_cases e : j = i
    · subst e
      show doneOn ops (upd l j) val' L (if upd l j j then a.put (dstOf ops j) (val' j) else a) = (doneOn ops l val L (if l j then a.put (dstOf ops j) (val j) else a)).put (dstOf ops j) (val' j)
      rw [upd_self, if_pos rfl, hli]
      rw [doneOn_congr (l := l) (l' := upd l j) (val := val) (val' := val') L (a.put (dstOf ops j) (val' j)) (fun k hk => ⟨upd_ne (by rintro rfl; exact hj hk), hv k⟩)]
      rw [if_neg (by simp)]
      exact doneOn_put _ L a (fun k hk => hd k (by simp [hk]) (fun e => hj (e ▸ hk)))
    · have hi' : i ∈ L := by
        rcases List.mem_cons.1 hi with h | h
        · exact absurd h.symm e
        · exact h
      show doneOn ops (upd l i) val' L (if upd l i j then a.put (dstOf ops j) (val' j) else a) = (doneOn ops l val L (if l j then a.put (dstOf ops j) (val j) else a)).put (dstOf ops i) (val' i)
      rw [upd_ne e]
      by_cases hl : l j = true
      · rw [if_pos hl, if_pos hl, hv j hl]
        exact doneOn_step L _ hn' hi' hli (fun k hk => hd k (by simp [hk])) hv
      · rw [if_neg hl, if_neg hl]
        exact doneOn_step L _ hn' hi' hli (fun k hk => hd k (by simp [hk])) hv

theorem put_size (a : Act) (x : Option Tmp) (v : Value) : (a.put x v).tmps.size = a.tmps.size := by cases x <;> simp [Act.put]
theorem put_defers (a : Act) (x : Option Tmp) (v : Value) : (a.put x v).defers = a.defers := by cases x <;> rfl
theorem put_get_ne (a : Act) {x : Option Tmp} (v : Value) {k : Nat} (h : x ≠ some k) : (a.put x v).tmps[k]? = a.tmps[k]? := by
  cases x with
  | none => rfl
  | some d => exact Array.getElem?_setIfInBounds_ne (fun e => h (by rw [e]))
theorem put_get (a : Act) (v : Value) {k : Nat} (h : k < a.tmps.size) : (a.put (some k) v).tmps[k]? = some v := by simp [Act.put, h]

theorem doneOn_defers {ops : Array Oper} {l : Nat → Bool} {val : Nat → Value} : ∀ (L : List Nat) (a : Act), (doneOn ops l val L a).defers = a.defers
  | [], _ => rfl
  | j :: L, a => by
    show (doneOn ops l val L (if l j then a.put (dstOf ops j) (val j) else a)).defers = a.defers
    rw [doneOn_defers L]
    split
    · exact put_defers _ _ _
    · rfl
theorem doneOn_old {ops : Array Oper} {l : Nat → Bool} {val : Nat → Value} {k : Nat} : ∀ (L : List Nat) (a : Act), (∀ j ∈ L, dstOf ops j ≠ some k) → (doneOn ops l val L a).tmps[k]? = a.tmps[k]?
  | [], _, _ => rfl
  | j :: L, a, h => by
    show (doneOn ops l val L (if l j then a.put (dstOf ops j) (val j) else a)).tmps[k]? = a.tmps[k]?
    rw [doneOn_old L _ (fun i hi => h i (by simp [hi]))]
    split
    · exact put_get_ne _ _ (h j (by simp))
    · rfl
theorem doneOn_new {ops : Array Oper} {l : Nat → Bool} {val : Nat → Value} {k i : Nat} (hl : l i = true) (hd : dstOf ops i = some k) :
    ∀ (L : List Nat) (a : Act), L.Nodup → i ∈ L → (∀ j ∈ L, j ≠ i → dstOf ops j ≠ some k) → k < a.tmps.size → (doneOn ops l val L a).tmps[k]? = some (val i)
  | [], _, _, h, _, _ => by cases h
  | j :: L, a, hn, hi, h, hk => by
    obtain ⟨hj, hn'⟩ := List.nodup_cons.1 hn
    show (doneOn ops l val L (if l j then a.put (dstOf ops j) (val j) else a)).tmps[k]? = some (val i)
    by_cases e : j = i
    · subst e
      rw [hl, if_pos rfl, doneOn_old L _ (fun q hq => h q (by simp [hq]) (fun e => hj (e ▸ hq))), hd]
      exact put_get a _ hk
    · have hi' : i ∈ L := by
        rcases List.mem_cons.1 hi with h' | h'
        · exact absurd h'.symm e
        · exact h'
      refine doneOn_new hl hd L _ hn' hi' (fun q hq => h q (by simp [hq])) ?_
      split
      · rw [put_size]; exact hk
      · exact hk

/-- What is known of the activation at a step: slots of what has been done hold the values, all other slots what they held. -/
structure Agr (ops : Array Oper) (a0 : Act) (l : Nat → Bool) (val : Nat → Value) (a : Act) : Prop where
  new : ∀ (i k : Nat), dstOf ops i = some k → l i = true → k < a0.tmps.size → a.eval (.tmp k) = val i
  old : ∀ (k : Nat), (List.range ops.size).all (fun j => dstOf ops j != some k) = true → a.eval (.tmp k) = a0.eval (.tmp k)

theorem eval_tmp (a : Act) (k : Nat) : a.eval (.tmp k) = (a.tmps[k]?).getD undef := by simp [Act.eval]
/-- The same in the walk's spelling. -/
theorem Agr.newD {ops : Array Oper} {a0 : Act} {l : Nat → Bool} {val : Nat → Value} {a : Act} (h : Agr ops a0 l val a) (i k : Nat) (hd : dstOf ops i = some k) (hl : l i = true) (hk : k < a0.tmps.size) : (a.tmps[k]?).getD undef = val i := (eval_tmp a k).symm.trans (h.new i k hd hl hk)
theorem Agr.oldD {ops : Array Oper} {a0 : Act} {l : Nat → Bool} {val : Nat → Value} {a : Act} (h : Agr ops a0 l val a) (k : Nat) (hd : (List.range ops.size).all (fun j => dstOf ops j != some k) = true) : (a.tmps[k]?).getD undef = a0.eval (.tmp k) := (eval_tmp a k).symm.trans (h.old k hd)

section
variable {P : Program} {G : Type}

/-- One operation's step. -/
def StepAt (P : Program) (ops : Array Oper) (Q : Exit → Act → World → Prop) (a0 : Act) (val : G → Nat → Value) (J : (Nat → Bool) → G → World → Prop) (i : Nat) (o : Oper) : Prop :=
  ∀ (l : Nat → Bool) (g : G) (w : World) (a : Act), J l g w → l i = false → (∀ e ∈ o.after.toList, Region.binds .any e = true → l e.on = true) → Agr ops a0 l (val g) a →
    if Region.wanted o (yielded ops a.tmps) then o.wp P a w (fun a' w' => ∃ g' v, a' = a.put o.dst v ∧ val g' i = v ∧ (∀ j, l j = true → val g' j = val g j) ∧ J (upd l i) g' w') Q
    else ∃ g', val g' i = undef ∧ (∀ j, l j = true → val g' j = val g j) ∧ J (upd l i) g' w
def StepsFrom (P : Program) (ops : Array Oper) (Q : Exit → Act → World → Prop) (a0 : Act) (val : G → Nat → Value) (J : (Nat → Bool) → G → World → Prop) : Nat → List Oper → Prop
  | _, [] => True
  | i, o :: rest => StepAt P ops Q a0 val J i o ∧ StepsFrom P ops Q a0 val J (i + 1) rest
theorem StepsFrom.at_ {ops : Array Oper} {Q : Exit → Act → World → Prop} {a0 : Act} {val : G → Nat → Value} {J : (Nat → Bool) → G → World → Prop} :
    ∀ (n : Nat) (os : List Oper), StepsFrom P ops Q a0 val J n os → ∀ i o, os[i]? = some o → StepAt P ops Q a0 val J (n + i) o
  | _, [], _, i, o, h => by simp at h
  | n, o' :: os, h, 0, o, ho => by
    simp at ho
    subst ho
    exact h.1
  | n, o' :: os, h, i + 1, o, ho => by
    have := StepsFrom.at_ (n + 1) os h.2 i o (by simpa using ho)
    rwa [show n + (i + 1) = n + 1 + i from by omega]

/-- The edges lead to earlier operations, and no two write one slot. -/
def dagB (ops : Array Oper) : Bool :=
  (List.range ops.size).all fun i => match ops[i]? with
    | some o => o.after.toList.all (fun e => !Region.binds .any e || decide (e.on < i)) && (List.range ops.size).all (fun j => j == i || o.dst.isNone || dstOf ops j != o.dst)
    | none => true
theorem dag_edge {ops : Array Oper} (h : dagB ops = true) {i : Nat} {o : Oper} (ho : ops[i]? = some o) : ∀ e ∈ o.after.toList, Region.binds .any e = true → e.on < i := by
  intro e he hb
  have hi : i < ops.size := (Array.getElem?_eq_some_iff.1 ho).1
  have := List.all_eq_true.1 h i (by simpa using hi)
  simp only [ho, Bool.and_eq_true] at this
  have := List.all_eq_true.1 this.1 e he
  simpa [hb] using this
theorem dag_dst {ops : Array Oper} (h : dagB ops = true) {i j d : Nat} (hij : j ≠ i) (hj : j < ops.size) (hd : dstOf ops i = some d) : dstOf ops j ≠ some d := by
  unfold dstOf at hd
  cases ho : ops[i]? with
  | none => simp [ho] at hd
  | some o =>
    simp [ho] at hd
    have hi : i < ops.size := (Array.getElem?_eq_some_iff.1 ho).1
    have h1 := List.all_eq_true.1 h i (by simpa using hi)
    simp only [ho, Bool.and_eq_true] at h1
    have h2 := List.all_eq_true.1 h1.2 j (by simpa using hj)
    simpa [hij, hd] using h2

/-- How many of the first n are not yet in l. -/
def openN (l : Nat → Bool) (n : Nat) : Nat := ((List.range n).filter fun j => !l j).length
theorem filter_len_lt {α : Type} {p q : α → Bool} (h : ∀ x, q x = true → p x = true) : ∀ (L : List α) (x : α), x ∈ L → p x = true → q x = false → (L.filter q).length < (L.filter p).length
  | [], _, hx, _, _ => by cases hx
  | y :: L, x, hx, hp, hq => by
    have hle : ∀ L : List α, (L.filter q).length ≤ (L.filter p).length := by
      intro L
      induction L with
      | nil => simp
      | cons z L ih =>
        rw [List.filter_cons, List.filter_cons]
        by_cases hz : q z = true
        · rw [if_pos hz, if_pos (h z hz)]; simpa using ih
        · rw [if_neg hz]
          split
          · simp only [List.length_cons]; omega
          · exact ih
    rw [List.filter_cons, List.filter_cons]
    rcases List.mem_cons.1 hx with rfl | hx
    · rw [hp, hq]
      have := hle L
      simp; omega
    · have ih := filter_len_lt h L x hx hp hq
      by_cases hz : q y = true
      · rw [if_pos hz, if_pos (h y hz)]; simpa using ih
      · rw [if_neg hz]
        split
        · simp only [List.length_cons]; omega
        · exact ih
theorem openN_upd {l : Nat → Bool} {n i : Nat} (hi : i < n) (hl : l i = false) : openN (upd l i) n < openN l n := by
  unfold openN
  refine filter_len_lt (fun x hx => ?_) _ i (by simpa using hi) (by simp [hl]) (by simp [upd])
  simp [upd] at hx ⊢
  exact hx.2
theorem openN_zero {l : Nat → Bool} {n : Nat} (h : openN l n = 0) {i : Nat} (hi : i < n) : l i = true := by
  unfold openN at h
  have := List.length_eq_zero_iff.1 h
  rw [List.filter_eq_nil_iff] at this
  simpa using this i (by simpa using hi)

theorem wpAny_dag {ops : Array Oper} {Q : Exit → Act → World → Prop} {a0 : Act} {val : G → Nat → Value} {J : (Nat → Bool) → G → World → Prop} (hd : dagB ops = true)
    (hs : StepsFrom P ops Q a0 val J 0 ops.toList)
    (hend : ∀ (l : Nat → Bool) (g : G) (w : World), (∀ i, i < ops.size → l i = true) → J l g w → Q .normal (doneOn ops (fun _ => true) (val g) (List.range ops.size) a0) w) :
    ∀ (fuel : Nat) (listed : Array Bool) (l : Nat → Bool) (g : G) (w : World), openN l ops.size ≤ fuel → listed.size = ops.size → (∀ i, i < ops.size → listed.getD i true = l i) → J l g w →
      wpAny P .any ops Q fuel listed (doneOn ops l (val g) (List.range ops.size) a0) w := by
  have fin : ∀ (listed : Array Bool) (l : Nat → Bool) (g : G) (w : World), listed.size = ops.size → (∀ i, i < ops.size → listed.getD i true = l i) → J l g w → (∀ i, i < ops.size → l i = true) →
      Region.ready .any ops listed = [] ∧ Q .normal (doneOn ops l (val g) (List.range ops.size) a0) w := by
    intro listed l g w hsz hl hJ hall
    refine ⟨?_, ?_⟩
    · refine List.eq_nil_iff_forall_not_mem.2 fun i hi => ?_
      obtain ⟨h0, o, ho, _⟩ := mem_ready.1 hi
      have hlt : i < ops.size := (Array.getElem?_eq_some_iff.1 ho).1
      rw [hl i hlt, hall i hlt] at h0
      cases h0
    · have := hend l g w hall hJ
      rwa [doneOn_congr (l := l) (val := val g) _ _ (fun j hj => ⟨(hall j (by simpa using hj)).symm, fun _ => rfl⟩)] at this
  intro fuel
  induction fuel with
  | zero =>
    intro listed l g w hf hsz hl hJ
    exact fin listed l g w hsz hl hJ (fun i hi => openN_zero (by omega) hi)
  | succ fuel ih =>
    intro listed l g w hf hsz hl hJ
    refine ⟨fun hr => ?_, fun i hi => ?_⟩
    · refine (fin listed l g w hsz hl hJ fun i hi => ?_).2
      -- the least that is not in l would be ready
      refine Nat.strongRecOn (motive := fun i => i < ops.size → l i = true) i (fun i IH hi => ?_) hi
      cases hli : l i with
      | true => rfl
      | false =>
        have : i ∈ Region.ready .any ops listed := by
          refine mem_ready.2 ⟨by rw [hl i hi, hli], ops[i], by simp [hi], fun e he hb => ?_⟩
          have hlt := dag_edge hd (o := ops[i]) (i := i) (by simp [hi]) e (by simpa using he) hb
          have h1 := IH e.on hlt (by omega)
          rw [← hl e.on (by omega)] at h1
          have h2 : e.on < listed.size := by omega
          simpa [Array.getD, h2] using h1
        rw [hr] at this
        cases this
    · obtain ⟨h0, o, ho, hall⟩ := mem_ready.1 hi
      have hlt : i < ops.size := (Array.getElem?_eq_some_iff.1 ho).1
      have hli : l i = false := by rw [← hl i hlt]; exact h0
      have hst := StepsFrom.at_ 0 ops.toList hs i o (by simpa using ho)
      rw [Nat.zero_add] at hst
      have hagr : Agr ops a0 l (val g) (doneOn ops l (val g) (List.range ops.size) a0) := by
        refine ⟨fun j k hj hlj hk => ?_, fun k hk => ?_⟩
        · have hjs : j < ops.size := by
            unfold dstOf at hj
            rcases Nat.lt_or_ge j ops.size with h | h
            · exact h
            · simp [Array.getElem?_eq_none h] at hj
          have := doneOn_new (val := val g) hlj hj (List.range ops.size) a0 List.nodup_range (by simpa using hjs) (fun q hq hqj => dag_dst hd hqj (by simpa using hq) hj) hk
          simp [Act.eval, Array.getD_eq_getD_getElem?, this]
        · have := doneOn_old (ops := ops) (l := l) (val := val g) (k := k) (List.range ops.size) a0 (fun j hj => by have := List.all_eq_true.1 hk j hj; simpa using this)
          simp only [Act.eval, Array.getD_eq_getD_getElem?, this]
      have hst' := hst l g w _ hJ hli (fun e he hb => by
        have h1 := hall e (by simpa using he) hb
        have hlt' := dag_edge hd ho e he hb
        rw [← hl e.on (by omega)]
        have h2 : e.on < listed.size := by omega
        simpa [Array.getD, h2] using h1) hagr
      have hdst : dstOf ops i = o.dst := by simp [dstOf, ho]
      have go : ∀ (g' : G) (w' : World) (v : Value), val g' i = v → (∀ j, l j = true → val g' j = val g j) → J (upd l i) g' w' →
          wpAny P .any ops Q fuel (listed.setIfInBounds i true) ((doneOn ops l (val g) (List.range ops.size) a0).put o.dst v) w' := by
        intro g' w' v hv hval hJ'
        have e := doneOn_step (ops := ops) (l := l) (val := val g) (val' := val g') (i := i) (List.range ops.size) a0 List.nodup_range (by simpa using hlt) hli
          (fun j hj hji d hd' => dag_dst hd hji (by simpa using hj) hd') hval
        rw [hv, hdst] at e
        rw [← e]
        refine ih (listed.setIfInBounds i true) (upd l i) g' w' ?_ (by simpa using hsz) (fun j hj => ?_) hJ'
        · have := openN_upd hlt hli; omega
        · by_cases hji : j = i
          · subst hji
            rw [upd_self]
            have : j < listed.size := by omega
            simp [Array.getD, this]
          · rw [upd_ne hji, ← hl j hj]
            exact getD_set_ne true (fun e => hji e.symm)
      unfold wpOp
      simp only [ho]
      split
      · rename_i hw
        rw [if_pos hw] at hst'
        refine .inl (Oper.wp_mono (fun a' w' h => ?_) hst')
        obtain ⟨g', v, rfl, hv, hval, hJ'⟩ := h
        exact go g' w' v hv hval hJ'
      · rename_i hw
        rw [if_neg hw] at hst'
        obtain ⟨g', hv, hval, hJ'⟩ := hst'
        exact go g' w undef hv hval hJ'

/-- The law: at a region that draws its order. -/
theorem wp_region_dag {ops : Array Oper} {Q : Exit → Act → World → Prop} {a0 : Act} {w0 : World} {id : Nat} (hm : P.follows .mixedOrders = true) (val : G → Nat → Value) (J : (Nat → Bool) → G → World → Prop)
    (hd : dagB ops = true) (g0 : G) (h0 : J (fun _ => false) g0 w0.drew) (hs : StepsFrom P ops Q a0 val J 0 ops.toList)
    (hend : ∀ (l : Nat → Bool) (g : G) (w : World), (∀ i, i < ops.size → l i = true) → J l g w → Q .normal (doneOn ops (fun _ => true) (val g) (List.range ops.size) a0) w) :
    (Code.region id ops true).wp P Q a0 w0 := by
  refine wp_region_any hm ?_
  have := wpAny_dag hd hs hend ops.size (Array.replicate ops.size false) (fun _ => false) g0 w0.drew (by unfold openN; exact Nat.le_trans (List.length_filter_le _ _) (by simp)) (by simp)
    (fun i hi => by simp [Array.getD, hi]) h0
  have e : doneOn ops (fun _ => false) (val g0) (List.range ops.size) a0 = a0 := by
    generalize List.range ops.size = L
    induction L with
    | nil => rfl
    | cons j L ih => exact ih
  rw [e] at this
  exact this

end

/-- The values put one after the other. -/
def putsL : List (Option Tmp) → (Nat → Value) → Nat → Act → Act
  | [], _, _, a => a
  | d :: D, v, i, a => putsL D v (i + 1) (a.put d (v i))
theorem putsL_nil (v : Nat → Value) (i : Nat) (a : Act) : putsL [] v i a = a := rfl
theorem putsL_cons (d : Option Tmp) (D : List (Option Tmp)) (v : Nat → Value) (i : Nat) (a : Act) : putsL (d :: D) v i a = putsL D v (i + 1) (a.put d (v i)) := rfl
theorem doneOn_puts (ops : Array Oper) (val : Nat → Value) : ∀ (n i : Nat) (a : Act), i + n = ops.size → doneOn ops (fun _ => true) val (List.range' i n) a = putsL ((ops.toList.drop i).map (·.dst)) val i a
  | 0, i, a, h => by
    have : ops.toList.drop i = [] := List.drop_eq_nil_of_le (by simp; omega)
    rw [this]; rfl
  | n + 1, i, a, h => by
    have hi : i < ops.toList.length := by simp; omega
    rw [List.drop_eq_getElem_cons hi, List.map_cons, putsL_cons, List.range'_succ]
    have e : dstOf ops i = ops.toList[i].dst := by simp [dstOf, show i < ops.size by omega]
    rw [← e]
    exact doneOn_puts ops val n (i + 1) _ (by omega)
theorem doneOn_putsL {ops : Array Oper} {val : Nat → Value} {D : List (Option Tmp)} (hD : ops.toList.map (·.dst) = D) (a : Act) : doneOn ops (fun _ => true) val (List.range ops.size) a = putsL D val 0 a := by
  rw [List.range_eq_range', doneOn_puts ops val ops.size 0 a (by omega), List.drop_zero, hD]
end Go.Proofs.YtdfnmapmnmecnaaDoor
