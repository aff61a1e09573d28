/- Part Cont. Part Conts. Part Finds. Part Plain. Part AppV. Part Put. What each part says stands at its head; no part has a condition beyond its own statements. -/
import Derived.Test.YtdfnmapmnmecnaaDoorProg
import Derived.Test.YtdfnmapmnmecnaaDoorMf
import Derived.Deep.QuietTactic
import Derived.BigQuiet
import Derived.Deep.RegionHeld3
import Derived.StillTactics
import Derived.Test.YtdfnmapmnmecnaaDoorMd
import Derived.Deep.AppendLies
import Derived.StillTailTactics
import Derived.Laws.Pointers
import Derived.Deep.RegionLaw
import Derived.Deep.DeepCutAuto

/- Does a view continue another one: plain law; ref22.After. -/
namespace Go.Proofs.YtdfnmapmnmecnaaDoor
open Go.RowKit

def ownN (v : Vw) : Nat := (v.h v.p.toNat).toNat
def contB (vs : List Vw) : Nat → Nat → Nat → Bool
  | 0, i, j => i == j
  | f + 1, i, j => i == j || (decide (0 < (getV vs j).r) && contB vs f i (ownN (getV vs j)))
def cont (vs : List Vw) (i j : Nat) : Bool := contB vs j i j

theorem own_row {n : Int} {vs : List Vw} (h : Wf n vs) {j : Nat} (hj : j < vs.length) (hr : vs[j].r ≠ 0) : ∃ q c : Nat, q < 5 ∧ vs[j].p = (q : Int) ∧ vs[j].h q = (c : Int) ∧ c < j ∧ ownN (getV vs j) = c := by
  have hc := (rowE_ok (h.2.2 j hj)).1
  rw [getV_eq hj] at hc
  obtain ⟨hb, hl⟩ := checkE_ok hc
  obtain ⟨h1, h2, _⟩ := hl hr
  have hbo := begE_ok hb
  obtain ⟨q, hq⟩ := Int.eq_ofNat_of_zero_le hbo.1
  have hqt : vs[j].p.toNat = q := by omega
  have hq5 : q < 5 := by have := hbo.2.1; have := h.2.1; omega
  rw [hqt] at h2
  obtain ⟨h3, h4, _⟩ := linkE_ok (h1 q hq5) h2
  obtain ⟨c, hc'⟩ := Int.eq_ofNat_of_zero_le h3
  refine ⟨q, c, hq5, hq, hc', ?_, ?_⟩
  · rw [hc'] at h4; simp at h4; omega
  · unfold ownN; rw [getV_eq hj, hqt, hc']; simp

theorem contB_fuel {n : Int} {vs : List Vw} (h : Wf n vs) (i : Nat) : ∀ (j f : Nat), j < vs.length → j ≤ f → contB vs f i j = contB vs j i j := by
  intro j
  induction j using Nat.strongRecOn with
  | _ j ih =>
    intro f hj hf
    by_cases hr : vs[j].r = 0
    · have hg : (getV vs j).r = 0 := by rw [getV_eq hj]; exact hr
      cases f with
      | zero => obtain rfl : j = 0 := by omega
                rfl
      | succ f => cases j with
        | zero => simp [contB, hg]
        | succ j => simp [contB, hg]
    · obtain ⟨q, c, _, _, _, hcj, ho⟩ := own_row h hj hr
      cases f with
      | zero => omega
      | succ f => cases j with
        | zero => omega
        | succ j =>
          simp only [contB, ho]
          rw [ih c hcj f (by omega) (by omega), ih c hcj j (by omega) (by omega)]
theorem cont_step {n : Int} {vs : List Vw} (h : Wf n vs) (i : Nat) {j : Nat} (hj : j < vs.length) : cont vs i j = (i == j || (decide (0 < vs[j].r) && cont vs i (ownN (getV vs j)))) := by
  unfold cont
  by_cases hr : vs[j].r = 0
  · have hg : (getV vs j).r = 0 := by rw [getV_eq hj]; exact hr
    cases j with
    | zero => simp [contB, hr]
    | succ j => simp [contB, hg, hr]
  · obtain ⟨q, c, _, _, _, hcj, ho⟩ := own_row h hj hr
    cases j with
    | zero => omega
    | succ j =>
      conv => lhs; unfold contB
      rw [ho, contB_fuel h i c j (by omega) (by omega), getV_eq hj]

set_option maxRecDepth 100000 in
set_option maxHeartbeats 4000000 in
theorem after_any (n : Int) (A : Option Addr) (cap : Nat) (vs : List Vw) (hw : Wf n vs) (i : Nat) (_hi : i < vs.length) : ∀ (j : Nat), j < vs.length → ∀ w : World, TArg w A cap vs →
    Calls Tryd.prog 59 #[.agg #[.int .i64 n, .slice A vs.length cap], .int .i64 i, .int .i64 j] w fun e w' => e = .returned (.bool (cont vs i j)) ∧ Below w.heap.size w w' := by
  intro j
  induction j using Nat.strongRecOn with
  | _ j ih =>
  intro hj w hT
  have HT := Lib.hid hT
  have HW := Lib.hid hw
  have hfew := hT.few
  have IH := Lib.hid ih
  have hst := cont_step hw i hj
  clear hT hw ih
  go_enter Tryd.func59, Tryd.ntmps59
  by_cases hij : i = j
  · have e0 : ((i : Int) == (j : Int)) = true := by simp [hij]
    have hz : Hid (cont vs i j = true) := by show _ = _; rw [hst]; simp [hij]
    have HB := bel1 w
    clear hij hst
    go_wp2_with fail
    go_ret
    exact ⟨ret_bool hz.out.symm, HB _⟩
  · have e0 : ((i : Int) == (j : Int)) = false := by simp; omega
    have hst2 : cont vs i j = (decide (0 < vs[j].r) && cont vs i (ownN (getV vs j))) := by rw [hst]; simp [hij]
    have HS := Lib.hid hst2
    clear hst hst2 hij
    go_upto_region 3 with fail
    obtain ⟨W0, hW0, b0, hsz, hB0⟩ := onebox w #[.int .i64 n, .slice A vs.length cap] 24
    rw [hW0]
    clear hW0
    have t1 := blk_cell b0 1 rfl
    have l1 : w.heap.size < W0.heap.size := by omega
    obtain ⟨b, off, rfl, hb1, c0, c1, c2, c3, c4, c5, c6, c7⟩ := (HT.out.rows.keep hB0).row j hj
    have hb2 : b < W0.heap.size := by omega
    have B0 := Lib.hid hB0
    have G0 := Lib.hid b0
    clear hB0 b0 hsz
    go_upto_region 4 with fail
    refine wp_one ?_
    intro W1 g0 hsz1 hB1
    have g1 : W1.heap[W0.heap.size]? = some (.cells vs[j].cells 27 (0, 0)) := g0
    have x1 : W1.cell? ⟨W0.heap.size, 1, none⟩ = some (.int .i64 vs[j].r) := blk_cell g1 1 rfl
    have B2 : Hid (Below w.heap.size w W1) := B0.out.trans (hB1.mono B0.out.size)
    have G1 := Lib.hid ((hB1.block _ l1).trans G0.out)
    by_cases hr : 0 < vs[j].r
    · have e1 : decide (0 < vs[j].r) = true := by simpa using hr
      obtain ⟨q, c, hq5, hp, hh, hcj, ho⟩ := own_row HW.out hj (by omega)
      have hz : Hid (cont vs i j = cont vs i c) := by show _ = _; rw [HS.out, e1, ho]; rfl
      have y0 : W1.cell? ⟨W0.heap.size, 0, none⟩ = some (.int .i64 (q : Int)) := by rw [← hp]; exact blk_cell g1 0 rfl
      have y3 : W1.cell? ⟨W0.heap.size, 3 + q, none⟩ = some (.int .i64 (c : Int)) := by rw [← hh]; exact blk_cell g1 (3 + q) (vs[j].cells_h q hq5)
      have s0 := blk_cell G1.out 0 rfl
      have s1 := blk_cell G1.out 1 rfl
      have hcl : c < vs.length := by omega
      have hT1 := HT.out.keep B2.out
      have HTX : Hid (∀ X : World, Below W1.heap.size W1 X → TArg X (some ⟨b, off, none⟩) cap vs) := fun X hX => hT1.keep hX
      have hg1 : W0.heap.size < W1.heap.size := by omega
      have hg2 : w.heap.size < W1.heap.size := by omega
      clear g0 g1 hsz1 hB1 c0 c1 c2 c3 c4 c5 c6 c7 t1 hr hp hh ho hT1
      have hi0 : (0 : Int) ≤ (q : Int) := by omega
      have hi5 : (q : Int) < 5 := by omega
      have hi6 : (q : Int) < ((5 : Nat) : Int) := by omega
      go_region_held3 (fun w' => w'.cell? ⟨w.heap.size, 0, none⟩ = some (.int .i64 n) ∧ w'.cell? ⟨w.heap.size, 1, none⟩ = some (.slice (some ⟨b, off, none⟩) vs.length cap) ∧ w'.cell? ⟨W0.heap.size, 0, none⟩ = some (.int .i64 (q : Int)) ∧
          w'.cell? ⟨W0.heap.size, 1, none⟩ = some (.int .i64 vs[j].r) ∧ w'.cell? ⟨W0.heap.size, 3 + q, none⟩ = some (.int .i64 (c : Int)))
        (first
          | exact ⟨s0, s1, y0, x1, y3⟩
          | exact ⟨((belU hb2).cell hg2).trans s0, ((belU hb2).cell hg2).trans s1, ((belU hb2).cell hg1).trans y0, ((belU hb2).cell hg1).trans x1, ((belU hb2).cell hg1).trans y3⟩)
        ((go_at_call 59; refine (IH.out c hcj hcl _ (HTX.out _ (Below.refl _ _).drew)).mono ?_; rintro e w2 ⟨rfl, hb2⟩))
      have B3 : Hid (Below w.heap.size w w2) := B2.out.trans ((belU hb2).mono B2.out.size)
      clear hb2
      go_wp2_with fail
      go_ret
      exact ⟨ret_bool hz.out.symm, B3.out⟩
    · have e1 : decide (0 < vs[j].r) = false := by simpa using hr
      have hz : Hid (cont vs i j = false) := by show _ = _; rw [HS.out, e1]; rfl
      clear g0 g1 hsz1 hB1 c0 c1 c2 c3 c4 c5 c6 c7 t1 hr
      go_quiet (fail)
      go_wp2_with fail
      go_ret
      exact ⟨ret_bool hz.out.symm, by first | exact B2.out | exact belN B2.out _⟩
end Go.Proofs.YtdfnmapmnmecnaaDoor

/- Continues of the program and of the reference. -/
namespace Go.Proofs.YtdfnmapmnmecnaaDoor
open Go.RowKit

/-- The result of Continues. -/
def contE (n : Int) (vs : List Vw) (i j : Int) : Bool × Int := if atE n vs [i, j] ≠ 0 then (false, atE n vs [i, j]) else (cont vs i.toNat j.toNat, 0)
def RetCont (r : Bool × Int) (w : World) (e : Ending) (w' : World) : Prop := e = .returned (.tuple #[.bool r.1, .int .i64 r.2]) ∧ Below w.heap.size w w'
theorem RetCont.of {r : Bool × Int} {w w' : World} {a : Bool} {c : Int} (h : r = (a, c)) (hb : Below w.heap.size w w') : RetCont r w (.returned (.tuple #[.bool a, .int .i64 c])) w' := ⟨by rw [h], hb⟩
theorem contE_bad {n : Int} {vs : List Vw} {i j : Int} (h : atE n vs [i, j] ≠ 0) : contE n vs i j = (false, atE n vs [i, j]) := by unfold contE; rw [if_pos h]
theorem contE_yes {n : Int} {vs : List Vw} {i j : Nat} (h : atE n vs [(i : Int), (j : Int)] = 0) : contE n vs i j = (cont vs i j, 0) := by unfold contE; rw [if_neg (by simp [h])]; simp
theorem atE_two {n : Int} {vs : List Vw} {i j : Int} (h : atE n vs [i] = 0) : atE n vs [i, j] = if inB vs j = true then 0 else 6 := by
  unfold atE at *
  split at h
  · rename_i h1; exact absurd h h1
  · rename_i h1
    rw [if_neg h1]
    split at h
    · rename_i h2
      simp at h2
      simp [h2]
    · cases h
theorem atE_first {n : Int} {vs : List Vw} {i j : Int} (h : atE n vs [i] ≠ 0) : atE n vs [i, j] = atE n vs [i] := by
  unfold atE at *
  split
  · rfl
  · rename_i h1
    rw [if_neg h1] at h
    split at h
    · exact absurd rfl h
    · rename_i h2
      simp at h2
      simp [h2]

set_option maxRecDepth 100000 in
set_option maxHeartbeats 4000000 in
theorem rcont_any (n : Int) (A : Option Addr) (cap : Nat) (vs : List Vw) (i j : Int) (w : World) (hT : TArg w A cap vs) :
    Calls Tryd.prog 32 #[.agg #[.int .i64 n, .slice A vs.length cap], .int .i64 i, .int .i64 j] w (RetCont (contE n vs i j) w) := by
  have HT := Lib.hid hT
  have hfew := hT.few
  clear hT
  go_enter Tryd.func32, Tryd.ntmps32
  go_wp2_with fail
  obtain ⟨W0, hW0, b0, hsz, hB0⟩ := onebox w #[.int .i64 n, .slice A vs.length cap] 24
  rw [hW0]
  clear hW0
  refine (rat_any n A cap vs i W0 (HT.out.keep hB0)).mono ?_
  rintro e w1 ⟨rfl, hb⟩
  have d0 := (hb.block _ (by omega)).trans b0
  have B1 : Hid (Below w.heap.size w w1) := hB0.trans (hb.mono (by omega))
  have l1 : w.heap.size < w1.heap.size := by have := hb.size; omega
  have t0 := blk_cell d0 0 rfl
  have t1 := blk_cell d0 1 rfl
  clear b0 hsz hB0 hb d0
  by_cases hc : atE n vs [i] = 0
  · have e0 : (atE n vs [i] != 0) = false := by simp [hc]
    obtain ⟨hwf, _, hin⟩ := atE_ok hc
    obtain ⟨h0, h1⟩ := hin i (by simp)
    obtain ⟨a, rfl⟩ := Int.eq_ofNat_of_zero_le h0
    have ha : a < vs.length := by omega
    have h2 := atE_two (j := j) hc
    have HC := Lib.hid hc
    have HW := Lib.hid hwf
    have H2 := Lib.hid h2
    clear hc hwf hin h2
    by_cases hj1 : j < 0
    · have hz : Hid (contE n vs a j = (false, 6)) := by
        show _ = _
        have : atE n vs [(a : Int), j] = 6 := by rw [H2.out, if_neg (by rw [inB_iff]; omega)]
        rw [contE_bad (by rw [this]; decide), this]
      go_wp2_with fail
      go_ret2
      exact RetCont.of hz.out B1.out
    · by_cases hj2 : (vs.length : Int) ≤ j
      · have hz : Hid (contE n vs a j = (false, 6)) := by
          show _ = _
          have : atE n vs [(a : Int), j] = 6 := by rw [H2.out, if_neg (by rw [inB_iff]; omega)]
          rw [contE_bad (by rw [this]; decide), this]
        go_wp2_with fail
        go_ret2
        exact RetCont.of hz.out B1.out
      · obtain ⟨c, rfl⟩ := Int.eq_ofNat_of_zero_le (show 0 ≤ j by omega)
        have hcl : c < vs.length := by omega
        have hz := Lib.hid (contE_yes (n := n) (vs := vs) (i := a) (j := c) (by rw [H2.out, if_pos (by rw [inB_iff]; omega)]))
        go_wp2_with fail
        refine (after_any n A cap vs HW.out a ha c hcl w1 (HT.out.keep B1.out)).mono ?_
        rintro e w2 ⟨rfl, hb2⟩
        have B2 : Hid (Below w.heap.size w w2) := B1.out.trans (hb2.mono B1.out.size)
        clear hb2
        go_wp2_with fail
        go_ret2
        exact RetCont.of hz.out B2.out
  · have e0 : (atE n vs [i] != 0) = true := by simpa using hc
    have hz : Hid (contE n vs i j = (false, atE n vs [i])) := by
      show _ = _
      have := atE_first (j := j) hc
      rw [contE_bad (by rw [this]; exact hc), this]
    clear hc
    go_wp2_with fail
    go_ret2
    exact RetCont.of hz.out B1.out

theorem drewN_add (w : World) (m k : Nat) : (w.drewN m).drewN k = w.drewN (m + k) := by simp [World.drewN, Nat.add_assoc]
theorem IAt.box2 (w : World) (x y : Int) (t : TypeId) : IAt (w.alloc (.cells #[.int .i64 x, .int .i64 y] t)) (w.alloc (.cells #[.int .i64 x, .int .i64 y] t)).heap.size (some ⟨w.heap.size, 0, none⟩) [x, y] := fun _ =>
  ⟨w.heap.size, 0, rfl, by simp, fun i hi => by
    have : i = 0 ∨ i = 1 := by simp at hi; omega
    rcases this with rfl | rfl
    · exact blk_cell (blk_new w _) 0 rfl
    · exact blk_cell (blk_new w _) 1 rfl⟩

set_option maxRecDepth 100000 in
set_option maxHeartbeats 4000000 in
theorem vcont_any (n : Int) (A : Option Addr) (cap : Nat) (vs : List Vw) (i j : Int) (w : World) (hT : TArg w A cap vs) :
    Calls Tryd.prog 31 #[.agg #[.int .i64 n, .slice A vs.length cap], .int .i64 i, .int .i64 j] w (RetCont (contE n vs i j) w) := by
  have HT := Lib.hid hT
  have hfew := hT.few
  clear hT
  go_enter Tryd.func31, Tryd.ntmps31
  go_wp2_with fail
  obtain ⟨W0, hW0, b0, hsz, hB0⟩ := onebox w #[.int .i64 n, .slice A vs.length cap] 24
  rw [hW0]
  clear hW0
  have hI : IAt (W0.alloc (.cells #[.int .i64 i, .int .i64 j] 3)) (W0.alloc (.cells #[.int .i64 i, .int .i64 j] 3)).heap.size (some ⟨w.heap.size + 1, 0, none⟩) [i, j] := by have := IAt.box2 W0 i j 3; rwa [hsz] at this
  have hbx := bel1 W0 (.cells #[.int .i64 i, .int .i64 j] 3)
  refine (vat_any n A (some ⟨w.heap.size + 1, 0, none⟩) cap 2 vs [i, j] (W0.alloc (.cells #[.int .i64 i, .int .i64 j] 3)) (HT.out.keep (hB0.trans (hbx.mono (by omega)))) hI (by simp)).mono ?_
  rintro e w1 ⟨rfl, hb⟩
  have d0 := (hb.block _ (by simp; omega)).trans ((hbx.block _ (by omega)).trans b0)
  have B1 : Hid (Below w.heap.size w w1) := hB0.trans ((hbx.trans (hb.mono (by simp))).mono (by omega))
  have l1 : w.heap.size < w1.heap.size := by have := hb.size; simp at this; omega
  clear hI hbx
  have t1 := blk_cell d0 1 rfl
  clear b0 hsz hB0 hb d0
  by_cases hc : atE n vs [i, j] = 0
  · have e0 : (atE n vs [i, j] != 0) = false := by simp [hc]
    obtain ⟨hwf, _, hin⟩ := atE_ok hc
    obtain ⟨h0, h1⟩ := hin i (by simp)
    obtain ⟨a, rfl⟩ := Int.eq_ofNat_of_zero_le h0
    obtain ⟨h2, h3⟩ := hin j (by simp)
    obtain ⟨c, rfl⟩ := Int.eq_ofNat_of_zero_le h2
    have ha : a < vs.length := by omega
    have hcl : c < vs.length := by omega
    have hz := Lib.hid (contE_yes hc)
    have HW := Lib.hid hwf
    clear hc hwf hin h0 h1 h2 h3
    go_wp2_with fail
    go_loopw [2] (fun l wr => ∃ x m : Nat, x < vs.length ∧ l = .int .i64 x ∧ wr = w1.drewN m ∧ Hid (cont vs a x = cont vs a c)) (fun l _ => (intOf l).toNat)
    case atStart => exact ⟨c, 0, hcl, rfl, rfl, rfl⟩
    case round =>
      obtain ⟨x, m, hx, rfl, rfl, hco⟩ := hrel
      have hst := cont_step HW.out a hx
      by_cases hax : a = x
      · have e1 : ((x : Int) != (a : Int)) = false := by simp [hax]
        have e2 : ((x : Int) == (a : Int)) = true := by simp [hax]
        have hy : Hid (contE n vs a c = (true, 0)) := by show _ = _; rw [hz.out, ← hco.out, hst]; simp [hax]
        clear hax hst
        go_wp2_with fail
        go_ret2
        exact RetCont.of hy.out (belN B1.out _)
      · have e1 : ((x : Int) != (a : Int)) = true := by simp; omega
        have e2 : ((x : Int) == (a : Int)) = false := by simp; omega
        have hst2 : cont vs a x = (decide (0 < vs[x].r) && cont vs a (ownN (getV vs x))) := by rw [hst]; simp [hax]
        obtain ⟨b, off, rfl, hb1, c0, c1, c2, c3, c4, c5, c6, c7⟩ := (HT.out.rows.keep B1.out).row x hx
        have hrw := Lib.hid ((HT.out.rows.keep B1.out))
        have hb2 : b < w1.heap.size := by omega
        have HS := Lib.hid hst2
        clear hst hst2 hax c2 c3 c4 c5 c6 c7
        by_cases hr : 0 < vs[x].r
        · obtain ⟨q, d, hq5, hp, hh, hdx, ho⟩ := own_row HW.out hx (by omega)
          have hnx : Hid (cont vs a d = cont vs a c) := by show _ = _; rw [← hco.out, HS.out, ho]; simp [hr]
          have y0 : w1.cell? ⟨b, off + x * 8, none⟩ = some (.int .i64 (q : Int)) := by rw [← hp]; exact c0
          have y3 : w1.cell? ⟨b, off + x * 8 + 3 + q, none⟩ = some (.int .i64 (d : Int)) := by
            obtain ⟨b', off', e, _, hcc⟩ := hrw.out (by omega)
            cases e
            rw [← hh, Nat.add_assoc]
            exact hcc x hx (3 + q) _ (vs[x].cells_h q hq5)
          have hdl : d < vs.length := by omega
          clear c0 hp hh ho
          go_wp2_with fail
          go_quiet (fail)
          go_wp2_with fail
          go_roundw
          case rel => exact ⟨d, _, hdl, rfl, drewN_add _ _ _, hnx⟩
          case measure => simp [intOf]; omega
        · have hy : Hid (contE n vs a c = (false, 0)) := by show _ = _; rw [hz.out, ← hco.out, HS.out]; simp [hr]
          go_wp2_with fail
          go_ret2
          exact RetCont.of hy.out (belN B1.out _)
  · have e0 : (atE n vs [i, j] != 0) = true := by simpa using hc
    have hz := Lib.hid (contE_bad hc)
    clear hc
    go_wp2_with fail
    go_ret2
    exact RetCont.of hz.out B1.out
end Go.Proofs.YtdfnmapmnmecnaaDoor

/- Find, Own, at, Past: of the program and of the reference. -/
namespace Go.Proofs.YtdfnmapmnmecnaaDoor
open Go.RowKit

/-- The result of Find. -/
def findE (n : Int) (vs : List Vw) (v : Vw) : Int × Bool × Int := if CheckE n vs ≠ 0 then (0, false, CheckE n vs) else if v ∈ vs then (idxE vs v, true, 0) else (0, false, 0)
def RetFind (r : Int × Bool × Int) (w : World) (e : Ending) (w' : World) : Prop := e = .returned (.tuple #[.int .i64 r.1, .bool r.2.1, .int .i64 r.2.2]) ∧ Below w.heap.size w w'
theorem RetFind.of {r : Int × Bool × Int} {w w' : World} {a c : Int} {b : Bool} (h : r = (a, b, c)) (hb : Below w.heap.size w w') : RetFind r w (.returned (.tuple #[.int .i64 a, .bool b, .int .i64 c])) w' := ⟨by rw [h], hb⟩
theorem findE_bad {n : Int} {vs : List Vw} {v : Vw} (h : CheckE n vs ≠ 0) : findE n vs v = (0, false, CheckE n vs) := by unfold findE; rw [if_pos h]
theorem findE_yes {n : Int} {vs : List Vw} {v : Vw} (h : CheckE n vs = 0) (hv : v ∈ vs) : findE n vs v = (idxE vs v, true, 0) := by unfold findE; rw [if_neg (by simp [h]), if_pos hv]
theorem findE_no {n : Int} {vs : List Vw} {v : Vw} (h : CheckE n vs = 0) (hv : v ∉ vs) : findE n vs v = (0, false, 0) := by unfold findE; rw [if_neg (by simp [h]), if_neg hv]
theorem idxE_yes {vs : List Vw} {v : Vw} (hv : v ∈ vs) : 0 ≤ idxE vs v := by unfold idxE; rw [if_pos hv]; omega

set_option maxRecDepth 100000 in
set_option maxHeartbeats 4000000 in
theorem vfind_any (n : Int) (A : Option Addr) (cap : Nat) (vs : List Vw) (v : Vw) (w : World) (hT : TArg w A cap vs) :
    Calls Tryd.prog 25 #[.agg #[.int .i64 n, .slice A vs.length cap], .agg v.cells] w (RetFind (findE n vs v) w) := by
  have HT := Lib.hid hT
  have hfew := hT.few
  clear hT
  go_enter Tryd.func25, Tryd.ntmps25
  unfold Vw.cells
  go_wp2_with fail
  obtain ⟨W0, hW0, b0, b1, hsz, hB0⟩ := twoboxes w #[.int .i64 n, .slice A vs.length cap] v.cells 24 27
  unfold Vw.cells at hW0 b1
  rw [hW0]
  clear hW0
  refine (vcheck_any n A cap vs W0 (HT.out.keep hB0)).mono ?_
  rintro e w1 ⟨rfl, hb⟩
  have d0 := (hb.block _ (by omega)).trans b0
  have d1 := (hb.block _ (by omega)).trans b1
  have B1 : Hid (Below w.heap.size w w1) := hB0.trans (hb.mono (by omega))
  have l1 : w.heap.size + 1 < w1.heap.size := by have := hb.size; omega
  have t0 := blk_cell d0 0 rfl
  have t1 := blk_cell d0 1 rfl
  have q0 := blk_cell d1 0 rfl
  have q1 := blk_cell d1 1 rfl
  have q2 := blk_cell d1 2 rfl
  have q3 := blk_cell d1 3 rfl
  have q4 := blk_cell d1 4 rfl
  have q5 := blk_cell d1 5 rfl
  have q6 := blk_cell d1 6 rfl
  have q7 := blk_cell d1 7 rfl
  clear b0 b1 hsz hB0 hb d0 d1
  by_cases hc : CheckE n vs = 0
  · have e0 : (CheckE n vs != 0) = false := by simp [hc]
    have HC := Lib.hid hc
    have hT1 := HT.out.keep B1.out
    have hfew1 := hT1.few
    have hix := (sindex_any A cap vs v w1 hT1)
    clear hc hT1
    go_wp2_with fail
    refine hix.mono ?_
    rintro e w2 ⟨rfl, hb2⟩
    have B2 : Hid (Below w.heap.size w w2) := B1.out.trans (hb2.mono B1.out.size)
    clear hix hb2
    by_cases hv : v ∈ vs
    · have hz := Lib.hid (findE_yes HC.out hv)
      have h0 := idxE_yes hv
      clear hv
      go_wp2_with fail
      go_ret3
      refine RetFind.of (hz.out.trans ?_) B2.out
      simp <;> omega
    · have hz := Lib.hid (findE_no HC.out hv)
      have h0 : Hid (idxE vs v = -1) := idxE_none hv
      obtain ⟨ix, hix⟩ : ∃ ix, idxE vs v = ix := ⟨_, rfl⟩
      rw [hix] at h0 ⊢
      have h1 : ix < 0 := by have := h0.out; omega
      clear hv hix
      go_wp2_with fail
      go_ret3
      refine RetFind.of (hz.out.trans ?_) B2.out
      simp <;> omega
  · have e0 : (CheckE n vs != 0) = true := by simpa using hc
    have hz := Lib.hid (findE_bad (v := v) hc)
    clear hc
    go_wp2_with fail
    go_ret3
    exact RetFind.of hz.out B1.out

set_option maxRecDepth 100000 in
set_option maxHeartbeats 4000000 in
theorem rfind_any (n : Int) (A : Option Addr) (cap : Nat) (vs : List Vw) (v : Vw) (w : World) (hT : TArg w A cap vs) :
    Calls Tryd.prog 26 #[.agg #[.int .i64 n, .slice A vs.length cap], .agg v.cells] w (RetFind (findE n vs v) w) := by
  have HT := Lib.hid hT
  have hfew := hT.few
  clear hT
  go_enter Tryd.func26, Tryd.ntmps26
  unfold Vw.cells
  go_wp2_with fail
  obtain ⟨W0, hW0, b0, b1, hsz, hB0⟩ := twoboxes w #[.int .i64 n, .slice A vs.length cap] v.cells 24 27
  unfold Vw.cells at hW0 b1
  rw [hW0]
  clear hW0
  refine (rcheck_any n A cap vs W0 (HT.out.keep hB0)).mono ?_
  rintro e w1 ⟨rfl, hb⟩
  have d0 := (hb.block _ (by omega)).trans b0
  have d1 := (hb.block _ (by omega)).trans b1
  have B1 : Hid (Below w.heap.size w w1) := hB0.trans (hb.mono (by omega))
  have l1 : w.heap.size + 1 < w1.heap.size := by have := hb.size; omega
  have t0 := blk_cell d0 0 rfl
  have t1 := blk_cell d0 1 rfl
  have q0 := blk_cell d1 0 rfl
  have q1 := blk_cell d1 1 rfl
  have q2 := blk_cell d1 2 rfl
  have q3 := blk_cell d1 3 rfl
  have q4 := blk_cell d1 4 rfl
  have q5 := blk_cell d1 5 rfl
  have q6 := blk_cell d1 6 rfl
  have q7 := blk_cell d1 7 rfl
  clear b0 b1 hsz hB0 hb d0 d1
  by_cases hc : CheckE n vs = 0
  · have e0 : (CheckE n vs != 0) = false := by simp [hc]
    have HC := Lib.hid hc
    have hT1 := HT.out.keep B1.out
    have hfew1 := hT1.few
    have hix := (index_any n A cap vs v w1 w1.heap.size (Nat.le_refl _) hT1.rows (by omega))
    clear hc hT1
    go_wp2_with fail
    refine hix.mono ?_
    rintro e w2 ⟨rfl, hb2⟩
    have B2 : Hid (Below w.heap.size w w2) := B1.out.trans (hb2.mono B1.out.size)
    clear hix hb2
    by_cases hv : v ∈ vs
    · have hz := Lib.hid (findE_yes HC.out hv)
      have h0 := idxE_yes hv
      clear hv
      go_wp2_with fail
      go_ret3
      refine RetFind.of (hz.out.trans ?_) B2.out
      simp <;> omega
    · have hz := Lib.hid (findE_no HC.out hv)
      have h0 : Hid (idxE vs v = -1) := idxE_none hv
      obtain ⟨ix, hix⟩ : ∃ ix, idxE vs v = ix := ⟨_, rfl⟩
      rw [hix] at h0 ⊢
      have h1 : ix < 0 := by have := h0.out; omega
      clear hv hix
      go_wp2_with fail
      go_ret3
      refine RetFind.of (hz.out.trans ?_) B2.out
      simp <;> omega
  · have e0 : (CheckE n vs != 0) = true := by simpa using hc
    have hz := Lib.hid (findE_bad (v := v) hc)
    clear hc
    go_wp2_with fail
    go_ret3
    exact RetFind.of hz.out B1.out

end Go.Proofs.YtdfnmapmnmecnaaDoor

/- The consequences of chapter 22 in plain Lean: adding, what a past knows, what a view continues. No walk in sight. -/
namespace Go.Proofs.YtdfnmapmnmecnaaDoor

/-! ### Adding -/
/-- The result of Add. -/
def addE (n : Int) (vs : List Vw) (v : Vw) : (Int × List Vw) × Int × Int :=
  if CheckE n vs ≠ 0 then ((0, []), 0, CheckE n vs) else if checkE n vs v ≠ 0 then ((0, []), 0, checkE n vs v) else if v ∈ vs then ((n, vs), idxE vs v, 0)
  else if vs.length = 8192 then ((0, []), 0, 17) else ((n, vs ++ [v]), vs.length, 0)
theorem addE_bad {n : Int} {vs : List Vw} {v : Vw} (h : CheckE n vs ≠ 0) : addE n vs v = ((0, []), 0, CheckE n vs) := by unfold addE; rw [if_pos h]
theorem addE_row {n : Int} {vs : List Vw} {v : Vw} (h : CheckE n vs = 0) (h2 : checkE n vs v ≠ 0) : addE n vs v = ((0, []), 0, checkE n vs v) := by unfold addE; rw [if_neg (by simp [h]), if_pos h2]
theorem addE_old {n : Int} {vs : List Vw} {v : Vw} (h : CheckE n vs = 0) (h2 : checkE n vs v = 0) (hv : v ∈ vs) : addE n vs v = ((n, vs), idxE vs v, 0) := by
  unfold addE; rw [if_neg (by simp [h]), if_neg (by simp [h2]), if_pos hv]
theorem addE_full {n : Int} {vs : List Vw} {v : Vw} (h : CheckE n vs = 0) (h2 : checkE n vs v = 0) (hv : v ∉ vs) (hl : vs.length = 8192) : addE n vs v = ((0, []), 0, 17) := by
  unfold addE; rw [if_neg (by simp [h]), if_neg (by simp [h2]), if_neg hv, if_pos hl]
theorem addE_new {n : Int} {vs : List Vw} {v : Vw} (h : CheckE n vs = 0) (h2 : checkE n vs v = 0) (hv : v ∉ vs) (hl : vs.length ≠ 8192) : addE n vs v = ((n, vs ++ [v]), (vs.length : Int), 0) := by
  unfold addE; rw [if_neg (by simp [h]), if_neg (by simp [h2]), if_neg hv, if_neg hl]

theorem CheckE_of_wf {n : Int} {vs : List Vw} (h : Wf n vs) (hl : vs.length ≤ 8192) : CheckE n vs = 0 := by
  unfold CheckE
  rw [if_neg (by have := h.1; have := h.2.1; omega), if_neg (by omega)]
  exact fstE_zero.2 h.2.2
theorem getV_app {vs : List Vw} {v : Vw} : getV (vs ++ [v]) vs.length = v := by simp [getV]
theorem Wf.snoc {n : Int} {vs : List Vw} {v : Vw} (h : Wf n vs) (h2 : checkE n vs v = 0) (hv : v ∉ vs) : Wf n (vs ++ [v]) := by
  refine ⟨h.1, h.2.1, fun k hk => ?_⟩
  simp at hk
  by_cases e : k = vs.length
  · subst e
    unfold rowE
    rw [getV_app, List.take_left, if_neg (by simp [h2]), if_neg hv]
  · have hk' : k < vs.length := by omega
    have e1 : (vs ++ [v]).take k = vs.take k := List.take_append_of_le_length (by omega)
    have e2 : getV (vs ++ [v]) k = getV vs k := by rw [getV_eq (by simp; omega), getV_eq hk', List.getElem_append_left hk']
    have := h.2.2 k hk'
    unfold rowE at *
    rw [e1, e2]; exact this
theorem idxE_snoc {vs : List Vw} {v : Vw} (hv : v ∉ vs) : idxE (vs ++ [v]) v = vs.length := idxE_hit (k := vs.length) (by simp) (by simp) (by rw [List.take_left]; exact hv)

/-! ### What pasts know -/
theorem reach_trans {vs : List Vw} (ha : Acyc vs) {i c x : Nat} (hi : i < vs.length) (h1 : reach vs i c = true) (h2 : reach vs c x = true) : reach vs i x = true :=
  reach_closed ha (S := fun y => reach vs i y = true) (fun _ _ hy _ hc => reach_step ha hi hy hc) (by have := reach_lt ha hi h1; omega) h1 h2
theorem mem_past1 {vs : List Vw} {i x : Nat} : x ∈ pastL vs [i] ↔ x < vs.length ∧ reach vs i x = true := by simp [mem_pastL]
theorem getV_takes {vs : List Vw} {i k : Nat} (h : k < i) : getV (vs.take i) k = getV vs k := getV_take h

/-- Cutting a table behind a view does not change what the views before reach. -/
theorem reachB_take {vs : List Vw} (ha : Acyc vs) {m : Nat} : ∀ (f i x : Nat), i < m → i < vs.length → reachB (vs.take m) f i x = reachB vs f i x
  | 0, _, _, _, _ => rfl
  | f + 1, i, x, hm, hi => by
    simp only [reachB]
    rw [getV_take hm]
    congr 1
    rw [Bool.eq_iff_iff, List.any_eq_true, List.any_eq_true]
    constructor
    · rintro ⟨c, hc, h⟩
      have := ha i hi c hc
      exact ⟨c, hc, by rw [← reachB_take (m := m) ha f c x (by omega) (by omega)]; exact h⟩
    · rintro ⟨c, hc, h⟩
      have := ha i hi c hc
      exact ⟨c, hc, by rw [reachB_take (m := m) ha f c x (by omega) (by omega)]; exact h⟩
theorem reach_take {vs : List Vw} (ha : Acyc vs) {m i x : Nat} (hm : i < m) (hi : i < vs.length) : reach (vs.take m) i x = reach vs i x := by
  unfold reach
  rw [reachB_take ha _ i x hm hi]
  have hl : (vs.take m).length = min m vs.length := by simp
  exact reachB_fuel ha i _ _ x hi (by rw [hl]; omega) (by omega)

/-- Two views of a past with the same process and round are one. -/
theorem past_cons {n : Int} {vs : List Vw} (h : Wf n vs) {i a b : Nat} (hi : i < vs.length) (ha : a ∈ pastL vs [i]) (hb : b ∈ pastL vs [i]) (hp : (getV vs a).p = (getV vs b).p) (hr : (getV vs a).r = (getV vs b).r) : a = b := by
  have rnd : ∀ x, x ∈ pastL vs [i] → x ≠ i → (getV vs x).r < (getV vs i).r := by
    intro x hx hne
    obtain ⟨_, h1⟩ := mem_past1.1 hx
    have key : ∀ i, i < vs.length → reach vs i x = true → (getV vs x).r ≤ (getV vs i).r := by
      intro i
      induction i using Nat.strongRecOn with
      | _ i ih =>
        intro hi h1
        rcases (reach_iff h.acyc hi).1 h1 with rfl | ⟨c, hc, h2⟩
        · omega
        · have k := h.kid hi hc
          have := ih c k.1 (by omega) h2
          omega
    rcases (reach_iff h.acyc hi).1 h1 with rfl | ⟨c, hc, h2⟩
    · exact absurd rfl hne
    · have k := h.kid hi hc
      have := key c (by omega) h2
      omega
  by_cases ea : a = i
  · by_cases eb : b = i
    · rw [ea, eb]
    · have := rnd b hb eb; rw [← hr, ea] at this; omega
  · by_cases eb : b = i
    · have := rnd a ha ea; rw [hr, eb] at this; omega
    · -- both in the past of what i heard
      obtain ⟨la, ra⟩ := mem_past1.1 ha
      obtain ⟨lb, rb⟩ := mem_past1.1 hb
      have hri : (getV vs i).r ≠ 0 := by
        intro e
        have := rnd a ha ea
        have hbg := begE_ok (h.begv (show a < vs.length from la))
        omega
      have hc := ((checkE_ok (h.row_ok hi)).2 hri).2.2
      have mem : ∀ x, x ∈ pastL vs [i] → x ≠ i → x ∈ pastL (vs.take i) (kids (getV vs i)) := by
        intro x hx hne
        obtain ⟨_, h1⟩ := mem_past1.1 hx
        rcases (reach_iff h.acyc hi).1 h1 with rfl | ⟨c, hc, h2⟩
        · exact absurd rfl hne
        · have k := h.kid hi hc
          have := reach_lt h.acyc (show c < vs.length by omega) h2
          exact mem_pastL.2 ⟨by simp; omega, c, hc, by rw [reach_take h.acyc k.1 (by omega)]; exact h2⟩
      have ma := mem a ha ea
      have mb := mem b hb eb
      have pw : ∀ l : List Nat, consB (vs.take i) l = true → l.Pairwise (fun a b => clash (vs.take i) a b = false) := by
        intro l
        induction l with
        | nil => intro _; exact List.Pairwise.nil
        | cons x l ih =>
          intro hx
          simp only [consB, Bool.and_eq_true, List.all_eq_true] at hx
          exact List.Pairwise.cons (fun y hy => by have := hx.1 y hy; simpa using this) (ih hx.2)
      have hpw := pw _ hc
      rcases Decidable.em (a = b) with e | e
      · exact e
      · exfalso
        have sym : ∀ {a b}, clash (vs.take i) a b = false → clash (vs.take i) b a = false := by
          intro a b h
          unfold clash at *
          simp only [decide_eq_false_iff_not, not_and] at *
          exact fun e1 e2 => h e1.symm e2.symm
        have all : ∀ l : List Nat, l.Pairwise (fun a b => clash (vs.take i) a b = false) → ∀ a, a ∈ l → ∀ b, b ∈ l → a ≠ b → clash (vs.take i) a b = false := by
          intro l hl
          induction hl with
          | nil => intro a ha; cases ha
          | cons h1 _ ih =>
            intro a ha b hb hne
            rcases List.mem_cons.1 ha with rfl | ha
            · rcases List.mem_cons.1 hb with rfl | hb
              · exact absurd rfl hne
              · exact h1 b hb
            · rcases List.mem_cons.1 hb with e | hb
              · rw [e]; exact sym (h1 a ha)
              · exact ih a ha b hb hne
        have hcl := all _ hpw a ma b mb e
        have la' : a < i := by have := (mem_pastL.1 ma).1; simp at this; omega
        have lb' : b < i := by have := (mem_pastL.1 mb).1; simp at this; omega
        unfold clash at hcl
        rw [getV_take la', getV_take lb'] at hcl
        simp [hp, hr] at hcl

/-- What is known of process p: the input of the view of round 0. -/
theorem knowL_keep {vs : List Vw} {p : Nat} : ∀ (l : List Nat) (out : List Int), (∀ x, x ∈ l → (getV vs x).r = 0 → (getV vs x).p.toNat ≠ p) → (knowL vs l out)[p]? = out[p]?
  | [], _, _ => rfl
  | x :: l, out, h => by
    unfold knowL at *
    rw [List.foldl_cons]
    have := knowL_keep (vs := vs) (p := p) l (if (getV vs x).r = 0 then out.set (getV vs x).p.toNat (getV vs x).i else out) fun y hy => h y (by simp [hy])
    unfold knowL at this
    rw [this]
    split
    · rename_i hr
      rw [List.getElem?_set_ne (h x (by simp) hr)]
    · rfl
theorem knowL_hit {vs : List Vw} {c : Nat} : ∀ (l : List Nat) (out : List Int), c ∈ l → (getV vs c).r = 0 → (getV vs c).p.toNat < out.length →
    (∀ x, x ∈ l → (getV vs x).r = 0 → (getV vs x).p.toNat = (getV vs c).p.toNat → x = c) → (knowL vs l out)[(getV vs c).p.toNat]? = some (getV vs c).i
  | [], _, h, _, _, _ => by cases h
  | x :: l, out, hc, hr, hlt, hu => by
    by_cases hl : c ∈ l
    · have := knowL_hit (vs := vs) l (if (getV vs x).r = 0 then out.set (getV vs x).p.toNat (getV vs x).i else out) hl hr (by split <;> simp [hlt]) fun y hy => hu y (by simp [hy])
      unfold knowL at *
      rw [List.foldl_cons]; exact this
    · have e : x = c := by
        rcases List.mem_cons.1 hc with h | h
        · exact h.symm
        · exact absurd h hl
      subst e
      have := knowL_keep (vs := vs) (p := (getV vs x).p.toNat) l (if (getV vs x).r = 0 then out.set (getV vs x).p.toNat (getV vs x).i else out) (fun y hy hr' e => hl (by rw [← hu y (by simp [hy]) hr' e]; exact hy))
      unfold knowL at *
      rw [List.foldl_cons, this, if_pos hr, List.getElem?_set_self hlt]
theorem knowL_from {vs : List Vw} {p : Nat} {u : Int} : ∀ (l : List Nat) (out : List Int), (knowL vs l out)[p]? = some u → out[p]? = some u ∨ ∃ x, x ∈ l ∧ (getV vs x).r = 0 ∧ (getV vs x).p.toNat = p ∧ (getV vs x).i = u
  | [], _, h => Or.inl h
  | x :: l, out, h => by
    unfold knowL at h
    rw [List.foldl_cons] at h
    rcases knowL_from l _ h with h1 | ⟨y, hy, h2⟩
    · split at h1
      · rename_i hr
        rw [List.getElem?_set] at h1
        split at h1
        · rename_i e
          split at h1
          · exact Or.inr ⟨x, by simp, hr, e, by simpa using h1⟩
          · cases h1
        · exact Or.inl h1
      · exact Or.inl h1
    · exact Or.inr ⟨y, by simp [hy], h2⟩

/-- The inputs that a view knows. -/
def knows (N : Nat) (vs : List Vw) (i : Nat) : List Int := knowL vs (pastL vs [i]) (List.replicate N (-1))
theorem knows_length (N : Nat) (vs : List Vw) (i : Nat) : (knows N vs i).length = N := by unfold knows; rw [knowL_length]; simp
theorem knows_hit {N : Nat} {vs : List Vw} (h : Wf N vs) {i c : Nat} (hi : i < vs.length) (hc : c ∈ pastL vs [i]) (hr : (getV vs c).r = 0) : (knows N vs i)[(getV vs c).p.toNat]? = some (getV vs c).i := by
  have hb := begE_ok (h.begv (mem_past1.1 hc).1)
  refine knowL_hit _ _ hc hr (by simp; omega) fun x hx hr' e => ?_
  have hb' := begE_ok (h.begv (mem_past1.1 hx).1)
  exact past_cons h hi hx hc (by omega) (by rw [hr, hr'])
theorem knows_from {N : Nat} {vs : List Vw} {i p : Nat} {u : Int} (hu : u ≠ -1) (h : (knows N vs i)[p]? = some u) : ∃ x, x ∈ pastL vs [i] ∧ (getV vs x).r = 0 ∧ (getV vs x).p.toNat = p ∧ (getV vs x).i = u := by
  rcases knowL_from _ _ h with h1 | h1
  · rw [List.getElem?_replicate] at h1
    split at h1
    · cases h1; exact absurd rfl hu
    · cases h1
  · exact h1

/-- The inputs of a view that another continues are among its own. -/
theorem knows_mono {N : Nat} {vs : List Vw} (h : Wf N vs) {i k p : Nat} {u : Int} (hi : i < vs.length) (hk : reach vs i k = true) (hu : u ≠ -1) (e : (knows N vs k)[p]? = some u) : (knows N vs i)[p]? = some u := by
  obtain ⟨x, hx, hr, hp, hxi⟩ := knows_from hu e
  obtain ⟨h1, h2⟩ := mem_past1.1 hx
  rw [← hp, ← hxi]
  exact knows_hit h hi (mem_past1.2 ⟨h1, reach_trans h.acyc hi hk h2⟩) hr
theorem past_mono {vs : List Vw} (ha : Acyc vs) {i k x : Nat} (hi : i < vs.length) (hk : reach vs i k = true) (hx : x ∈ pastL vs [k]) : x ∈ pastL vs [i] := by
  obtain ⟨h1, h2⟩ := mem_past1.1 hx
  exact mem_past1.2 ⟨h1, reach_trans ha hi hk h2⟩

/-- How many views of round 0 a list has. -/
def zeros (vs : List Vw) (l : List Nat) : Nat := (l.filter fun x => decide ((getV vs x).r = 0)).length
theorem count_know {vs : List Vw} : ∀ (l : List Nat) (out : List Int), l.Nodup → (∀ x, x ∈ l → (getV vs x).r = 0 → out[(getV vs x).p.toNat]? = some (-1) ∧ (getV vs x).i ≠ -1) →
    (∀ x, x ∈ l → ∀ y, y ∈ l → (getV vs x).r = 0 → (getV vs y).r = 0 → (getV vs x).p.toNat = (getV vs y).p.toNat → x = y) → (knowL vs l out).count (-1) + zeros vs l = out.count (-1)
  | [], out, _, _, _ => by simp [knowL, zeros]
  | x :: l, out, hn, h1, h2 => by
    obtain ⟨hx, hn'⟩ := List.nodup_cons.1 hn
    by_cases hr : (getV vs x).r = 0
    · obtain ⟨o1, o2⟩ := h1 x (by simp) hr
      have ih := count_know (vs := vs) l (out.set (getV vs x).p.toNat (getV vs x).i) hn' (fun y hy hry => by
        obtain ⟨p1, p2⟩ := h1 y (by simp [hy]) hry
        refine ⟨?_, p2⟩
        rw [List.getElem?_set_ne fun e => hx (by rw [h2 x (by simp) y (by simp [hy]) hr hry e]; exact hy)]
        exact p1) fun a ha b hb => h2 a (by simp [ha]) b (by simp [hb])
      obtain ⟨hlt, he⟩ := List.getElem?_eq_some_iff.1 o1
      have hc := List.count_set (a := (getV vs x).i) (b := (-1 : Int)) (l := out) (i := (getV vs x).p.toNat) hlt
      have hz : zeros vs (x :: l) = zeros vs l + 1 := by simp [zeros, hr]
      have hpos : 0 < out.count (-1) := List.count_pos_iff.2 (List.mem_iff_getElem.2 ⟨_, hlt, he⟩)
      unfold knowL at *
      rw [List.foldl_cons, if_pos hr, hz]
      rw [hc, he] at ih
      have e1 : ((getV vs x).i == -1) = false := by simp [o2]
      simp [e1] at ih
      omega
    · have ih := count_know (vs := vs) l out hn' (fun y hy => h1 y (by simp [hy])) fun a ha b hb => h2 a (by simp [ha]) b (by simp [hb])
      have hz : zeros vs (x :: l) = zeros vs l := by simp [zeros, hr]
      unfold knowL at *
      rw [List.foldl_cons, if_neg hr, hz]
      exact ih
/-- The processes of which a view knows the input, and the others, are all. -/
theorem knows_count {N : Nat} {vs : List Vw} (h : Wf N vs) {i : Nat} (hi : i < vs.length) : (knows N vs i).count (-1) + zeros vs (pastL vs [i]) = N := by
  have := count_know (vs := vs) (pastL vs [i]) (List.replicate N (-1)) (List.Nodup.sublist List.filter_sublist List.nodup_range) (fun x hx hr => by
    have hb := begE_ok (h.begv (mem_past1.1 hx).1)
    refine ⟨?_, ?_⟩
    · rw [List.getElem?_replicate, if_pos (by omega)]
    · have := (hb.2.2.2.2.1 hr).1; omega) fun x hx y hy hr hr' e => by
    have hb := begE_ok (h.begv (mem_past1.1 hx).1)
    have hb' := begE_ok (h.begv (mem_past1.1 hy).1)
    exact past_cons h hi hx hy (by omega) (by rw [hr, hr'])
  simpa [knows] using this

/-! ### What a view continues -/
theorem cont_reach {n : Int} {vs : List Vw} (h : Wf n vs) (k : Nat) : ∀ j, j < vs.length → cont vs k j = true → reach vs j k = true ∧ k ≤ j ∧ (getV vs k).p = (getV vs j).p := by
  intro j
  induction j using Nat.strongRecOn with
  | _ j ih =>
    intro hj hc
    rw [cont_step h k hj] at hc
    simp only [Bool.or_eq_true, beq_iff_eq, Bool.and_eq_true, decide_eq_true_eq] at hc
    rcases hc with rfl | ⟨hr, hc⟩
    · exact ⟨reach_self vs k, Nat.le_refl _, rfl⟩
    · have hr' : (getV vs j).r ≠ 0 := by rw [getV_eq hj]; omega
      have ok := h.own_kid hj hr'
      have kd := h.kid hj ok
      obtain ⟨h1, h2, h3⟩ := ih _ kd.1 (by omega) hc
      refine ⟨(reach_iff h.acyc hj).2 (.inr ⟨_, ok, h1⟩), by omega, ?_⟩
      rw [h3]
      have hb := begE_ok (h.begv hj)
      obtain ⟨_, l2⟩ := checkE_ok (h.row_ok hj)
      have hp5 : (getV vs j).p.toNat < 5 := by have := h.2.1; omega
      have l := linkE_ok ((l2 hr').1 _ hp5) (l2 hr').2.1
      have := l.2.2.1
      rw [getV_take kd.1] at this
      show (getV vs ((getV vs j).h (getV vs j).p.toNat).toNat).p = (getV vs j).p
      rw [this]; omega
theorem cont_self {n : Int} {vs : List Vw} (h : Wf n vs) {j : Nat} (hj : j < vs.length) : cont vs j j = true := by rw [cont_step h j hj]; simp
/-- A view continues one view of each round up to its own. -/
theorem cont_count {n : Int} {vs : List Vw} (h : Wf n vs) : ∀ j, j < vs.length → ((List.range vs.length).countP fun k => cont vs k j : Int) = (getV vs j).r + 1 := by
  intro j
  induction j using Nat.strongRecOn with
  | _ j ih =>
    intro hj
    have one : (List.range vs.length).countP (fun k => k == j) = 1 := by
      have := List.count_range (a := j) (n := vs.length)
      unfold List.count at this
      rw [this, if_pos hj]
    by_cases hr : (getV vs j).r = 0
    · have e : (fun k => cont vs k j) = fun k => k == j := by
        funext k
        rw [cont_step h k hj]
        have : ¬ 0 < vs[j].r := by rw [← getV_eq hj]; omega
        simp [this]
      rw [e, one, hr]; rfl
    · have ok := h.own_kid hj hr
      have kd := h.kid hj ok
      have hb := begE_ok (h.begv hj)
      have iht := ih _ kd.1 (by omega)
      have e : ∀ k, cont vs k j = (k == j || cont vs k (ownN (getV vs j))) := by
        intro k
        rw [cont_step h k hj]
        have : 0 < vs[j].r := by rw [← getV_eq hj]; omega
        simp [this]
      have disj : ∀ l : List Nat, l.countP (fun k => k == j || cont vs k (ownN (getV vs j))) = l.countP (fun k => k == j) + l.countP (fun k => cont vs k (ownN (getV vs j))) := by
        intro l
        induction l with
        | nil => rfl
        | cons x l ih2 =>
          simp only [List.countP_cons, ih2]
          by_cases ex : x = j
          · subst ex
            have : cont vs x (ownN (getV vs x)) = false := by
              rcases hcc : cont vs x (ownN (getV vs x)) with _ | _
              · rfl
              · have := (cont_reach h x _ (show ownN (getV vs x) < vs.length by unfold ownN; omega) hcc).2.1
                unfold ownN at this; omega
            simp [this]; omega
          · have : (x == j) = false := by simp [ex]
            simp [this]; omega
      have e' : (fun k => cont vs k j) = fun k => (k == j || cont vs k (ownN (getV vs j))) := funext e
      rw [e', disj, one]
      unfold ownN at *
      have := kd.2
      push_cast
      rw [iht]; omega

/-! ### The past, gathered -/
theorem past_gather {vs : List Vw} (ha : Acyc vs) {i x : Nat} (hi : i < vs.length) : x ∈ pastL vs [i] ↔ x = i ∨ ∃ c, c ∈ kids (getV vs i) ∧ x ∈ pastL vs [c] := by
  rw [mem_past1, reach_iff ha hi]
  constructor
  · rintro ⟨hx, rfl | ⟨c, hc, h⟩⟩
    · exact .inl rfl
    · exact .inr ⟨c, hc, mem_past1.2 ⟨hx, h⟩⟩
  · rintro (rfl | ⟨c, hc, h⟩)
    · exact ⟨hi, .inl rfl⟩
    · obtain ⟨h1, h2⟩ := mem_past1.1 h
      exact ⟨h1, .inr ⟨c, hc, h2⟩⟩
end Go.Proofs.YtdfnmapmnmecnaaDoor

/- Appending views to a slice of the call's own, at an operation and at a step of a region that draws. -/
namespace Go.Proofs.YtdfnmapmnmecnaaDoor
open Go.RowKit

theorem run_appv_none (c : Nat) (ty : TypeId) (W : World) : (Builtin.append_ #[22, 22] ty #[.slice none 0 0, .slice none 0 c]).run Tryd.prog W = .ok (.slice none 0 0) W := by
  obtain ⟨i0, hi, _⟩ := info_parts info_view
  simp [Builtin.append_, run_underlying Tryd.underlying22, sizeOf, typeInfo, hi, Builtin.lenOf, Builtin.firstCells]

theorem TArg.news {w : World} {ad : Addr} {cap : Nat} {vs : List Vw} (h : TArg w (some ad) cap vs) : ∀ j u, (vcells vs)[j]? = some u → w.cell? (ad.add j) = some u := by
  intro j u hj
  have hj8 : j < vs.length * 8 := by have := (List.getElem?_eq_some_iff.1 hj).1; rwa [vcells_length] at this
  obtain ⟨b, off, e, hlt, hc⟩ := h.rows (by omega)
  cases e
  rw [Addr.add_lit]
  have hi' : j / 8 < vs.length := by omega
  have h8 : j / 8 * 8 + j % 8 = j := by omega
  rw [← h8, vcells_at vs (j / 8) hi' (j % 8) (by omega)] at hj
  have := hc (j / 8) hi' (j % 8) u hj
  rwa [Nat.add_assoc, h8] at this
theorem OwnV.lit {w : World} {base : Nat} {v : Value} {vs : List Vw} (h : OwnV w base v vs) : ∃ A cap, v = .slice A vs.length cap := by
  rcases h.2 with ⟨rfl, h0⟩ | ⟨g, cap, cur, rfl, _⟩
  · exact ⟨none, 0, by rw [h0]⟩
  · exact ⟨_, _, rfl⟩

/-- append(nil, table...): at the operation. -/
theorem wp_appv0 {o : Oper} {a : Act} {K : Act → World → Prop} {Q : Exit → Act → World → Prop} {W : World} (s x : Operand)
    (ho : o.op = .call { callee := .builtin .append, args := #[s, x], argTypes := #[22, 22] }) (base : Nat) (hs : a.eval s = .slice none 0 0) (A : Option Addr) (cap : Nat) (vs : List Vw)
    (hx : a.eval x = .slice A vs.length cap) (hT : TArg W A cap vs) (hb : base ≤ W.heap.size)
    (h : ∀ A' cap' w1, OwnV w1 base (.slice A' vs.length cap') vs → W.grownBy w1 none → K (a.put o.dst (.slice A' vs.length cap')) w1) : o.wp Tryd.prog a W K Q := by
  obtain ⟨i0, hi, hz0, hz1, hz2⟩ := info_parts info_view
  cases A with
  | none =>
    have hvs : vs = [] := by
      rcases Nat.eq_zero_or_pos vs.length with h | h
      · exact List.eq_nil_of_length_eq_zero h
      · obtain ⟨b, off, e, _⟩ := hT.rows h; cases e
    subst hvs
    have hrun := run_appv_none cap o.type W
    unfold Oper.wp execOp
    simp only [ho, resolve, invoke, builtin, Sem.run_bind, Sem.run_pure, Result.andThen_ok, List.map_toArray, List.map_cons, List.map_nil, hs, hx, List.length_nil, hrun]
    exact h none 0 W (OwnV.nil _ _) (World.grownBy.refl _ _)
  | some ad =>
    refine wp_append_own W s x 22 ho base 27 i0 _ 8 64 Tryd.underlying22 hi hz0 hz1 hz2 rfl (by decide) _ 0 [] hs (World.ownsRow_nil W base _ 8) ad vs.length cap (vcells vs) hx (vcells_length vs) hT.news (vcells_one vs) (by have := hT.few; unfold maxLen; omega) (by have := hT.few; omega) hb ?_
    intro v' w1 hown hgrow _
    have hown' : OwnV w1 base v' vs := by unfold OwnV; simpa using hown
    obtain ⟨A', cap', rfl⟩ := hown'.lit
    exact h A' cap' w1 hown' hgrow

/-- append(own, v): at the operation: the block of the one element is known whole. -/
theorem wp_appv1 {o : Oper} {a : Act} {K : Act → World → Prop} {Q : Exit → Act → World → Prop} {W : World} (s x : Operand)
    (ho : o.op = .call { callee := .builtin .append, args := #[s, x], argTypes := #[22, 22] }) (base : Nat) (V : Value) (vs : List Vw) (v : Vw) (hs : a.eval s = V) (hown : OwnV W base V vs) (hf : vs.length ≤ 100000)
    (g : Nat) (hx : a.eval x = .slice (some ⟨g, 0, none⟩) 1 1) (hg : W.heap[g]? = some (.cells v.cells 27 (0, 0))) (hb : base ≤ W.heap.size)
    (h : ∀ A' cap' w1, OwnV w1 base (.slice A' (vs.length + 1) cap') (vs ++ [v]) → W.grownBy w1 V.ownBlock → K (a.put o.dst (.slice A' (vs.length + 1) cap')) w1) : o.wp Tryd.prog a W K Q := by
  obtain ⟨i0, hi, hz0, hz1, hz2⟩ := info_parts info_view
  refine wp_append_lies W s x 22 ho base 27 i0 _ 8 64 Tryd.underlying22 hi hz0 hz1 hz2 rfl (by decide) V vs.length (vcells vs) hs hown ⟨g, 0, none⟩ 1 1 v.cells.toList hx (by simp [Vw.cells])
    (World.news_of_block hg) (cells_one v) (by omega) (by unfold maxLen; omega) (by omega) hb _ rfl ?_
  intro g' cap w1 hown' hgrow _ _
  refine h _ cap w1 ?_ hgrow
  unfold OwnV
  rw [List.length_append, vcells_append]
  simpa [vcells] using hown'

theorem step_appv0 {ops : Array Oper} {o : Oper} {a : Act} {K : Act → World → Prop} {Q : Exit → Act → World → Prop} {E : Prop} {W : World} (hgd : o.guard = none) (s x : Operand)
    (ho : o.op = .call { callee := .builtin .append, args := #[s, x], argTypes := #[22, 22] }) (base : Nat) (hs : a.eval s = .slice none 0 0) (A : Option Addr) (cap : Nat) (vs : List Vw)
    (hx : a.eval x = .slice A vs.length cap) (hT : TArg W A cap vs) (hb : base ≤ W.heap.size)
    (h : ∀ A' cap' w1, OwnV w1 base (.slice A' vs.length cap') vs → W.grownBy w1 none → K (a.put o.dst (.slice A' vs.length cap')) w1) :
    if Region.wanted o (yielded ops a.tmps) = true then Oper.wp Tryd.prog o a W K Q else E := by
  have hw : Region.wanted o (yielded ops a.tmps) = true := by simp [Region.wanted, hgd]
  rw [if_pos hw]
  exact wp_appv0 s x ho base hs A cap vs hx hT hb h
theorem step_appv1 {ops : Array Oper} {o : Oper} {a : Act} {K : Act → World → Prop} {Q : Exit → Act → World → Prop} {E : Prop} {W : World} (hgd : o.guard = none) (s x : Operand)
    (ho : o.op = .call { callee := .builtin .append, args := #[s, x], argTypes := #[22, 22] }) (base : Nat) (V : Value) (vs : List Vw) (v : Vw) (hs : a.eval s = V) (hown : OwnV W base V vs) (hf : vs.length ≤ 100000)
    (g : Nat) (hx : a.eval x = .slice (some ⟨g, 0, none⟩) 1 1) (hg : W.heap[g]? = some (.cells v.cells 27 (0, 0))) (hb : base ≤ W.heap.size)
    (h : ∀ A' cap' w1, OwnV w1 base (.slice A' (vs.length + 1) cap') (vs ++ [v]) → W.grownBy w1 V.ownBlock → K (a.put o.dst (.slice A' (vs.length + 1) cap')) w1) :
    if Region.wanted o (yielded ops a.tmps) = true then Oper.wp Tryd.prog o a W K Q else E := by
  have hw : Region.wanted o (yielded ops a.tmps) = true := by simp [Region.wanted, hgd]
  rw [if_pos hw]
  exact wp_appv1 s x ho base V vs v hs hown hf g hx hg hb h
theorem wpList_appv1 {ops : Array Oper} {rest : List Oper} {o : Oper} {a : Act} {Q : Exit → Act → World → Prop} {W : World} (hgd : o.guard = none) (s x : Operand)
    (ho : o.op = .call { callee := .builtin .append, args := #[s, x], argTypes := #[22, 22] }) (base : Nat) (V : Value) (vs : List Vw) (v : Vw) (hs : a.eval s = V) (hown : OwnV W base V vs) (hf : vs.length ≤ 100000)
    (g : Nat) (hx : a.eval x = .slice (some ⟨g, 0, none⟩) 1 1) (hg : W.heap[g]? = some (.cells v.cells 27 (0, 0))) (hb : base ≤ W.heap.size)
    (h : ∀ A' cap' w1, OwnV w1 base (.slice A' (vs.length + 1) cap') (vs ++ [v]) → W.grownBy w1 V.ownBlock → wpList Tryd.prog ops Q rest (a.put o.dst (.slice A' (vs.length + 1) cap')) w1) : wpList Tryd.prog ops Q (o :: rest) a W :=
  wpList_plain hgd fun _ hK => wp_appv1 s x ho base V vs v hs hown hf g hx hg hb fun A' cap' w1 h1 h2 => hK _ _ (h A' cap' w1 h1 h2)

theorem grown_cell {W w1 : World} {row : Option Nat} {b o : Nat} {u : Value} (hg : W.grownBy w1 row) (h : W.cell? ⟨b, o, none⟩ = some u) (hne : row ≠ some b) : w1.cell? ⟨b, o, none⟩ = some u := by
  obtain ⟨ob, ho, _⟩ := cells_of_cell h
  rw [World.cell?_of_block ((hg.block b (Array.getElem?_eq_some_iff.1 ho).1 (fun e => hne e.symm)))]
  exact h
theorem grown_set1 (w : World) (g k : Nat) (v' : Value) : w.grownBy (w.setCell ⟨g, k, none⟩ v') (some g) :=
  ⟨rfl, rfl, rfl, by simp [World.setCell], fun j _ hj => Below.heap_setCell w ⟨g, k, none⟩ v' j (fun e => hj (by rw [e]))⟩
theorem grown_heap {W w1 : World} {row : Option Nat} {b : Nat} {o : Obj} (hg : W.grownBy w1 row) (h : W.heap[b]? = some o) (hne : row ≠ some b) : w1.heap[b]? = some o :=
  (hg.block b (Array.getElem?_eq_some_iff.1 h).1 (fun e => hne e.symm)).trans h
theorem OwnV.kept {w w' : World} {base : Nat} {v : Value} {vs : List Vw} {row : Option Nat} (h : OwnV w base v vs) (hg : w.grownBy w' row) (hne : v.ownBlock = none ∨ v.ownBlock ≠ row) : OwnV w' base v vs := World.ownsRow.kept h hg hne
theorem OwnV.alloc {w : World} {base : Nat} {v : Value} {vs : List Vw} (h : OwnV w base v vs) (o : Obj) : OwnV (w.alloc o) base v vs := World.ownsRow.alloc h o
theorem OwnV.drew {w : World} {base : Nat} {v : Value} {vs : List Vw} (h : OwnV w base v vs) : OwnV w.drew base v vs := h
theorem OwnV.below {w w' : World} {base B : Nat} {v : Value} {xs : List Vw} (h : OwnV w base v xs) (hb : Below B w w') (hB : w.heap.size ≤ B) : OwnV w' base v xs :=
  World.ownsRow.kept (row := none) h ⟨hb.os, hb.tape, hb.output, hb.size, fun k hk _ => hb.block k (by omega)⟩ (by cases v.ownBlock <;> simp)

theorem grown_froz {W w1 : World} {row : Option Nat} {b o : Nat} (hg : W.grownBy w1 row) (h : W.frozen? ⟨b, o, none⟩ = false) (hlt : b < W.heap.size) (hne : row ≠ some b) : w1.frozen? ⟨b, o, none⟩ = false :=
  (World.grownBy.frozen_far hg ⟨b, o, none⟩ hlt (fun e => hne e.symm)).trans h
theorem OwnV.ne {w : World} {base b : Nat} {v : Value} {xs : List Vw} (h : OwnV w base v xs) (hb : b < base) : v.ownBlock ≠ some b := fun e => by
  have := (h.lt b e).1
  omega
/-- A call that returns a table, an index, and a number. -/
def RetAdd (r : (Int × List Vw) × Int × Int) (w : World) (e : Ending) (w' : World) : Prop :=
  ∃ A cap, e = .returned (.tuple #[.agg #[.int .i64 r.1.1, .slice A r.1.2.length cap], .int .i64 r.2.1, .int .i64 r.2.2]) ∧ TArg w' A cap r.1.2 ∧ Below w.heap.size w w'
/-- What Put returns: the table itself and the index, or a new one with the view behind all others. -/
def RetPut (n : Int) (A : Option Addr) (cap : Nat) (vs : List Vw) (v : Vw) (w : World) (e : Ending) (w' : World) : Prop :=
  Below w.heap.size w w' ∧ (v ∈ vs → e = .returned (.tuple #[.agg #[.int .i64 n, .slice A vs.length cap], .int .i64 (idxE vs v)])) ∧
    (v ∉ vs → ∃ A3 cap3, e = .returned (.tuple #[.agg #[.int .i64 n, .slice A3 (vs.length + 1) cap3], .int .i64 vs.length]) ∧ OwnV w' w.heap.size (.slice A3 (vs.length + 1) cap3) (vs ++ [v]))
theorem RetAdd.of {r : (Int × List Vw) × Int × Int} {w w' : World} {n a c : Int} {vs : List Vw} {A : Option Addr} {m cap : Nat} (h : r = ((n, vs), a, c)) (hm : vs.length = m) (hT : TArg w' A cap vs) (hb : Below w.heap.size w w') : RetAdd r w (.returned (.tuple #[.agg #[.int .i64 n, .slice A m cap], .int .i64 a, .int .i64 c])) w' := by
  subst h; subst hm; exact ⟨A, cap, rfl, hT, hb⟩
theorem TArg.nil (w : World) : TArg w none 0 [] := ⟨fun h => absurd h (by simp), Nat.le_refl _, Nat.zero_le _, by simp⟩
end Go.Proofs.YtdfnmapmnmecnaaDoor

/- ref22.Put. -/
namespace Go.Proofs.YtdfnmapmnmecnaaDoor
open Go.RowKit

theorem threeboxes (w : World) (c1 c2 c3 : Array Value) (t1 t2 t3 : TypeId) : ∃ W0, ((w.alloc (.cells c1 t1)).alloc (.cells c2 t2)).alloc (.cells c3 t3) = W0 ∧ W0.heap[w.heap.size]? = some (.cells c1 t1 (0, 0)) ∧ W0.heap[w.heap.size + 1]? = some (.cells c2 t2 (0, 0)) ∧
    W0.heap[w.heap.size + 1 + 1]? = some (.cells c3 t3 (0, 0)) ∧ W0.heap.size = w.heap.size + 3 ∧ Below w.heap.size w W0 :=
  ⟨_, rfl, blk_old (blk_old (blk_new _ _) _) _, blk_old (by have := blk_new (w.alloc (.cells c1 t1)) (.cells c2 t2); rwa [World.size_alloc] at this) _,
    by have := blk_new ((w.alloc (.cells c1 t1)).alloc (.cells c2 t2)) (.cells c3 t3); rwa [World.size_alloc, World.size_alloc] at this, by simp, bel3 w _ _ _⟩

/-- What the appending leaves: the new table, in the block g of its variable. -/
def PutCut (n : Int) (vs : List Vw) (v : Vw) (g : Nat) (w1 : World) (s : Value) (wx : World) : Prop :=
  s = .pointer (some ⟨g, 0, none⟩) ∧ ∃ A cap, wx.cell? ⟨g, 0, none⟩ = some (.int .i64 n) ∧ wx.cell? ⟨g, 1, none⟩ = some (.slice A (vs.length + 1) cap) ∧ OwnV wx (g + 1) (.slice A (vs.length + 1) cap) (vs ++ [v]) ∧ Below g w1 wx
theorem TArg.of_own {w : World} {base : Nat} {A : Option Addr} {n cap : Nat} {vs : List Vw} (h : OwnV w base (.slice A n cap) vs) (hf : vs.length ≤ 100000) : TArg w A cap vs := by
  obtain ⟨A', cap', e, hT⟩ := h.form hf
  cases e; exact hT

set_option maxRecDepth 100000 in
set_option maxHeartbeats 4000000 in
theorem put_any (n : Int) (A : Option Addr) (cap : Nat) (vs : List Vw) (v : Vw) (w : World) (hT : TArg w A cap vs) (hl : vs.length < 100000) :
    Calls Tryd.prog 44 #[.agg #[.int .i64 n, .slice A vs.length cap], .agg v.cells] w (RetPut n A cap vs v w) := by
  have HT := Lib.hid hT
  have hfew := hT.few
  clear hT
  go_enter Tryd.func44, Tryd.ntmps44
  unfold Vw.cells
  go_wp2_with fail
  obtain ⟨W0, hW0, b0, b1, b2, hsz, hB0⟩ := threeboxes w #[.int .i64 n, .slice A vs.length cap] v.cells #[.int .i64 0, .slice none 0 0] 24 27 24
  unfold Vw.cells at hW0
  rw [hW0]
  clear hW0
  have c0 : W0.heap[w.heap.size + 1]? = some (.cells v.cells 27 (0, 0)) := b1
  have hT0 := HT.out.keep hB0
  refine (index_any n A cap vs v W0 W0.heap.size (Nat.le_refl _) hT0.rows (by omega)).mono ?_
  rintro e w1 ⟨rfl, hb⟩
  have HV : Hid (w1.heap[w.heap.size + 1]? = some (.cells v.cells 27 (0, 0))) := (hb.block _ (by omega)).trans c0
  have d0 := (hb.block _ (by omega)).trans b0
  have d2 := (hb.block _ (by omega)).trans b2
  have hT1 := Lib.hid (hT0.keep hb)
  have B1 : Hid (Below w.heap.size w w1) := hB0.trans (hb.mono (by omega))
  have l0 : w.heap.size + 3 ≤ w1.heap.size := by have := hb.size; omega
  clear b0 b1 b2 c0 hT0 hB0 hb hsz
  have t0 := blk_cell d0 0 rfl
  have t1 := blk_cell d0 1 rfl
  have r0 := blk_cell d2 0 rfl
  have r1 := blk_cell d2 1 rfl
  have f0 := blk_froz d2 0
  have f1 := blk_froz d2 1
  by_cases hv : v ∈ vs
  · have hz := Lib.hid hv
    have h0 : 0 ≤ idxE vs v := idxE_yes hv
    clear hv d0 d2
    go_wp2_with fail
    have hbs : Hid (Below w.heap.size w ((w1.setCell ⟨w.heap.size + 1 + 1, 0, none⟩ (Value.int .i64 n)).setCell ⟨w.heap.size + 1 + 1, 1, none⟩ (Value.slice A vs.length cap))) := (B1.out.setCell (by simp; omega) _).setCell (by simp; omega) _
    exact bodyPost_ret (v := .tuple #[.agg #[.int .i64 n, .slice A vs.length cap], .int .i64 (idxE vs v)]) (by simp [results, Tryd.results44, go_sem, r0, r1]) rfl ⟨hbs.out, fun _ => rfl, fun h => absurd hz.out h⟩
  · have hz : Hid (v ∉ vs) := hv
    have h0 : idxE vs v = -1 := by unfold idxE; rw [if_neg hv]
    have h1 : idxE vs v < 0 := by omega
    clear hv h0
    go_upto_region 5 with fail
    obtain ⟨W2, hW2, g0, hsz2, hB2⟩ := onebox w1 #[.int .i64 n, .slice none 0 0] 24
    rw [hW2]
    clear hW2
    have hVX : W2.heap[w.heap.size + 1]? = some (.cells v.cells 27 (0, 0)) := (hB2.block _ (by omega)).trans HV.out
    have D0 : W2.heap[w.heap.size]? = some (.cells #[.int .i64 n, .slice A vs.length cap] 24 (0, 0)) := (hB2.block _ (by omega)).trans d0
    have D2 : W2.heap[w.heap.size + 1 + 1]? = some (.cells #[.int .i64 0, .slice none 0 0] 24 (0, 0)) := (hB2.block _ (by omega)).trans d2
    have x0 : W2.cell? ⟨w.heap.size + 1, 0, none⟩ = some (.int .i64 v.p) := blk_cell hVX 0 rfl
    have x1 : W2.cell? ⟨w.heap.size + 1, 1, none⟩ = some (.int .i64 v.r) := blk_cell hVX 1 rfl
    have x2 : W2.cell? ⟨w.heap.size + 1, 2, none⟩ = some (.int .i64 v.i) := blk_cell hVX 2 rfl
    have x3 : W2.cell? ⟨w.heap.size + 1, 3, none⟩ = some (.int .i64 v.h0) := blk_cell hVX 3 rfl
    have x4 : W2.cell? ⟨w.heap.size + 1, 4, none⟩ = some (.int .i64 v.h1) := blk_cell hVX 4 rfl
    have x5 : W2.cell? ⟨w.heap.size + 1, 5, none⟩ = some (.int .i64 v.h2) := blk_cell hVX 5 rfl
    have x6 : W2.cell? ⟨w.heap.size + 1, 6, none⟩ = some (.int .i64 v.h3) := blk_cell hVX 6 rfl
    have x7 : W2.cell? ⟨w.heap.size + 1, 7, none⟩ = some (.int .i64 v.h4) := blk_cell hVX 7 rfl
    have s1 : W2.cell? ⟨w.heap.size, 1, none⟩ = some (.slice A vs.length cap) := blk_cell D0 1 rfl
    have y1 : W2.cell? ⟨w1.heap.size, 1, none⟩ = some (.slice none 0 0) := blk_cell g0 1 rfl
    have y0 : W2.cell? ⟨w1.heap.size, 0, none⟩ = some (.int .i64 n) := blk_cell g0 0 rfl
    have BX := Lib.hid hB2
    have l3 : w.heap.size < W2.heap.size := by omega
    have z1 := blk_froz g0 1
    have l2 : w1.heap.size < W2.heap.size := by omega
    have hT2 := Lib.hid (hT1.out.keep hB2)
    have B2 : Hid (Below w.heap.size w W2) := B1.out.trans (hB2.mono B1.out.size)
    have HD0 := Lib.hid d0
    have HD2 := Lib.hid d2
    clear d0 d2 t0 t1 r0 r1 f0 f1 hB2 hsz2
    go_cut [7] (fun s7 wx => PutCut n vs v w1.heap.size w1 s7 wx)
    case first =>
      go_region_law ((first
          | (refine step_appv0 (by rfl) (.tmp 19) (.tmp 21) (by rfl) W2.heap.size (by rfl) A cap vs (by rfl) (by first | exact hT2.out.keep (Below.refl _ _).drew | exact hT2.out.keep (bel1 W2 _).drew) (by simp) ?_; intro A1 cap1 wA hownA hgrowA; have hG : W2.grownBy wA none := (by first | exact ⟨hgrowA.os, hgrowA.tape, hgrowA.output, hgrowA.size, hgrowA.block⟩ | exact grown_of_alloc (o := .cells v.cells 27) ⟨hgrowA.os, hgrowA.tape, hgrowA.output, hgrowA.size, hgrowA.block⟩); have e0 := grown_cell hG x0 (by simp); have e1 := grown_cell hG x1 (by simp); have e2 := grown_cell hG x2 (by simp); have e3 := grown_cell hG x3 (by simp); have e4 := grown_cell hG x4 (by simp); have e5 := grown_cell hG x5 (by simp); have e6 := grown_cell hG x6 (by simp); have e7 := grown_cell hG x7 (by simp); have e8 := grown_cell hG y1 (by simp); have e9 := grown_froz hG z1 l2 (by simp); have e10 : W2.heap.size ≤ wA.heap.size := hG.size)
          | (refine step_appv1 (by rfl) (.tmp 22) (.tmp 24) (by rfl) W2.heap.size _ vs v (by rfl) (hownA.alloc _) (by omega) wA.heap.size (by rfl) (blk_new wA _) (by first | omega | (simp; omega)) ?_; intro A3 cap3 wB hownB hgrowB; have hH : wA.grownBy wB (Value.slice A1 vs.length cap1).ownBlock := (by first | exact ⟨hgrowB.os, hgrowB.tape, hgrowB.output, hgrowB.size, hgrowB.block⟩ | exact grown_of_alloc (o := .cells v.cells 27) ⟨hgrowB.os, hgrowB.tape, hgrowB.output, hgrowB.size, hgrowB.block⟩); have h8 := grown_cell hH e8 (hownA.ne (by omega)); have h9 := grown_froz hH e9 (by omega) (hownA.ne (by omega)); have h10 : Below w1.heap.size w1 wB := (BX.out.grown hG (by omega) (by simp)).grown hH (by omega) (fun k hk => by have := (hownA.lt k hk).1; omega); have h11 := grown_cell hH (grown_cell hG y0 (by simp)) (hownA.ne (by omega)))
          | (refine step_appv1 (by rfl) (.tmp 22) (.tmp 24) (by rfl) W2.heap.size _ vs v (by rfl) (hownA) (by omega) W2.heap.size (by rfl) (grown_heap hgrowA (blk_new W2 _) (by simp)) (by first | omega | (simp; omega)) ?_; intro A3 cap3 wB hownB hgrowB; have hH : wA.grownBy wB (Value.slice A1 vs.length cap1).ownBlock := (by first | exact ⟨hgrowB.os, hgrowB.tape, hgrowB.output, hgrowB.size, hgrowB.block⟩ | exact grown_of_alloc (o := .cells v.cells 27) ⟨hgrowB.os, hgrowB.tape, hgrowB.output, hgrowB.size, hgrowB.block⟩); have h8 := grown_cell hH e8 (hownA.ne (by omega)); have h9 := grown_froz hH e9 (by omega) (hownA.ne (by omega)); have h10 : Below w1.heap.size w1 wB := (BX.out.grown hG (by omega) (by simp)).grown hH (by omega) (fun k hk => by have := (hownA.lt k hk).1; omega); have h11 := grown_cell hH (grown_cell hG y0 (by simp)) (hownA.ne (by omega)))))
      all_goals
        go_wp2_with fail
        go_meet
        refine ⟨rfl, A3, cap3, by simp [go_sem, h11], by simp [go_sem, h8], ?_, h10.setCell (by simp) _⟩
        exact (OwnV.kept hownB (grown_set1 wB w1.heap.size 1 _) (Or.inr (hownB.ne l2))).low l2
    case rest =>
      obtain ⟨rfl, A3, cap3, c0, c1, hT3, hB3⟩ := hcut
      have D0 := (hB3.block _ (by omega)).trans HD0.out
      have D2 := (hB3.block _ (by omega)).trans HD2.out
      have t1 : wc.cell? ⟨w.heap.size, 1, none⟩ = some (.slice A vs.length cap) := blk_cell D0 1 rfl
      have r0 := blk_cell D2 0 rfl
      have r1 := blk_cell D2 1 rfl
      have f0 := blk_froz D2 0
      have f1 := blk_froz D2 1
      have HT3 := Lib.hid hT3
      have HB3 : Hid (Below w.heap.size w wc) := B1.out.trans (hB3.mono B1.out.size)
      clear D0 D2 g0 hVX x0 x1 x2 x3 x4 x5 x6 x7 s1 y0 y1 z1 hT3 hB3
      go_wp2_with fail
      go_region
      all_goals
        go_wp2_with fail
        have hbs : Hid (Below w.heap.size w (((wc.setCell ⟨w.heap.size + 1 + 1, 0, none⟩ (Value.int .i64 n)).setCell ⟨w.heap.size + 1 + 1, 1, none⟩ (Value.slice A3 (vs.length + 1) cap3)).drew)) := ((HB3.out.setCell (by simp; omega) _).setCell (by simp; omega) _).drew
        have hfin : OwnV ((wc.setCell ⟨w.heap.size + 1 + 1, 0, none⟩ (Value.int .i64 n)).setCell ⟨w.heap.size + 1 + 1, 1, none⟩ (Value.slice A3 (vs.length + 1) cap3)) (w1.heap.size + 1) (.slice A3 (vs.length + 1) cap3) (vs ++ [v]) :=
          (HT3.out.kept (grown_set1 wc (w.heap.size + 1 + 1) 0 _) (Or.inr (HT3.out.ne (by omega)))).kept (grown_set1 _ (w.heap.size + 1 + 1) 1 _) (Or.inr (HT3.out.ne (by omega)))
        exact bodyPost_ret (v := .tuple #[.agg #[.int .i64 n, .slice A3 (vs.length + 1) cap3], .int .i64 vs.length]) (by simp [results, Tryd.results44, go_sem, r0, r1]) rfl ⟨hbs.out, fun h => absurd h hz.out, fun _ => ⟨A3, cap3, rfl, (OwnV.drew hfin).low (by have := B1.out.size; omega)⟩⟩
end Go.Proofs.YtdfnmapmnmecnaaDoor
