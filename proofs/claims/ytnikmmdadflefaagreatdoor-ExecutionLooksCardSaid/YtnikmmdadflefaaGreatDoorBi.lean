/- Part OpenX. Part Cont. Part Look. Part Obl2. Part Pairs. Part Find. Part RLk. Part RLm. Part RLd. Part RLl. Part FewS. Part LwLo. What each part says stands at its head; no part has a condition beyond its own statements. -/
import Derived.Test.YtnikmmdadflefaaGreatDoorBc
import Derived.Test.YtnikmmdadflefaaGreatDoorProg
import Derived.Test.YtnikmmdadflefaaGreatDoorBg
import Derived.Deep.QuietTactic
import Derived.BigQuiet
import Derived.Deep.RegionHeld3
import Derived.StillTactics
import Derived.Test.YtnikmmdadflefaaGreatDoorBf
import Derived.Test.YtnikmmdadflefaaGreatDoorBa
import Derived.StillTailTactics
import Derived.Test.YtnikmmdadflefaaGreatDoorBe

namespace Go.Proofs.YtnikmmdadflefaaGreatDoor
open Go.ChangeShapes Go.WideShapes Go.ChangeAt Go.RowKit Go.Deep
theorem cellsPl : Tryz.prog.cellsOf 78 = 4 := by kernel_rfl
section
variable {H : Type} {enc : TypeId × Value → H} {W : World} {base : Nat} {spare : Nat → Bool} {held : Bool}
set_option maxRecDepth 100000 in
theorem open_placeArg {b0 : Nat} {v : Value} {d : DataW H} {ps : List MemPlace} (hv : Value.okWide Tryz.prog W .any b0 78 v) (h : DataW.Trod enc Tryz.prog W base spare held 78 v d ps) (hw : Fits Tryz.prog 78 d) :
    ∃ (i1 i2 i3 : Int) (ww : List Rd) (AW : Option Addr) (kw : Nat), v = .agg #[.int .i64 i1, .int .i64 i2, .int .i64 i3, .slice AW ww.length kw] ∧ ww.length ≤ 17592186044416 ∧ RAt W W.heap.size AW ww := by
  obtain ⟨cs, rfl, _⟩ := okWide_struct Tryz.underlying78 hv
  obtain ⟨fuel, hf⟩ := h
  obtain ⟨xs, n, rfl, hx, hl, hxl, hfd⟩ := DataW.trod_struct Tryz.underlying78 hf
  have hd : d = .agg (xs.map (·.1)) := congrArg Prod.fst hx
  rw [hd] at hw
  rw [cellsPl] at hl
  have hxl4 : xs.length = 4 := hxl
  obtain ⟨cl⟩ := cs
  match cl, hl with
  | [c0, c1, c2, c3], _ =>
    have f0 := hfd 0 _ rfl
    have f1 := hfd 1 _ rfl
    have f2 := hfd 2 _ rfl
    have f3 := hfd 3 _ rfl
    obtain ⟨x0, x1, x2, x3, rfl⟩ : ∃ x0 x1 x2 x3, xs = [x0, x1, x2, x3] := by
      match xs, hxl4 with
      | [x0, x1, x2, x3], _ => exact ⟨x0, x1, x2, x3, rfl⟩
    have g0 : DataW.trod enc Tryz.prog W base spare held n 3 [c0] = some x0 := by simpa [cellsI, Value.cells] using f0
    have g1 : DataW.trod enc Tryz.prog W base spare held n 3 [c1] = some x1 := by simpa [cellsI, Value.cells] using f1
    have g2 : DataW.trod enc Tryz.prog W base spare held n 3 [c2] = some x2 := by simpa [cellsI, Value.cells] using f2
    have g3 : DataW.trod enc Tryz.prog W base spare held n 39 [c3] = some x3 := by simpa [cellsRds, Value.cells] using f3
    have w3 : Fits Tryz.prog 39 x3.1 := fits_each Tryz.underlying78 hw (j := 3) rfl rfl
    obtain ⟨i0, e0, _, _⟩ := DataW.trod_int Tryz.underlying3 g0
    obtain ⟨i1, e1, _, _⟩ := DataW.trod_int Tryz.underlying3 g1
    obtain ⟨i2, e2, _, _⟩ := DataW.trod_int Tryz.underlying3 g2
    obtain ⟨AW, ww, kw, e3, _, _, l3, r3⟩ := rd_rounds g3 w3
    cases e0; cases e1; cases e2; cases e3
    exact ⟨i0, i1, i2, ww, AW, kw, rfl, l3, r3⟩
end
end Go.Proofs.YtnikmmdadflefaaGreatDoor
namespace Go.Proofs.YtnikmmdadflefaaGreatDoor
open Go.RowKit
def ownN (v : Vw) : Nat := (v.h v.p.toNat).toNat
def contB (vs : List Vw) : Nat → Nat → Nat → Bool
  | 0, i, j => i == j
  | f + 1, i, j => i == j || (decide (0 < (getV vs j).r) && contB vs f i (ownN (getV vs j)))
def cont (vs : List Vw) (i j : Nat) : Bool := contB vs j i j
theorem own_row {n : Int} {vs : List Vw} (h : Wf n vs) {j : Nat} (hj : j < vs.length) (hr : vs[j].r ≠ 0) : ∃ q c : Nat, q < 5 ∧ vs[j].p = (q : Int) ∧ vs[j].h q = (c : Int) ∧ c < j ∧ ownN (getV vs j) = c := by
  have hc := (rowE_ok (h.2.2 j hj)).1
  rw [getV_eq hj] at hc
  obtain ⟨hb, hl⟩ := checkE_ok hc
  obtain ⟨h1, h2, _⟩ := hl hr
  have hbo := begE_ok hb
  obtain ⟨q, hq⟩ := Int.eq_ofNat_of_zero_le hbo.1
  have hqt : vs[j].p.toNat = q := by omega
  have hq5 : q < 5 := by have := hbo.2.1; have := h.2.1; omega
  rw [hqt] at h2
  obtain ⟨h3, h4, _⟩ := linkE_ok (h1 q hq5) h2
  obtain ⟨c, hc'⟩ := Int.eq_ofNat_of_zero_le h3
  refine ⟨q, c, hq5, hq, hc', ?_, ?_⟩
  · rw [hc'] at h4; simp at h4; omega
  · unfold ownN; rw [getV_eq hj, hqt, hc']; simp
theorem contB_fuel {n : Int} {vs : List Vw} (h : Wf n vs) (i : Nat) : ∀ (j f : Nat), j < vs.length → j ≤ f → contB vs f i j = contB vs j i j := by
  intro j
  induction j using Nat.strongRecOn with
  | _ j ih =>
    intro f hj hf
    by_cases hr : vs[j].r = 0
    · have hg : (getV vs j).r = 0 := by rw [getV_eq hj]; exact hr
      cases f with
      | zero => obtain rfl : j = 0 := by omega
                rfl
      | succ f => cases j with
        | zero => simp [contB, hg]
        | succ j => simp [contB, hg]
    · obtain ⟨q, c, _, _, _, hcj, ho⟩ := own_row h hj hr
      cases f with
      | zero => omega
      | succ f => cases j with
        | zero => omega
        | succ j =>
          simp only [contB, ho]
          rw [ih c hcj f (by omega) (by omega), ih c hcj j (by omega) (by omega)]
theorem cont_step {n : Int} {vs : List Vw} (h : Wf n vs) (i : Nat) {j : Nat} (hj : j < vs.length) : cont vs i j = (i == j || (decide (0 < vs[j].r) && cont vs i (ownN (getV vs j)))) := by
  unfold cont
  by_cases hr : vs[j].r = 0
  · have hg : (getV vs j).r = 0 := by rw [getV_eq hj]; exact hr
    cases j with
    | zero => simp [contB, hr]
    | succ j => simp [contB, hg, hr]
  · obtain ⟨q, c, _, _, _, hcj, ho⟩ := own_row h hj hr
    cases j with
    | zero => omega
    | succ j =>
      conv => lhs; unfold contB
      rw [ho, contB_fuel h i c j (by omega) (by omega), getV_eq hj]
set_option maxRecDepth 100000 in
set_option maxHeartbeats 4000000 in
theorem after_any (n : Int) (A : Option Addr) (cap : Nat) (vs : List Vw) (hw : Wf n vs) (i : Nat) (_hi : i < vs.length) : ∀ (j : Nat), j < vs.length → ∀ w : World, TArg w A cap vs →
    Calls Tryz.prog 40 #[.agg #[.int .i64 n, .slice A vs.length cap], .int .i64 i, .int .i64 j] w fun e w' => e = .returned (.bool (cont vs i j)) ∧ Below w.heap.size w w' := by
  intro j
  induction j using Nat.strongRecOn with
  | _ j ih =>
  intro hj w hT
  have HT := Lib.hid hT
  have HW := Lib.hid hw
  have hfew := hT.few
  have IH := Lib.hid ih
  have hst := cont_step hw i hj
  clear hT hw ih
  go_enter Tryz.func40, Tryz.ntmps40
  by_cases hij : i = j
  · have e0 : ((i : Int) == (j : Int)) = true := by simp [hij]
    have hz : Hid (cont vs i j = true) := by show _ = _; rw [hst]; simp [hij]
    have HB := bel1 w
    clear hij hst
    go_wp2_with fail
    go_ret
    exact ⟨ret_bool hz.out.symm, HB _⟩
  · have e0 : ((i : Int) == (j : Int)) = false := by simp; omega
    have hst2 : cont vs i j = (decide (0 < vs[j].r) && cont vs i (ownN (getV vs j))) := by rw [hst]; simp [hij]
    have HS := Lib.hid hst2
    clear hst hst2 hij
    go_upto_region 3 with fail
    obtain ⟨W0, hW0, b0, hsz, hB0⟩ := onebox w #[.int .i64 n, .slice A vs.length cap] 33
    rw [hW0]
    clear hW0
    have t1 := blk_cell b0 1 rfl
    have l1 : w.heap.size < W0.heap.size := by omega
    obtain ⟨b, off, rfl, hb1, c0, c1, c2, c3, c4, c5, c6, c7⟩ := (HT.out.rows.keep hB0).row j hj
    have hb2 : b < W0.heap.size := by omega
    have B0 := Lib.hid hB0
    have G0 := Lib.hid b0
    clear hB0 b0 hsz
    go_upto_region 4 with fail
    refine wp_one ?_
    intro W1 g0 hsz1 hB1
    have g1 : W1.heap[W0.heap.size]? = some (.cells vs[j].cells 92 (0, 0)) := g0
    have x1 : W1.cell? ⟨W0.heap.size, 1, none⟩ = some (.int .i64 vs[j].r) := blk_cell g1 1 rfl
    have B2 : Hid (Below w.heap.size w W1) := B0.out.trans (hB1.mono B0.out.size)
    have G1 := Lib.hid ((hB1.block _ l1).trans G0.out)
    by_cases hr : 0 < vs[j].r
    · have e1 : decide (0 < vs[j].r) = true := by simpa using hr
      obtain ⟨q, c, hq5, hp, hh, hcj, ho⟩ := own_row HW.out hj (by omega)
      have hz : Hid (cont vs i j = cont vs i c) := by show _ = _; rw [HS.out, e1, ho]; rfl
      have y0 : W1.cell? ⟨W0.heap.size, 0, none⟩ = some (.int .i64 (q : Int)) := by rw [← hp]; exact blk_cell g1 0 rfl
      have y3 : W1.cell? ⟨W0.heap.size, 3 + q, none⟩ = some (.int .i64 (c : Int)) := by rw [← hh]; exact blk_cell g1 (3 + q) (vs[j].cells_h q hq5)
      have s0 := blk_cell G1.out 0 rfl
      have s1 := blk_cell G1.out 1 rfl
      have hcl : c < vs.length := by omega
      have hT1 := HT.out.keep B2.out
      have HTX : Hid (∀ X : World, Below W1.heap.size W1 X → TArg X (some ⟨b, off, none⟩) cap vs) := fun X hX => hT1.keep hX
      have hg1 : W0.heap.size < W1.heap.size := by omega
      have hg2 : w.heap.size < W1.heap.size := by omega
      clear g0 g1 hsz1 hB1 c0 c1 c2 c3 c4 c5 c6 c7 t1 hr hp hh ho hT1
      have hi0 : (0 : Int) ≤ (q : Int) := by omega
      have hi5 : (q : Int) < 5 := by omega
      have hi6 : (q : Int) < ((5 : Nat) : Int) := by omega
      go_region_held3 (fun w' => w'.cell? ⟨w.heap.size, 0, none⟩ = some (.int .i64 n) ∧ w'.cell? ⟨w.heap.size, 1, none⟩ = some (.slice (some ⟨b, off, none⟩) vs.length cap) ∧ w'.cell? ⟨W0.heap.size, 0, none⟩ = some (.int .i64 (q : Int)) ∧
          w'.cell? ⟨W0.heap.size, 1, none⟩ = some (.int .i64 vs[j].r) ∧ w'.cell? ⟨W0.heap.size, 3 + q, none⟩ = some (.int .i64 (c : Int)))
        (first
          | exact ⟨s0, s1, y0, x1, y3⟩
          | exact ⟨((belU hb2).cell hg2).trans s0, ((belU hb2).cell hg2).trans s1, ((belU hb2).cell hg1).trans y0, ((belU hb2).cell hg1).trans x1, ((belU hb2).cell hg1).trans y3⟩)
        ((go_at_call 40; refine (IH.out c hcj hcl _ (HTX.out _ (Below.refl _ _).drew)).mono ?_; rintro e w2 ⟨rfl, hb2⟩))
      have B3 : Hid (Below w.heap.size w w2) := B2.out.trans ((belU hb2).mono B2.out.size)
      clear hb2
      go_wp2_with fail
      go_ret
      exact ⟨ret_bool hz.out.symm, B3.out⟩
    · have e1 : decide (0 < vs[j].r) = false := by simpa using hr
      have hz : Hid (cont vs i j = false) := by show _ = _; rw [HS.out, e1]; rfl
      clear g0 g1 hsz1 hB1 c0 c1 c2 c3 c4 c5 c6 c7 t1 hr
      go_quiet (fail)
      go_wp2_with fail
      go_ret
      exact ⟨ret_bool hz.out.symm, by first | exact B2.out | exact belN B2.out _⟩
end Go.Proofs.YtnikmmdadflefaaGreatDoor
namespace Go.Proofs.YtnikmmdadflefaaGreatDoor
def occB (x : Exn) (i : Int) : Bool := x.views.any fun l => l.any fun j => decide (j = i)
theorem getD_get {α : Type} {l : List α} {i : Nat} (h : i < l.length) (d : α) : l.getD i d = l[i] := by
  rw [List.getD_eq_getElem?_getD, List.getElem?_eq_getElem h]; rfl
section
variable {s : Sy} {K N : Nat}
theorem Fine.vround (hF : Fine s K N) {i : Nat} (hi : i < s.vs.length) : ∃ q r : Nat, s.vs[i].p = (q : Int) ∧ q < N ∧ s.vs[i].r = (r : Int) ∧ r ≤ K := by
  obtain ⟨⟨q, h1, h2⟩, ⟨r, h3, h4⟩, _⟩ := hF.vs s.vs[i] (List.getElem_mem hi)
  exact ⟨q, r, h1, h2, h3, h4⟩
theorem occ_has (hF : Fine s K N) (h : Sees s K N) {x : Exn} (hx : x ∈ s.xs) {i : Nat} (hi : i < s.vs.length) : occB x (i : Int) = hasV (i : Int) (s.vs.getD i default) x := by
  rw [getD_get hi]
  obtain ⟨q, r, hq, hqN, hr, hrK⟩ := hF.vround hi
  unfold hasV occB
  rw [hq, hr, Int.toNat_natCast, Int.toNat_natCast, Bool.eq_iff_iff, List.any_eq_true]
  obtain ⟨hvl, hvr⟩ := hF.views x hx
  constructor
  · rintro ⟨l, hl, ha⟩
    obtain ⟨j, hj, hji⟩ := List.any_eq_true.1 ha
    have e : j = (i : Int) := of_decide_eq_true hji
    subst e
    obtain ⟨k, hk, rfl⟩ := List.getElem_of_mem hl
    obtain ⟨q', hq', e⟩ := List.getElem_of_mem hj
    have hq'N : q' < N := by have := (hvr _ (List.getElem_mem hk)).1; omega
    have exw : xw x k q' = (i : Int) := by
      unfold xw
      rw [getD_get hk, getD_get hq', e]
    obtain ⟨v, h1, h2, h3⟩ := h.pr hx (by omega : k ≤ K) hq'N
    rw [exw] at h1
    have h4 := h1.2
    rw [Int.toNat_natCast, List.getElem?_eq_getElem hi] at h4
    have h5 : s.vs[i] = v := Option.some.inj h4
    rw [← h5] at h2 h3
    obtain rfl : q' = q := by omega
    obtain rfl : k = r := by omega
    exact decide_eq_true exw
  · intro hd
    have e : (x.views.getD r []).getD q 0 = (i : Int) := of_decide_eq_true hd
    have hr2 : r < x.views.length := by omega
    obtain ⟨g1, g2⟩ := hvr _ (List.getElem_mem hr2)
    rw [getD_get hr2] at e
    have hq2 : q < x.views[r].length := by omega
    rw [getD_get hq2] at e
    exact ⟨x.views[r], List.getElem_mem hr2, List.any_eq_true.2 ⟨_, List.getElem_mem hq2, decide_eq_true e⟩⟩
def rowB (x : Exn) (K N i : Nat) : Bool := (List.range N).any fun q => decide (xw x K q = (i : Int)) && (maskE N x).toNat.testBit q
def mattB (s : Sy) (K N i : Nat) : Bool := s.xs.any fun x => rowB x K N i
theorem set_getD (bs : List Bool) (j i : Nat) (hi : i < bs.length) : (bs.set j true).getD i false = (bs.getD i false || decide (j = i)) := by
  rw [List.getD_eq_getElem?_getD, List.getD_eq_getElem?_getD, List.getElem?_set]
  by_cases e : j = i
  · subst e; simp [hi]
  · simp [e]
theorem yesRow_at (m : Nat) (row : List Int) (bs : List Bool) (i : Nat) (hi : i < bs.length) : ∀ n, (∀ q, q < n → 0 ≤ row.getD q 0) → (yesRow m row bs n).getD i false = (bs.getD i false || (List.range n).any fun q => decide (row.getD q 0 = (i : Int)) && m.testBit q)
  | 0, _ => by simp [yesRow]
  | n + 1, hp => by
    have ih := yesRow_at m row bs i hi n fun q hq => hp q (by omega)
    have h0 := hp n (by omega)
    rw [List.range_succ, List.any_append, ← Bool.or_assoc, ← ih, yesRow]
    have e : decide ((row.getD n 0).toNat = i) = decide (row.getD n 0 = (i : Int)) := dec_eq (by omega)
    split
    · rename_i hb
      rw [set_getD _ _ _ (by rw [yesRow_len]; exact hi), e]
      simp [hb]
    · rename_i hb
      have hb2 : m.testBit n = false := by simpa using hb
      simp [hb2]
theorem yes_matt (hF : Fine s K N) (i : Nat) (hi : i < s.vs.length) : (yesK s K N s.xs.length).getD i false = mattB s K N i := by
  have key : ∀ k, k ≤ s.xs.length → (yesK s K N k).getD i false = (s.xs.take k).any fun x => rowB x K N i := by
    intro k
    induction k with
    | zero => intro _; simp [yesK, List.getD_eq_getElem?_getD, hi]
    | succ k ih =>
      intro hk
      have hk2 : k < s.xs.length := by omega
      obtain ⟨g1, g2⟩ := hF.row (List.getElem_mem hk2) (Nat.le_refl K)
      rw [yesK, getD_get hk2, yesRow_at _ _ _ _ (by rw [yesK_len]; exact hi) N (fun q hq => by rw [getD_get (by omega)]; exact (g2 _ (List.getElem_mem _)).1), ih (by omega), List.take_succ_eq_append_getElem hk2, List.any_append]
      unfold rowB xw
      simp
  have := key s.xs.length (Nat.le_refl _)
  rwa [List.take_length] at this
theorem Fine.own (hF : Fine s K N) (hw : Wf s.n s.vs) {j : Nat} (hj : j < s.vs.length) (hr : s.vs[j].r ≠ 0) :
    ∃ c : Nat, c < s.vs.length ∧ c < j ∧ ownN (getV s.vs j) = c ∧ (s.vs[j].h s.vs[j].p.toNat) = (c : Int) ∧ ∃ hc : c < s.vs.length, s.vs[c].r = s.vs[j].r - 1 ∧ s.vs[c].p = s.vs[j].p := by
  obtain ⟨q, c, hq5, hq, hc, hcj, ho⟩ := own_row hw hj hr
  obtain ⟨_, ⟨r, h3, _⟩, hown⟩ := hF.vs s.vs[j] (List.getElem_mem hj)
  obtain ⟨u, hu, hp, hru⟩ := hown (by omega)
  have e : s.vs[j].h s.vs[j].p.toNat = (c : Int) := by rw [hq, Int.toNat_natCast]; exact hc
  rw [e] at hu
  have hcl : c < s.vs.length := by omega
  have hu2 := hu.2
  rw [Int.toNat_natCast, List.getElem?_eq_getElem hcl] at hu2
  have hu3 : s.vs[c] = u := Option.some.inj hu2
  exact ⟨c, hcl, hcj, ho, e, hcl, by rw [hu3]; exact hru, by rw [hu3]; exact hp⟩
theorem cont_low (hF : Fine s K N) (hw : Wf s.n s.vs) {i : Nat} (hi : i < s.vs.length) : ∀ j (hj : j < s.vs.length), s.vs[j].r < s.vs[i].r → cont s.vs i j = false := by
  intro j
  induction j using Nat.strongRecOn with
  | _ j ih =>
    intro hj hlt
    rw [cont_step hw i hj]
    have hne : (i == j) = false := by
      rw [beq_eq_false_iff_ne]; rintro rfl; omega
    rw [hne, Bool.false_or]
    by_cases h0 : 0 < s.vs[j].r
    · obtain ⟨c, _, hcj, ho, _, hcl, hcr, _⟩ := hF.own hw hj (by omega)
      rw [ho, ih c hcj hcl (by omega), Bool.and_false]
    · rw [decide_eq_false h0, Bool.false_and]
theorem cont_climb (hF : Fine s K N) (hw : Wf s.n s.vs) {i : Nat} (hi : i < s.vs.length) : ∀ (n : Nat) (j : Nat) (hj : j < s.vs.length), s.vs[j].r ≤ (n : Int) → cont s.vs i j = decide (climbE s.vs s.vs[i].r n (j : Int) = (i : Int)) := by
  intro n
  induction n with
  | zero =>
    intro j hj hr
    rw [cont_step hw i hj, climbE, decide_eq_false (by omega : ¬ 0 < s.vs[j].r), Bool.false_and, Bool.or_false, Bool.eq_iff_iff, beq_iff_eq, decide_eq_true_eq]
    omega
  | succ n ih =>
    intro j hj hr
    have hgj : s.vs.getD ((j : Int).toNat) default = s.vs[j] := by rw [Int.toNat_natCast]; exact getD_get hj _
    obtain ⟨_, ri, _, _, hri, _⟩ := hF.vround hi
    rw [cont_step hw i hj, climbE, hgj]
    by_cases hlt : s.vs[i].r < s.vs[j].r
    · rw [if_pos hlt]
      obtain ⟨c, _, hcj, ho, he, hcl, hcr, _⟩ := hF.own hw hj (by omega)
      have hne : (i == j) = false := by
        rw [beq_eq_false_iff_ne]; rintro rfl; omega
      rw [hne, Bool.false_or, decide_eq_true (by omega : 0 < s.vs[j].r), Bool.true_and, ho, he]
      exact ih c hcl (by omega)
    · rw [if_neg hlt]
      by_cases hij : i = j
      · subst hij; simp
      · have hne : (i == j) = false := by rw [beq_eq_false_iff_ne]; exact hij
        rw [hne, Bool.false_or, decide_eq_false (by omega : ¬ (j : Int) = (i : Int))]
        by_cases h0 : 0 < s.vs[j].r
        · obtain ⟨c, _, hcj, ho, he, hcl, hcr, _⟩ := hF.own hw hj (by omega)
          rw [ho, cont_low hF hw hi c hcl (by omega), Bool.and_false]
        · rw [decide_eq_false h0, Bool.false_and]
theorem cont_cl (hF : Fine s K N) (hw : Wf s.n s.vs) {i j : Nat} (hi : i < s.vs.length) (hj : j < s.vs.length) : cont s.vs i j = clB s.vs i j := by
  obtain ⟨_, r, _, _, hr, hrK⟩ := hF.vround hj
  have h6 := hF.k6
  rw [cont_climb hF hw hi 7 j hj (by omega)]
  unfold clB
  rw [Int.toNat_natCast, getD_get hi]
def deciE (s : Sy) (K N : Nat) : List Nat := (List.range s.vs.length).filter fun i => mattB s K N i
theorem rel_deci (hF : Fine s K N) : relE s K N (fun _ => true) = (deciE s K N).map fun (i : Nat) => (i : Int) := by
  unfold relE relK deciE
  congr 1
  exact List.filter_congr fun i hi => by rw [yes_matt hF i (by simpa using hi), Bool.and_true]
theorem rel_later (hF : Fine s K N) (hw : Wf s.n s.vs) {i : Nat} (hi : i < s.vs.length) : relE s K N (fun j => clB s.vs i j) = ((deciE s K N).filter fun j => cont s.vs i j).map fun (i : Nat) => (i : Int) := by
  unfold relE relK deciE
  rw [List.filter_filter]
  congr 1
  refine List.filter_congr fun j hj => ?_
  have hj2 : j < s.vs.length := by simpa using hj
  rw [yes_matt hF j hj2, cont_cl hF hw hi hj2, Bool.and_comm]
end
end Go.Proofs.YtnikmmdadflefaaGreatDoor
namespace Go.Proofs.YtnikmmdadflefaaGreatDoor
open Go.RowKit
attribute [local go_sem] Oper.semAt_some
def oblE (s : Sy) (e : Int) : Int × Int := if verE s ≠ 0 then (0, verE s) else if e < 0 ∨ (s.xs.length : Int) ≤ e then (0, 6) else (maskE s.n.toNat (s.xs.getD e.toNat default), 0)
theorem oblE_bad {s : Sy} {e : Int} (h : verE s ≠ 0) : oblE s e = (0, verE s) := if_pos h
theorem oblE_out {s : Sy} {e : Int} (h : verE s = 0) (h2 : e < 0 ∨ (s.xs.length : Int) ≤ e) : oblE s e = (0, 6) := by unfold oblE; rw [if_neg (by simpa using h), if_pos h2]
theorem oblE_in {s : Sy} {K N k : Nat} (hF : Fine s K N) (h : verE s = 0) (h2 : k < s.xs.length) : oblE s (k : Int) = (maskE N s.xs[k], 0) := by
  unfold oblE
  rw [if_neg (by simpa using h), if_neg (by omega), Int.toNat_natCast, List.getD_eq_getElem?_getD, List.getElem?_eq_getElem h2]
  have : s.n.toNat = N := by have := hF.n; omega
  rw [this]; rfl
set_option maxRecDepth 100000 in
set_option maxHeartbeats 2000000 in
theorem xobliged_any (s : Sy) (hs : LowS s) (hf : FewX s.p) (i : Int) (A SV AV AX : Option Addr) (kc ks kv kx : Nat) (w : World) (hS : SyAt w w.heap.size A SV AV AX s) :
    Calls Tryz.prog 30 #[.agg (s.vs_ A kc SV ks AV kv AX kx), .int .i64 i] w fun e w' => e = .returned (.tuple #[.int .i64 (oblE s i).1, .int .i64 (oblE s i).2]) ∧ Below w.heap.size w w' := by
  obtain ⟨w1, hw1, d0, hs1, hB⟩ := onebox w (s.vs_ A kc SV ks AV kv AX kx) 36
  have HV := Lib.hid (ver_any s hs hf A SV AV AX kc ks kv kx w1 (hS.up hB))
  have HS1 := Lib.hid (hS.up hB)
  have HE1 := Lib.hid (@oblE_bad s i)
  have HE2 := Lib.hid (@oblE_out s i)
  have HE3 := Lib.hid (fun (K N k : Nat) (hF : Fine s K N) (h : verE s = 0) (h2 : k < s.xs.length) => oblE_in hF h h2)
  have HVF := Lib.hid (fun h => ver_fine hf h)
  obtain ⟨E, hE⟩ : ∃ E, verE s = E := ⟨_, rfl⟩
  rw [hE] at HV HE1 HE2 HE3 HVF
  have HOB := Lib.hid (fun (K N : Nat) (hF : Fine s K N) (x : Exn) (hx : x ∈ s.xs) (A1 A2 : Option Addr) (a1 a2 : Nat) (X : World) (hW : RAt X X.heap.size A1 x.word) => obliged_any s K N hF x hx A SV AV AX A1 A2 kc ks kv kx a1 a2 X hW)
  unfold Sy.vs_ at hw1 d0 HV HOB ⊢
  have HW1 := Lib.hid hw1
  have HB := Lib.hid hB
  have HD := Lib.hid d0
  have p0 := blk_cell d0 0 rfl
  have p1 := blk_cell d0 1 rfl
  have p2 := blk_cell d0 2 rfl
  have p3 := blk_cell d0 3 rfl
  have p4 := blk_cell d0 4 rfl
  have p5 := blk_cell d0 5 rfl
  have p6 := blk_cell d0 6 rfl
  have p7 := blk_cell d0 7 rfl
  have p8 := blk_cell d0 8 rfl
  have p9 := blk_cell d0 9 rfl
  clear hw1 d0 hB hS hs hf hE
  go_enter Tryz.func30, Tryz.ntmps30
  go_wp2_with fail
  rw [HW1.out]
  go_wp2_with fail
  refine HV.out.mono ?_
  rintro e w2 ⟨rfl, hb2⟩
  have HB2 := Lib.hid (HB.out.trans (hb2.mono (by omega)))
  have HS2 := Lib.hid (HS1.out.up hb2)
  have d0 := (hb2.block _ (by omega : w.heap.size < w1.heap.size)).trans HD.out
  clear p0 p1 p2 p3 p4 p5 p6 p7 p8 p9 hb2 HV HW1 HS1 HD
  have p0 := blk_cell d0 0 rfl
  have p1 := blk_cell d0 1 rfl
  have p2 := blk_cell d0 2 rfl
  have p3 := blk_cell d0 3 rfl
  have p4 := blk_cell d0 4 rfl
  have p5 := blk_cell d0 5 rfl
  have p6 := blk_cell d0 6 rfl
  have p7 := blk_cell d0 7 rfl
  have p8 := blk_cell d0 8 rfl
  have p9 := blk_cell d0 9 rfl
  clear d0
  by_cases h0 : E = 0
  case neg =>
    have hR := Lib.hid (HE1.out h0)
    have e0 : (E != 0) = true := by simpa using h0
    clear HE1 HE2 HE3 HVF HOB h0
    go_wp2_with fail
    go_ret2
    rw [hR.out]
    exact ⟨rfl, HB2.out⟩
  case pos =>
  subst h0
  by_cases h1 : i < 0 ∨ (s.xs.length : Int) ≤ i
  · have hR := Lib.hid (HE2.out rfl h1)
    clear HE1 HE2 HE3 HVF HOB
    rcases h1 with h1 | h1
    · go_wp2_with fail
      all_goals first | (exfalso; omega) | skip
      all_goals
        go_ret2
        rw [hR.out]
        exact ⟨rfl, HB2.out⟩
    · by_cases h2 : i < 0
      · go_wp2_with fail
        all_goals first | (exfalso; omega) | skip
        all_goals
          go_ret2
          rw [hR.out]
          exact ⟨rfl, HB2.out⟩
      · go_wp2_with fail
        all_goals first | (exfalso; omega) | skip
        all_goals
          go_ret2
          rw [hR.out]
          exact ⟨rfl, HB2.out⟩
  · obtain ⟨hsb, K, N, hF⟩ := HVF.out rfl
    clear hsb
    obtain ⟨k, rfl⟩ := Int.eq_ofNat_of_zero_le (show 0 ≤ i by omega)
    have hk : k < s.xs.length := by omega
    have hR := Lib.hid (HE3.out K N k hF rfl hk)
    obtain ⟨bx, ox, A1, c1, A2, c2, eX, hbx, x0, x1, x2, hRw, hLv⟩ := HS2.out.fx.row k hk
    subst eX
    have HO := Lib.hid (HOB.out K N hF s.xs[k] (List.getElem_mem hk) A1 A2 c1 c2 w2 hRw)
    obtain ⟨M, hM⟩ : ∃ M, maskE N s.xs[k] = M := ⟨_, rfl⟩
    rw [hM] at HO hR
    obtain ⟨x, hx⟩ : ∃ x, s.xs[k] = x := ⟨_, rfl⟩
    rw [hx] at x0 x1 x2 hRw hM
    have hk0 : (0 : Int) ≤ (k : Int) := by omega
    have hk1 : (k : Int) < (s.xs.length : Int) := by omega
    have HOX := Lib.hid (fun (X : World) (hX : RAt X X.heap.size A1 x.word) => HOB.out K N hF x (by rw [← hx]; exact List.getElem_mem hk) A1 A2 c1 c2 X hX)
    rw [hM] at HOX
    have HRW := Lib.hid hRw
    clear HE1 HE2 HE3 HVF HOB hF hRw hLv h1 hk HO hM hx
    go_wp2_with fail
    all_goals first | (exfalso; omega) | skip
    go_still_tail 6, (by kernel_rfl)
    change wpList _ _ _ _ _ w2.drew
    obtain ⟨wd, hwd⟩ : ∃ wd, wd = w2.drew := ⟨_, rfl⟩
    have BLd : Hid (Below w2.heap.size w2 wd) := by rw [hwd]; exact (Below.refl _ _).drew
    rw [← hwd]
    clear hwd
    go_wp2_with fail
    refine (HOX.out wd ((HRW.out.keep BLd.out).more BLd.out.size)).mono ?_
    rintro e w3 ⟨rfl, hb3⟩
    have HB3 := Lib.hid (HB2.out.trans ((BLd.out.trans (hb3.mono BLd.out.size)).mono HB2.out.size))
    clear hb3 HOX
    go_wp2_with fail
    go_ret2
    rw [hR.out]
    exact ⟨rfl, HB3.out⟩
def faultE (x : Exn) : Int := match x.word.getLast? with
  | none => 0
  | some r => r.f
theorem fault_none {x : Exn} (h : x.word.length = 0) : faultE x = 0 := by unfold faultE; rw [List.eq_nil_of_length_eq_zero h]; rfl
theorem fault_last {x : Exn} {k : Nat} (h : x.word.length = k + 1) : faultE x = (x.word[k]'(by omega)).f := by
  have e : x.word.getLast? = some (x.word[k]'(by omega)) := by
    rw [List.getLast?_eq_getElem?, show x.word.length - 1 = k by omega, List.getElem?_eq_getElem (by omega)]
  unfold faultE
  rw [e]
theorem mask_fault {N : Nat} {x : Exn} (h1 : 1 ≤ N) (h5 : N ≤ 5) : maskE N x = bits BinOp.andNot IntKind.i64 (2 ^ N - 1) (faultE x) := by
  rcases Nat.eq_zero_or_pos x.word.length with h | h
  · rw [mask_none h, fault_none h]
    have key : ∀ N : Nat, N < 6 → (2 : Int) ^ N - 1 = bits BinOp.andNot IntKind.i64 ((2 : Int) ^ N - 1) 0 := by decide +kernel
    exact key N (by omega)
  · obtain ⟨k, hk⟩ : ∃ k, x.word.length = k + 1 := ⟨x.word.length - 1, by omega⟩
    rw [mask_last hk, fault_last hk]
set_option maxRecDepth 100000 in
set_option maxHeartbeats 1000000 in
theorem faulty_any (x : Exn) (hl : x.word.length ≤ 100) (A1 A2 : Option Addr) (a1 a2 : Nat) (w : World) (hW : RAt w w.heap.size A1 x.word) :
    Calls Tryz.prog 138 #[.agg #[.int .i64 x.c, .slice A1 x.word.length a1, .slice A2 x.views.length a2]] w fun e w' => e = .returned (.int .i64 (faultE x)) ∧ Below w.heap.size w w' := by
  obtain ⟨w1, hw1, d0, hs1, hB⟩ := onebox w #[.int .i64 x.c, .slice A1 x.word.length a1, .slice A2 x.views.length a2] 42
  have HW1 := Lib.hid hw1
  have HB := Lib.hid hB
  have HF1 := Lib.hid (@fault_none x)
  have HF2 := Lib.hid (fun (k : Nat) (h : x.word.length = k + 1) => fault_last h)
  obtain ⟨F, hF⟩ : ∃ F, faultE x = F := ⟨_, rfl⟩
  rw [hF] at HF1 HF2 ⊢
  have x1 := blk_cell d0 1 rfl
  rcases Nat.eq_zero_or_pos x.word.length with h | h
  · have hR := Lib.hid (HF1.out h)
    rw [h] at x1 hw1
    have HW1 := Lib.hid hw1
    clear hw1 d0 hB HF1 HF2 hF hW
    rw [h]
    clear h
    go_enter Tryz.func138, Tryz.ntmps138
    go_wp2_with fail
    rw [HW1.out]
    go_wp2_with fail
    all_goals first | (exfalso; omega) | skip
    go_ret
    exact ⟨ret_int hR.out.symm, HB.out⟩
  · obtain ⟨k, hk⟩ : ∃ k, x.word.length = k + 1 := ⟨x.word.length - 1, by omega⟩
    have hR := Lib.hid (HF2.out k hk)
    obtain ⟨b, o, eA, hb, t0, t1, t2, t3, t4, t5, r6⟩ := hW.row k (by omega)
    subst eA
    have hsub : IntKind.i64.wrap (((k + 1 : Nat) : Int) - 1) = (k : Int) := by rw [IntKind.wrap_i64]; omega
    obtain ⟨f, hf⟩ : ∃ f, (x.word[k]'(by omega)).f = f := ⟨_, rfl⟩
    rw [hf] at hR r6
    rw [hk]
    obtain ⟨L, hL⟩ : ∃ L, k + 1 = L := ⟨_, rfl⟩
    rw [hL] at hsub ⊢
    have hL0 : (0 : Int) < (L : Int) := by omega
    have hkL : (k : Int) < (L : Int) := by omega
    have hk0 : (0 : Int) ≤ (k : Int) := by omega
    have hLn : ¬ (L : Int) = 0 := by omega
    clear hw1 d0 hB HF1 HF2 hF hW x1 HW1 HB t0 t1 t2 t3 t4 t5 hf hL hk h
    go_enter Tryz.func138, Tryz.ntmps138
    go_wp2_with fail
    go_ret
    exact ⟨ret_int hR.out.symm, bel1 w _⟩
end Go.Proofs.YtnikmmdadflefaaGreatDoor
namespace Go.Proofs.YtnikmmdadflefaaGreatDoor
def isX (c : Int) (word : List Rd) (x : Exn) : Bool := decide (x.c = c) && decide (x.word = word)
end Go.Proofs.YtnikmmdadflefaaGreatDoor
namespace Go.Proofs.YtnikmmdadflefaaGreatDoor
open Go.RowKit
attribute [local go_sem] Oper.semAt_some
theorem isX_no {c : Int} {word : List Rd} {x : Exn} (h : x.c ≠ c) : isX c word x = false := by unfold isX; rw [decide_eq_false h]; rfl
theorem isX_yes {c : Int} {word : List Rd} {x : Exn} (h : x.c = c) : isX c word x = decide (x.word = word) := by unfold isX; rw [decide_eq_true h]; rfl
set_option maxRecDepth 100000 in
set_option maxHeartbeats 1000000 in
theorem find1_any (x : Exn) (hx : x.word.length ≤ 17592186044416) (c : Int) (word : List Rd) (hwl : word.length ≤ 17592186044416) (A1 A2 Aw : Option Addr) (a1 a2 kw bi bw : Nat) (w : World) (hA : RAt w w.heap.size A1 x.word) (hW : RAt w w.heap.size Aw word)
    (hbi : w.heap[bi]? = some (.cells #[.int .i64 c] 3 (0, 0))) (hbw : w.heap[bw]? = some (.cells #[.slice Aw word.length kw] 39 (0, 0))) :
    Calls Tryz.prog 76 #[.agg #[.int .i64 x.c, .slice A1 x.word.length a1, .slice A2 x.views.length a2], .pointer (some ⟨bi, 0, none⟩), .pointer (some ⟨bw, 0, none⟩)] w fun e w' => e = .returned (.bool (isX c word x)) ∧ Below w.heap.size w w' := by
  obtain ⟨w1, hw1, d0, hs1, hB⟩ := onebox w #[.int .i64 x.c, .slice A1 x.word.length a1, .slice A2 x.views.length a2] 42
  have HQ := Lib.hid (eqR_any A1 Aw a1 kw x.word word w1 w1.heap.size (Nat.le_refl _) ((hA.keep hB).more hB.size) ((hW.keep hB).more hB.size) hx hwl)
  have HW1 := Lib.hid hw1
  have HB := Lib.hid hB
  have x0 := blk_cell d0 0 rfl
  have x1 := blk_cell d0 1 rfl
  have ci := blk_cell ((hB.block _ (blk_lt hbi)).trans hbi) 0 rfl
  have cw := blk_cell ((hB.block _ (blk_lt hbw)).trans hbw) 0 rfl
  have di := blk_cell hbi 0 rfl
  have dw := blk_cell hbw 0 rfl
  have li := blk_lt hbi
  have lw := blk_lt hbw
  have HN := Lib.hid (fun h => isX_no (c := c) (word := word) (x := x) h)
  have HY := Lib.hid (fun h => isX_yes (c := c) (word := word) (x := x) h)
  obtain ⟨r, hr⟩ : ∃ r, isX c word x = r := ⟨_, rfl⟩
  rw [hr] at HN HY ⊢
  clear hw1 d0 hB hA hW hbi hbw hr hx hwl
  go_enter Tryz.func76, Tryz.ntmps76
  by_cases h1 : x.c = c
  case neg =>
    have hR := Lib.hid (HN.out h1)
    have e0 : (x.c == c) = false := by simpa using h1
    clear HN HY HQ h1
    go_wp2_with fail
    rw [HW1.out]
    go_wp2_with fail
    all_goals
      go_ret
      exact ⟨ret_bool hR.out.symm, HB.out⟩
  case pos =>
  have hR := Lib.hid (HY.out h1)
  have e0 : (x.c == c) = true := by simpa using h1
  clear HN HY h1
  go_wp2_with fail
  rw [HW1.out]
  go_wp2_with fail
  refine HQ.out.mono ?_
  rintro e w2 ⟨rfl, n, rfl⟩
  clear HQ
  rw [← hR.out]
  go_wp2_with fail
  all_goals
    go_ret
    exact ⟨rfl, belN HB.out n⟩
def idxX (p : Exn → Bool) (xs : List Exn) : Int := if xs.findIdx p < xs.length then (xs.findIdx p : Int) else -1
theorem idxX_at {p : Exn → Bool} {xs : List Exn} {k : Nat} (hk : k < xs.length) (hp : p xs[k] = true) (h : ∀ j (hj : j < xs.length), j < k → p xs[j] = false) : idxX p xs = (k : Int) := by
  have e : xs.findIdx p = k := (List.findIdx_eq hk).2 ⟨hp, fun j hj => h j (by omega) hj⟩
  unfold idxX
  rw [e, if_pos hk]
theorem idxX_none {p : Exn → Bool} {xs : List Exn} (h : ∀ j (hj : j < xs.length), p xs[j] = false) : idxX p xs = -1 := by
  have e : xs.findIdx p = xs.length := List.findIdx_eq_length.2 fun x hx => by
    obtain ⟨j, hj, rfl⟩ := List.getElem_of_mem hx
    exact h j hj
  unfold idxX
  rw [e, if_neg (by omega)]
set_option maxRecDepth 100000 in
set_option maxHeartbeats 1000000 in
theorem fidx_any (xs : List Exn) (hlx : ∀ x ∈ xs, LowX x) (hl : xs.length ≤ 17592186044416) (c : Int) (word : List Rd) (hwl : word.length ≤ 17592186044416) (AX Aw : Option Addr) (cap kw bi bw : Nat) (w : World) (hX : XAt w w.heap.size AX xs) (hW : RAt w w.heap.size Aw word)
    (hbi : w.heap[bi]? = some (.cells #[.int .i64 c] 3 (0, 0))) (hbw : w.heap[bw]? = some (.cells #[.slice Aw word.length kw] 39 (0, 0))) :
    Calls Tryz.prog 75 #[.slice AX xs.length cap, .func (.func 76) #[] #[.pointer (some ⟨bi, 0, none⟩), .pointer (some ⟨bw, 0, none⟩)]] w fun e w' => e = .returned (.int .i64 (idxX (isX c word) xs)) ∧ Below w.heap.size w w' := by
  have HX := Lib.hid hX
  have HC := Lib.hid (fun (x : Exn) (hx : LowX x) (A1 A2 : Option Addr) (a1 a2 : Nat) (X : World) (hb : Below w.heap.size w X) (hA : RAt X X.heap.size A1 x.word) => find1_any x hx.1 c word hwl A1 A2 Aw a1 a2 kw bi bw X hA ((hW.keep hb).more hb.size) ((hb.block _ (blk_lt hbi)).trans hbi) ((hb.block _ (blk_lt hbw)).trans hbw))
  have HLX := Lib.hid hlx
  have HI1 := Lib.hid (fun (k : Nat) (hk : k < xs.length) (hp : isX c word xs[k] = true) (h : ∀ j (hj : j < xs.length), j < k → isX c word xs[j] = false) => idxX_at hk hp h)
  have HI2 := Lib.hid (fun h => idxX_none (p := isX c word) (xs := xs) h)
  obtain ⟨r, hr⟩ : ∃ r, idxX (isX c word) xs = r := ⟨_, rfl⟩
  rw [hr] at HI1 HI2 ⊢
  clear hX hW hbi hbw hlx hr
  go_enter Tryz.func75, Tryz.ntmps75
  go_wp2_with fail
  go_loopw [8] (fun i wr => ∃ k : Nat, k ≤ xs.length ∧ i = .int .i64 (k : Int) ∧ Hid (Below w.heap.size w wr) ∧ Hid (∀ j (hj : j < xs.length), j < k → isX c word xs[j] = false)) (fun i _ => xs.length - (intOf i).toNat)
  case atStart => exact ⟨0, by omega, rfl, Below.refl _ _, fun j hj h => by omega⟩
  case round =>
    obtain ⟨k, hk, rfl, hb, hall⟩ := hrel
    by_cases hlt : k < xs.length
    · obtain ⟨b, o, A1, c1, A2, c2, eX, hbx, x0, x1, x2, hR, hL⟩ := (HX.out.keep hb.out).row k hlt
      subst eX
      have hm := HLX.out _ (List.getElem_mem hlt)
      have HC' := Lib.hid (HC.out xs[k] hm A1 A2 c1 c2 wr hb.out (hR.more hb.out.size))
      have HI1' := Lib.hid (HI1.out k hlt)
      have HST := Lib.hid (fun (h : isX c word xs[k] = false) j (hj : j < xs.length) (hjk : j < k + 1) => if e : j = k then (by subst e; exact h) else hall.out j hj (by omega) : isX c word xs[k] = false → ∀ j (hj : j < xs.length), j < k + 1 → isX c word xs[j] = false)
      obtain ⟨bo, hbo⟩ : ∃ bo, isX c word xs[k] = bo := ⟨_, rfl⟩
      rw [hbo] at HC' HI1' HST
      obtain ⟨x, hx⟩ : ∃ x, xs[k] = x := ⟨_, rfl⟩
      rw [hx] at x0 x1 x2 HC'
      have hk0 : (0 : Int) ≤ (k : Int) := by omega
      have hk1 : (k : Int) < (xs.length : Int) := by omega
      clear hm hR hL hbo hx HC
      go_wp2_with fail
      refine HC'.out.mono ?_
      rintro e w2 ⟨rfl, hb2⟩
      have HB2 := Lib.hid (hb.out.trans (hb2.mono hb.out.size))
      clear hb2 HC' x0 x1 x2
      cases bo with
      | true =>
        have hR := Lib.hid (HI1'.out rfl hall.out)
        go_wp2_with fail
        go_ret
        exact ⟨ret_int hR.out.symm, HB2.out⟩
      | false =>
        have hn := Lib.hid (HST.out rfl)
        clear HI1' HST
        go_wp2_with fail
        go_roundw
        case rel => exact ⟨k + 1, by omega, by go_num, HB2.out, hn.out⟩
        case measure => simp [intOf]; omega
    · obtain rfl : k = xs.length := by omega
      have hR := Lib.hid (HI2.out fun j hj => hall.out j hj hj)
      clear HC HI1 HI2
      go_wp2_with fail
      go_ret
      exact ⟨ret_int hR.out.symm, hb.out⟩
def findE (s : Sy) (c : Int) (word : List Rd) : Int × Int := if verE s ≠ 0 then (0, verE s) else if idxX (isX c word) s.xs < 0 then (0, 6) else (idxX (isX c word) s.xs, 0)
set_option maxRecDepth 100000 in
set_option maxHeartbeats 2000000 in
theorem xfind_any (s : Sy) (hs : LowS s) (hf : FewX s.p) (c : Int) (word : List Rd) (hwl : word.length ≤ 17592186044416) (A SV AV AX Aw : Option Addr) (kc ks kv kx kw : Nat) (w : World) (hS : SyAt w w.heap.size A SV AV AX s) (hW : RAt w w.heap.size Aw word) :
    Calls Tryz.prog 28 #[.agg (s.vs_ A kc SV ks AV kv AX kx), .int .i64 c, .slice Aw word.length kw] w fun e w' => e = .returned (.tuple #[.int .i64 (findE s c word).1, .int .i64 (findE s c word).2]) ∧ Below w.heap.size w w' := by
  obtain ⟨w1, hw1, d0, d1, d2, hs1, hB⟩ := threeboxes w (s.vs_ A kc SV ks AV kv AX kx) #[.int .i64 c] #[.slice Aw word.length kw] 36 3 39
  have HV := Lib.hid (ver_any s hs hf A SV AV AX kc ks kv kx w1 (hS.up hB))
  have HS1 := Lib.hid (hS.up hB)
  have HIX := Lib.hid (fun (X : World) (hX : XAt X X.heap.size AX s.xs) (hWX : RAt X X.heap.size Aw word) (h1 : X.heap[w.heap.size + 1]? = _) (h2 : X.heap[w.heap.size + 1 + 1]? = _) => fidx_any s.xs hs.fe (Nat.le_trans hs.fx (by decide)) c word hwl AX Aw kx kw (w.heap.size + 1) (w.heap.size + 1 + 1) X hX hWX h1 h2)
  have HE : Hid (findE s c word = if verE s ≠ 0 then (0, verE s) else if idxX (isX c word) s.xs < 0 then (0, 6) else (idxX (isX c word) s.xs, 0)) := rfl
  obtain ⟨R, hR⟩ : ∃ R, findE s c word = R := ⟨_, rfl⟩
  rw [hR] at HE ⊢
  obtain ⟨E, hE⟩ : ∃ E, verE s = E := ⟨_, rfl⟩
  rw [hE] at HV HE
  obtain ⟨I, hI⟩ : ∃ I, idxX (isX c word) s.xs = I := ⟨_, rfl⟩
  rw [hI] at HIX HE
  have HRW := Lib.hid ((hW.keep hB).more hB.size)
  unfold Sy.vs_ at hw1 d0 HV ⊢
  have HW1 := Lib.hid hw1
  have HB := Lib.hid hB
  have HD := Lib.hid d0
  have HD1 := Lib.hid d1
  have HD2 := Lib.hid d2
  have p0 := blk_cell d0 0 rfl
  have p1 := blk_cell d0 1 rfl
  have p2 := blk_cell d0 2 rfl
  have p3 := blk_cell d0 3 rfl
  have p4 := blk_cell d0 4 rfl
  have p5 := blk_cell d0 5 rfl
  have p6 := blk_cell d0 6 rfl
  have p7 := blk_cell d0 7 rfl
  have p8 := blk_cell d0 8 rfl
  have p9 := blk_cell d0 9 rfl
  clear hw1 d0 d1 d2 hB hS hs hf hE hI hR hW
  go_enter Tryz.func28, Tryz.ntmps28
  go_wp2_with fail
  rw [HW1.out]
  go_wp2_with fail
  refine HV.out.mono ?_
  rintro e w2 ⟨rfl, hb2⟩
  have HB2 := Lib.hid (HB.out.trans (hb2.mono (by omega)))
  have HS2 := Lib.hid (HS1.out.up hb2)
  have HRW2 := Lib.hid ((HRW.out.keep hb2).more hb2.size)
  have HG1 := Lib.hid ((hb2.block _ (blk_lt HD1.out)).trans HD1.out)
  have HG2 := Lib.hid ((hb2.block _ (blk_lt HD2.out)).trans HD2.out)
  have d0 := (hb2.block _ (by omega : w.heap.size < w1.heap.size)).trans HD.out
  clear p0 p1 p2 p3 p4 p5 p6 p7 p8 p9 hb2 HV HW1 HS1 HD HD1 HD2 HRW
  have p9 := blk_cell d0 9 rfl
  clear d0
  by_cases h0 : E = 0
  case neg =>
    have hR : Hid (R = (0, E)) := HE.out.trans (if_pos h0)
    have e0 : (E != 0) = true := by simpa using h0
    clear HE HIX h0
    go_wp2_with fail
    go_ret2
    rw [hR.out]
    exact ⟨rfl, HB2.out⟩
  case pos =>
  subst h0
  have HE2 : Hid (R = if I < 0 then (0, 6) else (I, 0)) := HE.out.trans (if_neg (by simp))
  clear HE
  go_wp2_with fail
  refine (HIX.out w2 HS2.out.fx HRW2.out HG1.out HG2.out).mono ?_
  rintro e w3 ⟨rfl, hb3⟩
  have HB3 := Lib.hid (HB2.out.trans (hb3.mono HB2.out.size))
  clear hb3 HIX HS2 HRW2 HG1 HG2 p9
  by_cases h1 : I < 0
  · have hR : Hid (R = (0, 6)) := HE2.out.trans (if_pos h1)
    clear HE2
    go_wp2_with fail
    all_goals first | (exfalso; omega) | skip
    go_ret2
    rw [hR.out]
    exact ⟨rfl, HB3.out⟩
  · have hR : Hid (R = (I, 0)) := HE2.out.trans (if_neg h1)
    clear HE2
    go_wp2_with fail
    all_goals first | (exfalso; omega) | skip
    go_ret2
    rw [hR.out]
    exact ⟨rfl, HB3.out⟩
end Go.Proofs.YtnikmmdadflefaaGreatDoor
namespace Go.Proofs.YtnikmmdadflefaaGreatDoor
open Go.RowKit
attribute [local go_sem] Oper.semAt_some
set_option maxRecDepth 100000 in
set_option maxHeartbeats 2000000 in
theorem rfinal_any (s : Sy) (K N : Nat) (hF : Fine s K N) (k : Nat) (hk : k < s.xs.length) (A SV AV AX : Option Addr) (kc ks kv kx : Nat) (w : World) (hS : SyAt w w.heap.size A SV AV AX s) :
    Calls Tryz.prog 169 #[.agg (s.vs_ A kc SV ks AV kv AX kx), .int .i64 (k : Int)] w fun e w' => ∃ B c, e = .returned (.slice B (s.xs[k].views.getD K []).length c) ∧ IAt w' w'.heap.size B (s.xs[k].views.getD K []) ∧ Below w.heap.size w w' := by
  obtain ⟨w1, hw1, d0, hs1, hB⟩ := onebox w (s.vs_ A kc SV ks AV kv AX kx) 36
  have HS1 := Lib.hid (hS.up hB)
  have hpk := hF.k
  obtain ⟨hvl, _⟩ := hF.views _ (List.getElem_mem hk)
  obtain ⟨bx, ox, A1, c1, A2, c2, eX, hbx, x0, x1, x2, hRw, hLv⟩ := HS1.out.fx.row k hk
  subst eX
  obtain ⟨x, hx⟩ : ∃ x, s.xs[k] = x := ⟨_, rfl⟩
  rw [hx] at hvl x0 x1 x2 hLv ⊢
  have hKl : K < x.views.length := by omega
  obtain ⟨bl, ol, A3, c3, eL, hbl, y1, hI⟩ := hLv.at_ K hKl
  subst eL
  have hgr : x.views.getD K [] = x.views[K] := getD_get hKl _
  rw [hgr]
  obtain ⟨row, hrw⟩ : ∃ row, x.views[K] = row := ⟨_, rfl⟩
  rw [hrw] at y1 hI ⊢
  unfold Sy.vs_ at hw1 d0 ⊢
  rw [hpk] at hw1 d0 ⊢
  have HW1 := Lib.hid hw1
  have HB := Lib.hid hB
  have HI := Lib.hid hI
  have p6 := blk_cell d0 6 rfl
  have p9 := blk_cell d0 9 rfl
  have hk0 : (0 : Int) ≤ (k : Int) := by omega
  have hk1 : (k : Int) < (s.xs.length : Int) := by omega
  have hK0 : (0 : Int) ≤ (K : Int) := by omega
  have hK1 : (K : Int) < (x.views.length : Int) := by omega
  clear hw1 d0 hB hS hI hRw hLv hgr hrw hx hvl hpk hF HS1
  go_enter Tryz.func169, Tryz.ntmps169
  go_wp2_with fail
  rw [HW1.out]
  go_quiet (fail)
  go_wp2_with fail
  go_ret
  exact ⟨A3, c3, rfl, HI.out.keep (belN (Below.refl _ _) _), belN HB.out _⟩
set_option maxRecDepth 100000 in
set_option maxHeartbeats 2000000 in
theorem rmask_any (s : Sy) (K N : Nat) (hF : Fine s K N) (k : Nat) (hk : k < s.xs.length) (A SV AV AX : Option Addr) (kc ks kv kx : Nat) (w : World) (hS : SyAt w w.heap.size A SV AV AX s) :
    Calls Tryz.prog 80 #[.agg (s.vs_ A kc SV ks AV kv AX kx), .int .i64 (k : Int)] w fun e w' => e = .returned (.int .i64 (maskE N s.xs[k])) ∧ Below w.heap.size w w' := by
  obtain ⟨w1, hw1, d0, hs1, hB⟩ := onebox w (s.vs_ A kc SV ks AV kv AX kx) 36
  have hS1 := hS.up hB
  have hn := hF.n
  have h1 := hF.n1
  have h5 := hF.n5
  obtain ⟨hwl, _⟩ := hF.word _ (List.getElem_mem hk)
  have hk6 := hF.k6
  obtain ⟨bx, ox, A1, c1, A2, c2, eX, hbx, x0, x1, x2, hRw, hLv⟩ := hS1.fx.row k hk
  subst eX
  have hmf := mask_fault (x := s.xs[k]) h1 h5
  have HFU := Lib.hid (fun (X : World) => rfull5_any (N : Int) (by omega) (by omega) X)
  have hpow : ((2 ^ ((N : Int)).toNat - 1 : Nat) : Int) = (2 : Int) ^ N - 1 := by
    obtain rfl | rfl | rfl | rfl | rfl : N = 1 ∨ N = 2 ∨ N = 3 ∨ N = 4 ∨ N = 5 := by omega
    all_goals rfl
  rw [hpow] at HFU
  have HFL := Lib.hid (fun (X : World) (hX : Below w1.heap.size w1 X) => faulty_any s.xs[k] (by omega) A1 A2 c1 c2 X ((hRw.keep hX).more hX.size))
  obtain ⟨x, hx⟩ : ∃ x, s.xs[k] = x := ⟨_, rfl⟩
  rw [hx] at x0 x1 x2 hmf HFL ⊢
  unfold Sy.vs_ at hw1 d0 ⊢
  rw [hn] at hw1 d0 ⊢
  have HW1 := Lib.hid hw1
  have HB := Lib.hid hB
  have HD := Lib.hid d0
  have HMF := Lib.hid hmf
  obtain ⟨M, hM⟩ : ∃ M, maskE N x = M := ⟨_, rfl⟩
  rw [hM] at HMF ⊢
  obtain ⟨f, hf⟩ : ∃ f, faultE x = f := ⟨_, rfl⟩
  rw [hf] at HMF HFL
  have HXX : Hid (∀ X, Below w1.heap.size w1 X → X.heap[w.heap.size]? = some (.cells #[.int .i64 s.p.t.n, .int .i64 s.p.t.ins, .int .i64 s.p.t.outs, .slice A s.p.t.cases.length kc, .int .i64 s.p.a.n, .slice SV s.p.a.sts.length ks, .int .i64 s.p.k, .int .i64 (N : Int), .slice AV s.vs.length kv, .slice (some ⟨bx, ox, none⟩) s.xs.length kx] 36 (0, 0)) ∧ X.cell? ⟨bx, ox + k * 3, none⟩ = some (.int .i64 x.c) ∧ X.cell? ⟨bx, ox + k * 3 + 1, none⟩ = some (.slice A1 x.word.length c1) ∧ X.cell? ⟨bx, ox + k * 3 + 2, none⟩ = some (.slice A2 x.views.length c2)) := fun X hX =>
    ⟨(hX.block _ (blk_lt d0)).trans d0, (hX.cell (p := ⟨bx, _, none⟩) hbx).trans x0, (hX.cell (p := ⟨bx, _, none⟩) hbx).trans x1, (hX.cell (p := ⟨bx, _, none⟩) hbx).trans x2⟩
  have hk0 : (0 : Int) ≤ (k : Int) := by omega
  have hk1 : (k : Int) < (s.xs.length : Int) := by omega
  clear hw1 d0 hB hS hS1 hRw hLv hx hn hF hmf hM hf hpow hwl x0 x1 x2
  go_enter Tryz.func80, Tryz.ntmps80
  go_wp2_with fail
  rw [HW1.out]
  refine wp_region_mix [(0, true), (1, true), (2, true), (4, true), (5, true), (6, true), (7, true), (8, true), (3, false), (9, false), (10, false), (11, false)] (fun X => X.heap[w.heap.size]? = some (.cells #[.int .i64 s.p.t.n, .int .i64 s.p.t.ins, .int .i64 s.p.t.outs, .slice A s.p.t.cases.length kc, .int .i64 s.p.a.n, .slice SV s.p.a.sts.length ks, .int .i64 s.p.k, .int .i64 (N : Int), .slice AV s.vs.length kv, .slice (some ⟨bx, ox, none⟩) s.xs.length kx] 36 (0, 0)) ∧ X.cell? ⟨bx, ox + k * 3, none⟩ = some (.int .i64 x.c) ∧ X.cell? ⟨bx, ox + k * 3 + 1, none⟩ = some (.slice A1 x.word.length c1) ∧ X.cell? ⟨bx, ox + k * 3 + 2, none⟩ = some (.slice A2 x.views.length c2)) (by kernel_rfl) (by kernel_rfl) (HXX.out _ (Below.refl _ w1).drew) ?_
  repeat
    apply mix_float rfl
    · rintro K' hK' W ⟨y, x0, x1, x2⟩
      have p7 := blk_cell y 7 rfl
      have p9 := blk_cell y 9 rfl
      clear y
      go_simp
      exact hK'
  refine mix_op rfl ?_
  intro K' hK'
  go_simp
  refine (HFU.out w1.drew).mono ?_
  rintro e w2 ⟨rfl, rfl⟩
  refine hK' _ _ (HXX.out _ (Below.refl _ w1).drew) ?_
  clear hK' K' HFU
  refine mix_op rfl ?_
  intro K' hK'
  go_simp
  refine (HFL.out w1.drew (Below.refl _ w1).drew).mono ?_
  rintro e w3 ⟨rfl, hb3⟩
  have G3 : Hid (Below w1.heap.size w1 w3) := (Below.refl _ w1).drew.trans hb3
  refine hK' _ _ (HXX.out _ G3.out) ?_
  clear hK' K' HFL hb3
  refine mix_op rfl ?_
  intro K' hK'
  go_simp
  refine hK' _ _ (HXX.out _ G3.out) ?_
  clear hK' K'
  refine mix_op rfl ?_
  intro K' hK'
  go_simp
  refine hK' _ _ (HXX.out _ G3.out) ?_
  clear hK' K'
  refine mix_done ?_
  go_wp2_with fail
  go_ret
  exact ⟨ret_int HMF.out.symm, HB.out.trans (G3.out.mono (by omega))⟩
theorem any_take {α : Type} {p : α → Bool} {l : List α} (h : ∀ j (hj : j < l.length), p l[j] = false) : l.any p = false := by
  rw [Bool.eq_false_iff]
  intro ha
  obtain ⟨x, hx, hp⟩ := List.any_eq_true.1 ha
  obtain ⟨j, hj, rfl⟩ := List.getElem_of_mem hx
  rw [h j hj] at hp; cases hp
theorem occ_at {x : Exn} {v : Int} {k : Nat} (hk : k < x.views.length) {j : Nat} (hj : j < x.views[k].length) (h : x.views[k][j] = v) : occB x v = true := by
  unfold occB
  exact List.any_eq_true.2 ⟨_, List.getElem_mem hk, List.any_eq_true.2 ⟨_, List.getElem_mem hj, decide_eq_true h⟩⟩
theorem occ_no {x : Exn} {v : Int} (h : ∀ k (hk : k < x.views.length), x.views[k].any (fun j => decide (j = v)) = false) : occB x v = false := by
  unfold occB
  exact any_take h
set_option maxRecDepth 100000 in
set_option maxHeartbeats 2000000 in
theorem roccurs_any (x : Exn) (v : Int) (hv : x.views.length ≤ 100000) (hr : ∀ l ∈ x.views, l.length ≤ 100000) (A1 A2 : Option Addr) (a1 a2 : Nat) (w : World) (hL : LAt w w.heap.size A2 x.views) :
    Calls Tryz.prog 82 #[.agg #[.int .i64 x.c, .slice A1 x.word.length a1, .slice A2 x.views.length a2], .int .i64 v] w fun e w' => e = .returned (.bool (occB x v)) ∧ Below w.heap.size w w' := by
  obtain ⟨w1, hw1, d0, hs1, hB⟩ := onebox w #[.int .i64 x.c, .slice A1 x.word.length a1, .slice A2 x.views.length a2] 42
  have HW1 := Lib.hid hw1
  have HB := Lib.hid hB
  have HL := Lib.hid ((hL.keep hB).more hB.size)
  have p2 := blk_cell d0 2 rfl
  have HR := Lib.hid hr
  have HO1 := Lib.hid (fun (k : Nat) (hk : k < x.views.length) (j : Nat) (hj : j < x.views[k].length) (h : x.views[k][j] = v) => occ_at hk hj h)
  have HO2 := Lib.hid (fun (h : ∀ k (hk : k < x.views.length), x.views[k].any (fun j => decide (j = v)) = false) => occ_no h)
  obtain ⟨r, hrr⟩ : ∃ r, occB x v = r := ⟨_, rfl⟩
  rw [hrr] at HO1 HO2 ⊢
  clear hw1 d0 hB hL hrr hr
  go_enter Tryz.func82, Tryz.ntmps82
  go_wp2_with fail
  rw [HW1.out]
  go_loopw [5] (fun i wr => ∃ k : Nat, k ≤ x.views.length ∧ i = .int .i64 (k : Int) ∧ wr = w1 ∧ Hid (∀ k' (hk : k' < x.views.length), k' < k → x.views[k'].any (fun j => decide (j = v)) = false)) (fun i _ => x.views.length - (intOf i).toNat)
  case atStart => exact ⟨0, by omega, rfl, rfl, fun k' hk h => by omega⟩
  case round =>
    obtain ⟨k, hk, rfl, rfl, hall⟩ := hrel
    by_cases hlt : k < x.views.length
    case neg =>
      obtain rfl : k = x.views.length := by omega
      have hR := Lib.hid (HO2.out fun k' hk' => hall.out k' hk' hk')
      clear HO1 HO2
      go_wp2_with fail
      go_ret
      exact ⟨ret_bool hR.out.symm, HB.out⟩
    case pos =>
    obtain ⟨bl, ol, A3, c3, eL, hbl, y1, hI⟩ := HL.out.at_ k hlt
    subst eL
    have hrl := HR.out _ (List.getElem_mem hlt)
    have HO1' := Lib.hid (HO1.out k hlt)
    have HST := Lib.hid (fun (h : x.views[k].any (fun j => decide (j = v)) = false) k' (hk' : k' < x.views.length) (hlt' : k' < k + 1) => if e : k' = k then (by subst e; exact h) else hall.out k' hk' (by omega) : x.views[k].any (fun j => decide (j = v)) = false → ∀ k' (hk : k' < x.views.length), k' < k + 1 → x.views[k'].any (fun j => decide (j = v)) = false)
    obtain ⟨row, hrw⟩ : ∃ row, x.views[k] = row := ⟨_, rfl⟩
    rw [hrw] at HST
    have HO1r : Hid (∀ j (hj : j < row.length), row[j] = v → r = true) := by subst hrw; exact HO1'.out
    rw [hrw] at y1 hI hrl
    have HI := Lib.hid hI
    have hk0 : (0 : Int) ≤ (k : Int) := by omega
    have hk1 : (k : Int) < (x.views.length : Int) := by omega
    clear hI hrw HO1' HO1 HO2 hall
    go_wp2_with fail
    obtain ⟨wp, rfl⟩ : ∃ x, x = wr := ⟨_, rfl⟩
    go_loopw [6] (fun i wx => ∃ j : Nat, j ≤ row.length ∧ i = .int .i64 (j : Int) ∧ wx = wp ∧ Hid (∀ j' (hj : j' < row.length), j' < j → decide (row[j'] = v) = false)) (fun i _ => row.length - (intOf i).toNat)
    case atStart => exact ⟨0, by omega, rfl, rfl, fun j' hj h => by omega⟩
    case round =>
      obtain ⟨j, hj, rfl, rfl, hin⟩ := hrel
      by_cases hjl : j < row.length
      case neg =>
        obtain rfl : j = row.length := by omega
        have hn := Lib.hid (HST.out (any_take fun j' hj' => hin.out j' hj' hj'))
        clear HST HO1r hin
        go_wp2_with fail
        go_roundw
        case rel => exact ⟨k + 1, by omega, by go_num, by simp, hn⟩
        case measure => simp [intOf]; omega
      case pos =>
        obtain ⟨br, orr, eR, hbr, u1⟩ := HI.out.at_ j hjl
        subst eR
        have hj0 : (0 : Int) ≤ (j : Int) := by omega
        have hj1 : (j : Int) < (row.length : Int) := by omega
        have HRT := Lib.hid (HO1r.out j hjl)
        have HIN := Lib.hid (fun (h : row[j] ≠ v) j' (hj' : j' < row.length) (hlt' : j' < j + 1) => if e : j' = j then (by subst e; exact decide_eq_false h) else hin.out j' hj' (by omega) : row[j] ≠ v → ∀ j' (hj : j' < row.length), j' < j + 1 → decide (row[j'] = v) = false)
        obtain ⟨z, hz⟩ : ∃ z, row[j] = z := ⟨_, rfl⟩
        rw [hz] at u1 HRT HIN
        clear hz hin
        by_cases he : z = v
        · have hR := Lib.hid (HRT.out he)
          have e0 : (z == v) = true := by simpa using he
          clear HRT HIN he HST HO1r
          go_wp2_with fail
          go_ret
          exact ⟨ret_bool hR.out.symm, HB.out⟩
        · have hn := Lib.hid (HIN.out he)
          have e0 : (z == v) = false := by simpa using he
          clear HRT HIN he HST HO1r
          go_wp2_with fail
          go_roundw
          case rel => exact ⟨j + 1, by omega, by go_num, by simp, hn⟩
          case measure => simp [intOf]; omega
end Go.Proofs.YtnikmmdadflefaaGreatDoor
namespace Go.Proofs.YtnikmmdadflefaaGreatDoor
open Go.RowKit
attribute [local go_sem] Oper.semAt_some
theorem matt_at {s : Sy} {K N i : Nat} {k q : Nat} (hk : k < s.xs.length) (hq : q < N) (h : xw s.xs[k] K q = (i : Int)) (hb : (maskE N s.xs[k]).toNat.testBit q = true) : mattB s K N i = true := by
  unfold mattB rowB
  exact List.any_eq_true.2 ⟨_, List.getElem_mem hk, List.any_eq_true.2 ⟨q, by simpa using hq, by rw [decide_eq_true h, hb]; rfl⟩⟩
theorem matt_no {s : Sy} {K N i : Nat} (h : ∀ k (hk : k < s.xs.length), rowB s.xs[k] K N i = false) : mattB s K N i = false := any_take h
set_option maxRecDepth 100000 in
set_option maxHeartbeats 4000000 in
theorem rmatters_any (s : Sy) (K N : Nat) (hF : Fine s K N) (i : Nat) (A SV AV AX : Option Addr) (kc ks kv kx : Nat) (w : World) (hS : SyAt w w.heap.size A SV AV AX s) :
    Calls Tryz.prog 139 #[.agg (s.vs_ A kc SV ks AV kv AX kx), .int .i64 (i : Int)] w fun e w' => e = .returned (.bool (mattB s K N i)) ∧ Below w.heap.size w w' := by
  obtain ⟨w1, hw1, d0, hs1, hB⟩ := onebox w (s.vs_ A kc SV ks AV kv AX kx) 36
  have hS1 := hS.up hB
  have HFI := Lib.hid (fun (k : Nat) (hk : k < s.xs.length) (X : World) (hX : Below w1.heap.size w1 X) => rfinal_any s K N hF k hk A SV AV AX kc ks kv kx X (hS1.up hX))
  have HMA := Lib.hid (fun (k : Nat) (hk : k < s.xs.length) (X : World) (hX : Below w1.heap.size w1 X) => rmask_any s K N hF k hk A SV AV AX kc ks kv kx X (hS1.up hX))
  have HRO := Lib.hid (fun (k : Nat) (hk : k < s.xs.length) => hF.row (List.getElem_mem hk) (Nat.le_refl K))
  have HMN := Lib.hid (fun (k : Nat) (hk : k < s.xs.length) => mask_nat hF.n1 hF.n5 (hF.word _ (List.getElem_mem hk)).2)
  have HY := Lib.hid (fun (k q : Nat) (hk : k < s.xs.length) (hq : q < N) (h : xw s.xs[k] K q = (i : Int)) (hb : (maskE N s.xs[k]).toNat.testBit q = true) => matt_at (s := s) (K := K) hk hq h hb)
  have HN := Lib.hid (fun (h : ∀ k (hk : k < s.xs.length), rowB s.xs[k] K N i = false) => matt_no (K := K) h)
  have hn5 := hF.n5
  have hlx := hF.lx
  obtain ⟨r, hr⟩ : ∃ r, mattB s K N i = r := ⟨_, rfl⟩
  rw [hr] at HY HN ⊢
  unfold Sy.vs_ at hw1 d0 HFI HMA ⊢
  have HW1 := Lib.hid hw1
  have HB := Lib.hid hB
  have HDB : Hid (∀ X, Below w1.heap.size w1 X → X.heap[w.heap.size]? = some (.cells #[.int .i64 s.p.t.n, .int .i64 s.p.t.ins, .int .i64 s.p.t.outs, .slice A s.p.t.cases.length kc, .int .i64 s.p.a.n, .slice SV s.p.a.sts.length ks, .int .i64 s.p.k, .int .i64 s.n, .slice AV s.vs.length kv, .slice AX s.xs.length kx] 36 (0, 0))) := fun X hX => (hX.block _ (blk_lt d0)).trans d0
  clear hw1 d0 hB hS hS1 hr hF
  go_enter Tryz.func139, Tryz.ntmps139
  go_wp2_with fail
  rw [HW1.out]
  go_loopw [5] (fun j wr => ∃ k : Nat, k ≤ s.xs.length ∧ j = .int .i64 (k : Int) ∧ Hid (Below w1.heap.size w1 wr) ∧ Hid (∀ k' (hk : k' < s.xs.length), k' < k → rowB s.xs[k'] K N i = false)) (fun j _ => s.xs.length - (intOf j).toNat)
  case atStart => exact ⟨0, by omega, rfl, Below.refl _ _, fun k' hk h => by omega⟩
  case round =>
    obtain ⟨k, hk, rfl, hb, hall⟩ := hrel
    have d0 := HDB.out wr hb.out
    have p0 := blk_cell d0 0 rfl
    have p1 := blk_cell d0 1 rfl
    have p2 := blk_cell d0 2 rfl
    have p3 := blk_cell d0 3 rfl
    have p4 := blk_cell d0 4 rfl
    have p5 := blk_cell d0 5 rfl
    have p6 := blk_cell d0 6 rfl
    have p7 := blk_cell d0 7 rfl
    have p8 := blk_cell d0 8 rfl
    have p9 := blk_cell d0 9 rfl
    clear d0
    by_cases hlt : k < s.xs.length
    case neg =>
      obtain rfl : k = s.xs.length := by omega
      have hR := Lib.hid (HN.out fun k' hk' => hall.out k' hk' hk')
      clear HN HY HFI HMA HRO HMN
      go_wp2_with fail
      go_ret
      exact ⟨ret_bool hR.out.symm, HB.out.trans (hb.out.mono (by omega))⟩
    case pos =>
    have hk0 : (0 : Int) ≤ (k : Int) := by omega
    have hk1 : (k : Int) < (s.xs.length : Int) := by omega
    have HFK := Lib.hid (HFI.out k hlt wr hb.out)
    obtain ⟨hrl, hri⟩ := HRO.out k hlt
    obtain ⟨m, hm, hm32⟩ := HMN.out k hlt
    have HMK := Lib.hid (HMA.out k hlt)
    have HYK := Lib.hid (fun q (hq : q < N) => HY.out k q hlt hq)
    have HST := Lib.hid (fun (h : rowB s.xs[k] K N i = false) k' (hk' : k' < s.xs.length) (hlt' : k' < k + 1) => if e : k' = k then (by subst e; exact h) else hall.out k' hk' (by omega) : rowB s.xs[k] K N i = false → ∀ k' (hk : k' < s.xs.length), k' < k + 1 → rowB s.xs[k'] K N i = false)
    rw [hm] at HMK
    obtain ⟨row, hrw⟩ : ∃ row, s.xs[k].views.getD K [] = row := ⟨_, rfl⟩
    have HXW : Hid (∀ q (hq : q < row.length), xw s.xs[k] K q = row[q]) := fun q hq => by unfold xw; rw [hrw]; exact getD_get hq _
    rw [hrw] at HFK hrl
    have HRB : Hid ((∀ q (hq : q < row.length), row[q] = (i : Int) → m.testBit q = false) → rowB s.xs[k] K N i = false) := fun h => by
      rw [Bool.eq_false_iff]
      intro hh
      unfold rowB at hh
      obtain ⟨q, hq, hp⟩ := List.any_eq_true.1 hh
      have hq2 : q < row.length := by rw [hrl]; simpa using hq
      rw [Bool.and_eq_true, decide_eq_true_eq, HXW.out q hq2, hm, Int.toNat_natCast] at hp
      rw [h q hq2 hp.1] at hp
      exact absurd hp.2 (by simp)
    have HYR : Hid (∀ q (hq : q < row.length), row[q] = (i : Int) → m.testBit q = true → r = true) := fun q hq h1 h2 => HYK.out q (by omega) ((HXW.out q hq).trans h1) (by rw [hm, Int.toNat_natCast]; exact h2)
    clear hrw hri hm HYK HXW HFI HMA HRO HMN HY HN hall
    go_wp2_with fail
    refine HFK.out.mono ?_
    rintro e w2 ⟨B, c, rfl, hI, hb2⟩
    have G2 := Lib.hid (hb.out.trans (hb2.mono hb.out.size))
    have HI := Lib.hid hI
    clear hb2 hI HFK p0 p1 p2 p3 p4 p5 p6 p7 p8 p9
    go_wp2_with fail
    go_loopw [7] (fun j wx => ∃ q : Nat, q ≤ row.length ∧ j = .int .i64 (q : Int) ∧ Hid (Below w2.heap.size w2 wx) ∧ Hid (∀ q' (hq : q' < row.length), q' < q → row[q'] = (i : Int) → m.testBit q' = false)) (fun j _ => row.length - (intOf j).toNat)
    case atStart => exact ⟨0, by omega, rfl, Below.refl _ _, fun q' hq h => by omega⟩
    case round =>
      obtain ⟨q, hq, rfl, hbx, hin⟩ := hrel
      by_cases hql : q < row.length
      case neg =>
        obtain rfl : q = row.length := by omega
        have hn := Lib.hid (HST.out (HRB.out fun q' hq' => hin.out q' hq' hq'))
        have G3 := Lib.hid (G2.out.trans (hbx.out.mono G2.out.size))
        clear HST HRB HYR hin HMK
        go_wp2_with fail
        go_roundw
        case rel => exact ⟨k + 1, by omega, by go_num, G3.out, hn⟩
        case measure => simp [intOf]; omega
      case pos =>
        obtain ⟨br, orr, eR, hbr, u1⟩ := (HI.out.keep hbx.out).at_ q hql
        subst eR
        have hq0 : (0 : Int) ≤ (q : Int) := by omega
        have hq1 : (q : Int) < (row.length : Int) := by omega
        have G3 := Lib.hid (G2.out.trans (hbx.out.mono G2.out.size))
        have HYQ := Lib.hid (HYR.out q hql)
        have HIN := Lib.hid (fun (h : row[q] = (i : Int) → m.testBit q = false) q' (hq' : q' < row.length) (hlt' : q' < q + 1) => if e : q' = q then (by subst e; exact h) else hin.out q' hq' (by omega) : (row[q] = (i : Int) → m.testBit q = false) → ∀ q' (hq : q' < row.length), q' < q + 1 → row[q'] = (i : Int) → m.testBit q' = false)
        obtain ⟨z, hz⟩ : ∃ z, row[q] = z := ⟨_, rfl⟩
        rw [hz] at u1 HYQ HIN
        clear hz hin
        by_cases he : z = (i : Int)
        case neg =>
          have hn := Lib.hid (HIN.out fun h => absurd h he)
          have e0 : (z == (i : Int)) = false := by simpa using he
          clear HYQ HIN he HMK
          go_wp2_with fail
          go_roundw
          case rel => exact ⟨q + 1, by omega, by go_num, hbx, hn⟩
          case measure => simp [intOf]; omega
        case pos =>
          have e0 : (z == (i : Int)) = true := by simpa using he
          have HMQ := Lib.hid (HMK.out _ G3.out)
          have HHQ := Lib.hid (fun (X : World) => has_any m q hm32 (by omega) X)
          have HYZ := Lib.hid (HYQ.out he)
          have HIZ := Lib.hid (fun (h : m.testBit q = false) => HIN.out fun _ => h)
          have d0 := HDB.out _ G3.out
          have p0 := blk_cell d0 0 rfl
          have p1 := blk_cell d0 1 rfl
          have p2 := blk_cell d0 2 rfl
          have p3 := blk_cell d0 3 rfl
          have p4 := blk_cell d0 4 rfl
          have p5 := blk_cell d0 5 rfl
          have p6 := blk_cell d0 6 rfl
          have p7 := blk_cell d0 7 rfl
          have p8 := blk_cell d0 8 rfl
          have p9 := blk_cell d0 9 rfl
          clear d0 HYQ HIN he
          go_wp2_with fail
          refine HMQ.out.mono ?_
          rintro e w4 ⟨rfl, hb4⟩
          have G4 := Lib.hid (hbx.out.trans (hb4.mono hbx.out.size))
          clear hb4 HMQ p0 p1 p2 p3 p4 p5 p6 p7 p8 p9 u1
          go_wp2_with fail
          refine (HHQ.out w4).mono ?_
          rintro e w5 ⟨rfl, rfl⟩
          obtain ⟨bb, hbb⟩ : ∃ bb, m.testBit q = bb := ⟨_, rfl⟩
          rw [hbb] at HYZ HIZ ⊢
          clear hbb HHQ
          cases bb with
          | true =>
            have hR := Lib.hid (HYZ.out rfl)
            go_wp2_with fail
            go_ret
            exact ⟨ret_bool hR.out.symm, HB.out.trans ((G2.out.trans (G4.out.mono G2.out.size)).mono (by omega))⟩
          | false =>
            have hn := Lib.hid (HIZ.out rfl)
            go_wp2_with fail
            go_roundw
            case rel => exact ⟨q + 1, by omega, by go_num, G4, hn⟩
            case measure => simp [intOf]; omega
end Go.Proofs.YtnikmmdadflefaaGreatDoor
namespace Go.Proofs.YtnikmmdadflefaaGreatDoor
open Go.RowKit
attribute [local go_sem] Oper.semAt_some
def fltK (p : Nat → Bool) (j : Nat) : List Int := ((List.range j).filter p).map fun (i : Nat) => (i : Int)
theorem fltK_yes {p : Nat → Bool} {j : Nat} (h : p j = true) : fltK p (j + 1) = fltK p j ++ [(j : Int)] := by
  unfold fltK; rw [List.range_succ, List.filter_append, List.map_append, List.filter_cons, if_pos h]; rfl
theorem fltK_no {p : Nat → Bool} {j : Nat} (h : p j = false) : fltK p (j + 1) = fltK p j := by
  unfold fltK; rw [List.range_succ, List.filter_append, List.map_append, List.filter_cons, if_neg (by rw [h]; decide)]; simp
theorem fltK_len (p : Nat → Bool) (j : Nat) : (fltK p j).length ≤ j := by
  unfold fltK; rw [List.length_map]; exact Nat.le_trans (List.length_filter_le _ _) (by simp)
def RetIL (xs : List Int) (w : World) (e : Ending) (w' : World) : Prop := ∃ A c, e = .returned (.slice A xs.length c) ∧ IAt w' w'.heap.size A xs ∧ Below w.heap.size w w'
set_option maxRecDepth 100000 in
set_option maxHeartbeats 4000000 in
theorem rdecisive_any (s : Sy) (K N : Nat) (hF : Fine s K N) (A SV AV AX : Option Addr) (kc ks kv kx : Nat) (w : World) (hS : SyAt w w.heap.size A SV AV AX s) :
    Calls Tryz.prog 85 #[.agg (s.vs_ A kc SV ks AV kv AX kx)] w (RetIL (fltK (mattB s K N) s.vs.length) w) := by
  obtain ⟨w1, hw1, d0, hs1, hB⟩ := onebox w (s.vs_ A kc SV ks AV kv AX kx) 36
  have hS1 := hS.up hB
  have HMT := Lib.hid (fun (i : Nat) (X : World) (hX : Below w1.heap.size w1 X) => rmatters_any s K N hF i A SV AV AX kc ks kv kx X (hS1.up hX))
  have hlv := hF.lv
  obtain ⟨pp, hpp⟩ : ∃ pp, mattB s K N = pp := ⟨_, rfl⟩
  simp only [hpp] at HMT ⊢
  unfold Sy.vs_ at hw1 d0 HMT ⊢
  have HW1 := Lib.hid hw1
  have HB := Lib.hid hB
  have HDB : Hid (∀ X, Below w1.heap.size w1 X → X.heap[w.heap.size]? = some (.cells #[.int .i64 s.p.t.n, .int .i64 s.p.t.ins, .int .i64 s.p.t.outs, .slice A s.p.t.cases.length kc, .int .i64 s.p.a.n, .slice SV s.p.a.sts.length ks, .int .i64 s.p.k, .int .i64 s.n, .slice AV s.vs.length kv, .slice AX s.xs.length kx] 36 (0, 0))) := fun X hX => (hX.block _ (blk_lt d0)).trans d0
  clear hw1 d0 hB hS hS1 hpp hF
  go_enter Tryz.func85, Tryz.ntmps85
  go_wp2_with fail
  rw [HW1.out]
  go_loopw [3, 4] (fun o i wx => ∃ j : Nat, j ≤ s.vs.length ∧ i = .int .i64 (j : Int) ∧ Hid (OwnR kIn wx w1.heap.size o (fltK pp j).length ((fltK pp j).map (Value.int .i64))) ∧ Hid (Below w1.heap.size w1 wx)) (fun _ i _ => s.vs.length - (intOf i).toNat)
  case atStart => exact ⟨0, by omega, rfl, OwnR.nil _ _ _, Below.refl _ _⟩
  case round =>
    obtain ⟨j, hj, rfl, HO, hb⟩ := hrel
    have d0 := HDB.out wr hb.out
    have p0 := blk_cell d0 0 rfl
    have p1 := blk_cell d0 1 rfl
    have p2 := blk_cell d0 2 rfl
    have p3 := blk_cell d0 3 rfl
    have p4 := blk_cell d0 4 rfl
    have p5 := blk_cell d0 5 rfl
    have p6 := blk_cell d0 6 rfl
    have p7 := blk_cell d0 7 rfl
    have p8 := blk_cell d0 8 rfl
    have p9 := blk_cell d0 9 rfl
    clear d0
    by_cases hlt : j < s.vs.length
    case neg =>
      obtain rfl : j = s.vs.length := by omega
      obtain ⟨AO, ko, eO, hI⟩ := own_iat HO.out
      rw [eO]
      have HI := Lib.hid hI
      clear eO hI HO HMT
      go_wp2_with fail
      go_ret
      exact ⟨AO, ko, rfl, HI.out, HB.out.trans (hb.out.mono (by omega))⟩
    case pos =>
    obtain ⟨AO, ko, eO, hu1, hu2, hu3⟩ := HO.out.form
    subst eO
    have hj0 : (0 : Int) ≤ (j : Int) := by omega
    have hj1 : (j : Int) < (s.vs.length : Int) := by omega
    have HMJ := Lib.hid (HMT.out j wr hb.out)
    have HKN := Lib.hid (@fltK_no pp j)
    have HKY := Lib.hid (@fltK_yes pp j)
    have HLK := Lib.hid (fltK_len pp j)
    obtain ⟨b, hbb⟩ : ∃ b, pp j = b := ⟨_, rfl⟩
    rw [hbb] at HMJ HKN HKY
    clear hbb hu1 hu2 hu3 HMT
    go_wp2_with fail
    refine HMJ.out.mono ?_
    rintro e w6 ⟨rfl, hb6⟩
    have HB6 := Lib.hid (hb.out.trans (hb6.mono hb.out.size))
    have HO6 := Lib.hid (HO.out.below hb6 (Nat.le_refl _))
    clear hb6 HMJ p0 p1 p2 p3 p4 p5 p6 p7 p8 p9
    cases b with
    | false =>
      have HHY := Lib.hid (HKN.out rfl)
      clear HKN HKY
      go_wp2_with fail
      go_roundw
      case rel => exact ⟨j + 1, by omega, by go_num, by rw [HHY.out]; exact HO6.out, HB6⟩
      case measure => simp [intOf]; omega
    | true =>
      have HHY := Lib.hid (HKY.out rfl)
      have HLZ : Hid ((fltK pp j).length ≤ 1000000000) := by show _ ≤ _; have := HLK.out; omega
      have HLE : Hid ((fltK pp (j + 1)).length = (fltK pp j).length + 1) := by show _ = _; rw [HHY.out]; simp
      clear HKN HKY
      have HRN := Lib.hid (HO6.out.alloc (.cells #[.int .i64 j] 3))
      have HGN := Lib.hid (blk_new w6 (.cells #[.int .i64 j] 3))
      have HDZ : Hid (w1.heap.size ≤ (w6.alloc (.cells #[.int .i64 j] 3)).heap.size) := by show _ ≤ _; have := HB6.out.size; simp; omega
      go_wp2_with (at_builtin; refine wpList_appR kIn_ok rfl (.tmp 16) (.tmp 18) rfl w1.heap.size (.slice AO (fltK pp j).length ko) (fltK pp j).length ((fltK pp j).map (Value.int .i64)) rfl HRN.out w6.heap.size #[.int .i64 j] rfl HGN.out rfl (by simp [Value.oneCell']) HLZ.out HDZ.out _ rfl ?_; intro g' cap w12 hr7 hg7 hat7 hlt7; have HR7 := Lib.hid hr7; have HG7 : Hid (Below w1.heap.size w1 w12) := ((HB6.out.trans ((bel1 w6 _).mono HB6.out.size)).grown hg7 (by exact HDZ.out) (fun k hk => (HO6.out.lt k hk).1)); clear hr7 hg7 hat7 hlt7)
      go_roundw
      case rel => exact ⟨j + 1, by omega, by go_num, by rw [HLE.out, HHY.out, List.map_append]; exact HR7.out, HG7⟩
      case measure => simp [intOf]; omega
def ltrK (vs : List Vw) (i : Nat) (l : List Nat) (k : Nat) : List Int := ((l.take k).filter fun j => cont vs i j).map fun (j : Nat) => (j : Int)
theorem ltrK_yes {vs : List Vw} {i : Nat} {l : List Nat} {k : Nat} (hk : k < l.length) (h : cont vs i l[k] = true) : ltrK vs i l (k + 1) = ltrK vs i l k ++ [(l[k] : Int)] := by
  unfold ltrK; rw [List.take_succ_eq_append_getElem hk, List.filter_append, List.map_append, List.filter_cons, if_pos h]; rfl
theorem ltrK_no {vs : List Vw} {i : Nat} {l : List Nat} {k : Nat} (hk : k < l.length) (h : cont vs i l[k] = false) : ltrK vs i l (k + 1) = ltrK vs i l k := by
  unfold ltrK; rw [List.take_succ_eq_append_getElem hk, List.filter_append, List.map_append, List.filter_cons, if_neg (by rw [h]; decide)]; simp
theorem ltrK_len (vs : List Vw) (i : Nat) (l : List Nat) (k : Nat) : (ltrK vs i l k).length ≤ k := by
  unfold ltrK; rw [List.length_map]; exact Nat.le_trans (List.length_filter_le _ _) (by rw [List.length_take]; exact Nat.min_le_left _ _)
theorem flt_deci (s : Sy) (K N : Nat) : fltK (mattB s K N) s.vs.length = (deciE s K N).map fun (i : Nat) => (i : Int) := rfl
set_option maxRecDepth 100000 in
set_option maxHeartbeats 4000000 in
theorem rlater_any (s : Sy) (K N : Nat) (hF : Fine s K N) (hw : Wf s.n s.vs) (i : Nat) (hi : i < s.vs.length) (A SV AV AX : Option Addr) (kc ks kv kx : Nat) (w : World) (hS : SyAt w w.heap.size A SV AV AX s) (hk1 : s.vs.length ≤ kv) (hk2 : kv ≤ maxLen) :
    Calls Tryz.prog 88 #[.agg (s.vs_ A kc SV ks AV kv AX kx), .int .i64 (i : Int)] w (RetIL (ltrK s.vs i (deciE s K N) (deciE s K N).length) w) := by
  obtain ⟨w1, hw1, d0, hs1, hB⟩ := onebox w (s.vs_ A kc SV ks AV kv AX kx) 36
  have hS1 := hS.up hB
  have HDC := Lib.hid (rdecisive_any s K N hF A SV AV AX kc ks kv kx w1 hS1)
  have hlv := hF.lv
  have HAF := Lib.hid (fun (j : Nat) (hj : j < s.vs.length) (X : World) (hX : Below w1.heap.size w1 X) => after_any s.n AV kv s.vs hw i hi j hj X ⟨(hS1.up hX).fv, hk1, hk2, by omega⟩)
  have hdl : ∀ x ∈ deciE s K N, x < s.vs.length := fun x hx => by unfold deciE at hx; rw [List.mem_filter, List.mem_range] at hx; exact hx.1
  have hdn : (deciE s K N).length ≤ s.vs.length := by unfold deciE; exact Nat.le_trans (List.length_filter_le _ _) (by simp)
  rw [flt_deci] at HDC
  obtain ⟨dl, hdd⟩ : ∃ dl, deciE s K N = dl := ⟨_, rfl⟩
  rw [hdd] at HDC hdl hdn ⊢
  unfold RetIL at HDC
  rw [List.length_map] at HDC
  unfold Sy.vs_ at hw1 d0 HDC ⊢
  have HW1 := Lib.hid hw1
  have HB := Lib.hid hB
  have HDL := Lib.hid hdl
  have HDB : Hid (∀ X, Below w1.heap.size w1 X → X.heap[w.heap.size]? = some (.cells #[.int .i64 s.p.t.n, .int .i64 s.p.t.ins, .int .i64 s.p.t.outs, .slice A s.p.t.cases.length kc, .int .i64 s.p.a.n, .slice SV s.p.a.sts.length ks, .int .i64 s.p.k, .int .i64 s.n, .slice AV s.vs.length kv, .slice AX s.xs.length kx] 36 (0, 0))) := fun X hX => (hX.block _ (blk_lt d0)).trans d0
  have p0 := blk_cell d0 0 rfl
  have p1 := blk_cell d0 1 rfl
  have p2 := blk_cell d0 2 rfl
  have p3 := blk_cell d0 3 rfl
  have p4 := blk_cell d0 4 rfl
  have p5 := blk_cell d0 5 rfl
  have p6 := blk_cell d0 6 rfl
  have p7 := blk_cell d0 7 rfl
  have p8 := blk_cell d0 8 rfl
  have p9 := blk_cell d0 9 rfl
  clear hw1 d0 hB hS hS1 hdd hF hw hdl hk1 hk2
  go_enter Tryz.func88, Tryz.ntmps88
  go_wp2_with fail
  rw [HW1.out]
  go_wp2_with fail
  refine HDC.out.mono ?_
  rintro e w2 ⟨DA, dc, rfl, hI, hb2⟩
  have G2 := Lib.hid hb2
  have HI := Lib.hid hI
  clear hb2 hI HDC p0 p1 p2 p3 p4 p5 p6 p7 p8 p9 HW1
  go_wp2_with fail
  go_loopw [6, 7] (fun o x wx => ∃ j : Nat, j ≤ dl.length ∧ x = .int .i64 (j : Int) ∧ Hid (OwnR kIn wx w2.heap.size o (ltrK s.vs i dl j).length ((ltrK s.vs i dl j).map (Value.int .i64))) ∧ Hid (Below w2.heap.size w2 wx)) (fun _ x _ => dl.length - (intOf x).toNat)
  case atStart => exact ⟨0, by omega, rfl, OwnR.nil _ _ _, Below.refl _ _⟩
  case round =>
    obtain ⟨j, hj, rfl, HO, hb⟩ := hrel
    by_cases hlt : j < dl.length
    case neg =>
      obtain rfl : j = dl.length := by omega
      obtain ⟨AO, ko, eO, hI⟩ := own_iat HO.out
      rw [eO]
      have HI2 := Lib.hid hI
      clear eO hI HO HAF
      go_wp2_with fail
      go_ret
      exact ⟨AO, ko, rfl, HI2.out, HB.out.trans ((G2.out.trans (hb.out.mono G2.out.size)).mono (by omega))⟩
    case pos =>
    obtain ⟨AO, ko, eO, hu1, hu2, hu3⟩ := HO.out.form
    subst eO
    have d0 := HDB.out wr (G2.out.trans (hb.out.mono G2.out.size))
    have p7 := blk_cell d0 7 rfl
    have p8 := blk_cell d0 8 rfl
    obtain ⟨br, orr, eR, hbr, u1⟩ := (HI.out.keep hb.out).at_ j (by simpa using hlt)
    subst eR
    rw [List.getElem_map] at u1
    have hj0 : (0 : Int) ≤ (j : Int) := by omega
    have hj1 : (j : Int) < (dl.length : Int) := by omega
    have HAJ := Lib.hid (fun (X : World) (hX : Below w1.heap.size w1 X) => HAF.out dl[j] (HDL.out _ (List.getElem_mem hlt)) X hX)
    have HKN := Lib.hid (fun h => ltrK_no (vs := s.vs) (i := i) hlt h)
    have HKY := Lib.hid (fun h => ltrK_yes (vs := s.vs) (i := i) hlt h)
    have HLK := Lib.hid (ltrK_len s.vs i dl j)
    obtain ⟨z, hz⟩ : ∃ z, dl[j] = z := ⟨_, rfl⟩
    rw [hz] at u1 HAJ HKN HKY
    obtain ⟨b, hbb⟩ : ∃ b, cont s.vs i z = b := ⟨_, rfl⟩
    rw [hbb] at HAJ HKN HKY
    have U1 := Lib.hid u1
    have HBR := Lib.hid hbr
    clear hbb hu1 hu2 hu3 d0 hz HAF
    go_wp2_with fail
    go_still_tail 7, (by kernel_rfl)
    change wpList _ _ _ _ _ wr.drew
    obtain ⟨wd, hwd⟩ : ∃ wd, wd = wr.drew := ⟨_, rfl⟩
    have BLd : Hid (Below wr.heap.size wr wd) := by rw [hwd]; exact (Below.refl _ _).drew
    rw [← hwd]
    clear hwd p7 p8 u1
    go_wp2_with fail
    refine (HAJ.out wd (G2.out.trans ((hb.out.trans (BLd.out.mono hb.out.size)).mono G2.out.size))).mono ?_
    rintro e w6 ⟨rfl, hb6⟩
    have HB0 := Lib.hid (BLd.out.trans (hb6.mono BLd.out.size))
    have HB6 := Lib.hid (hb.out.trans (HB0.out.mono hb.out.size))
    have HO6 := Lib.hid (HO.out.below HB0.out (Nat.le_refl _))
    have u2 := (HB0.out.cell (p := ⟨br, orr + j, none⟩) (by have := HBR.out; show br < _; have := hb.out.size; omega)).trans U1.out
    clear hb6 HAJ BLd U1
    cases b with
    | false =>
      have HHY := Lib.hid (HKN.out rfl)
      clear HKN HKY
      go_wp2_with fail
      go_roundw
      case rel => exact ⟨j + 1, by omega, by go_num, by rw [HHY.out]; exact HO6.out, HB6⟩
      case measure => simp [intOf]; omega
    | true =>
      have HHY := Lib.hid (HKY.out rfl)
      have HLZ : Hid ((ltrK s.vs i dl j).length ≤ 1000000000) := by show _ ≤ _; have := HLK.out; omega
      have HLE : Hid ((ltrK s.vs i dl (j + 1)).length = (ltrK s.vs i dl j).length + 1) := by show _ = _; rw [HHY.out]; simp
      clear HKN HKY
      have HRN := Lib.hid (HO6.out.alloc (.cells #[.int .i64 (z : Int)] 3))
      have HGN := Lib.hid (blk_new w6 (.cells #[.int .i64 (z : Int)] 3))
      have HDZ : Hid (w2.heap.size ≤ (w6.alloc (.cells #[.int .i64 (z : Int)] 3)).heap.size) := by show _ ≤ _; have := HB6.out.size; simp; omega
      go_wp2_with (at_builtin; refine wpList_appR kIn_ok rfl (.tmp 24) (.tmp 29) rfl w2.heap.size (.slice AO (ltrK s.vs i dl j).length ko) (ltrK s.vs i dl j).length ((ltrK s.vs i dl j).map (Value.int .i64)) rfl HRN.out w6.heap.size #[.int .i64 (z : Int)] rfl HGN.out rfl (by simp [Value.oneCell']) HLZ.out HDZ.out _ rfl ?_; intro g' cap w12 hr7 hg7 hat7 hlt7; have HR7 := Lib.hid hr7; have HG7 : Hid (Below w2.heap.size w2 w12) := ((HB6.out.trans ((bel1 w6 _).mono HB6.out.size)).grown hg7 (by exact HDZ.out) (fun k hk => (HO6.out.lt k hk).1)); clear hr7 hg7 hat7 hlt7)
      go_roundw
      case rel => exact ⟨j + 1, by omega, by go_num, by rw [HLE.out, HHY.out, List.map_append]; exact HR7.out, HG7⟩
      case measure => simp [intOf]; omega
end Go.Proofs.YtnikmmdadflefaaGreatDoor
namespace Go.Proofs.YtnikmmdadflefaaGreatDoor
open Go.RowKit
attribute [local go_sem] Oper.semAt_some
theorem ver_prob {s : Sy} (_hf : FewX s.p) (h : verE s = 0) : probE s.p = 0 := by
  unfold verE at h
  by_cases h1 : (buildE s.p).2 ≠ 0
  · rw [if_pos h1] at h; exact absurd h h1
  · by_cases h0 : probE s.p = 0
    · exact h0
    · rw [buildE_bad h0] at h1; exact absurd h0 h1
set_option maxRecDepth 100000 in
set_option maxHeartbeats 2000000 in
theorem robliged_any (s : Sy) (hs : LowS s) (hf : FewX s.p) (i : Int) (A SV AV AX : Option Addr) (kc ks kv kx : Nat) (w : World) (hS : SyAt w w.heap.size A SV AV AX s) :
    Calls Tryz.prog 31 #[.agg (s.vs_ A kc SV ks AV kv AX kx), .int .i64 i] w fun e w' => e = .returned (.tuple #[.int .i64 (oblE s i).1, .int .i64 (oblE s i).2]) ∧ Below w.heap.size w w' := by
  obtain ⟨w1, hw1, d0, hs1, hB⟩ := onebox w (s.vs_ A kc SV ks AV kv AX kx) 36
  have hS1 := hS.up hB
  have HV := Lib.hid (rver_any s hs hf A SV AV AX kc ks kv kx w1 hS1)
  have HVF := Lib.hid (fun h => ver_fine hf h)
  have HSX : Hid (∀ X, Below w1.heap.size w1 X → SyAt X X.heap.size A SV AV AX s) := fun X hX => hS1.up hX
  have HE1 := Lib.hid (@oblE_bad s i)
  have HE2 := Lib.hid (@oblE_out s i)
  have HE3 := Lib.hid (fun (K N k : Nat) (hF : Fine s K N) (h : verE s = 0) (h2 : k < s.xs.length) => oblE_in hF h h2)
  have HMK := Lib.hid (fun (K N : Nat) (hF : Fine s K N) (k : Nat) (hk : k < s.xs.length) (X : World) (hX : Below w1.heap.size w1 X) => rmask_any s K N hF k hk A SV AV AX kc ks kv kx X (hS1.up hX))
  obtain ⟨E, hE⟩ : ∃ E, verE s = E := ⟨_, rfl⟩
  rw [hE] at HV HE1 HE2 HE3 HVF
  unfold Sy.vs_ at hw1 d0 HV HMK ⊢
  have HW1 := Lib.hid hw1
  have HB := Lib.hid hB
  have HDB : Hid (∀ X, Below w1.heap.size w1 X → X.heap[w.heap.size]? = some (.cells #[.int .i64 s.p.t.n, .int .i64 s.p.t.ins, .int .i64 s.p.t.outs, .slice A s.p.t.cases.length kc, .int .i64 s.p.a.n, .slice SV s.p.a.sts.length ks, .int .i64 s.p.k, .int .i64 s.n, .slice AV s.vs.length kv, .slice AX s.xs.length kx] 36 (0, 0))) := fun X hX => (hX.block _ (blk_lt d0)).trans d0
  have p0 := blk_cell d0 0 rfl
  have p1 := blk_cell d0 1 rfl
  have p2 := blk_cell d0 2 rfl
  have p3 := blk_cell d0 3 rfl
  have p4 := blk_cell d0 4 rfl
  have p5 := blk_cell d0 5 rfl
  have p6 := blk_cell d0 6 rfl
  have p7 := blk_cell d0 7 rfl
  have p8 := blk_cell d0 8 rfl
  have p9 := blk_cell d0 9 rfl
  clear hw1 d0 hB hS hS1 hs hf hE HSX
  go_enter Tryz.func31, Tryz.ntmps31
  go_wp2_with fail
  rw [HW1.out]
  go_wp2_with fail
  refine HV.out.mono ?_
  rintro e w2 ⟨rfl, hb2⟩
  have G2 := Lib.hid hb2
  have HB2 := Lib.hid (HB.out.trans (hb2.mono (by omega)))
  have d0 := HDB.out w2 hb2
  have hs2 := hb2.size
  clear hb2 HV HW1 p0 p1 p2 p3 p4 p5 p6 p7 p8 p9
  have p0 := blk_cell d0 0 rfl
  have p1 := blk_cell d0 1 rfl
  have p2 := blk_cell d0 2 rfl
  have p3 := blk_cell d0 3 rfl
  have p4 := blk_cell d0 4 rfl
  have p5 := blk_cell d0 5 rfl
  have p6 := blk_cell d0 6 rfl
  have p7 := blk_cell d0 7 rfl
  have p8 := blk_cell d0 8 rfl
  have p9 := blk_cell d0 9 rfl
  clear d0
  by_cases h0 : E = 0
  case neg =>
    have hR := Lib.hid (HE1.out h0)
    have e0 : (E != 0) = true := by simpa using h0
    clear HE1 HE2 HE3 HVF HMK h0
    go_wp2_with fail
    go_ret2
    rw [hR.out]
    exact ⟨rfl, HB2.out⟩
  case pos =>
  subst h0
  by_cases h1 : i < 0 ∨ (s.xs.length : Int) ≤ i
  · have hR := Lib.hid (HE2.out rfl h1)
    clear HE1 HE2 HE3 HVF HMK
    by_cases h2 : i < 0
    · go_wp2_with fail
      all_goals first | (exfalso; omega) | skip
      all_goals
        go_ret2
        rw [hR.out]
        exact ⟨rfl, HB2.out⟩
    · have h3 : (s.xs.length : Int) ≤ i := by omega
      clear h1
      go_wp2_with fail
      all_goals first | (exfalso; omega) | skip
      all_goals
        go_ret2
        rw [hR.out]
        exact ⟨rfl, HB2.out⟩
  · obtain ⟨hsb, K, N, hF⟩ := HVF.out rfl
    clear hsb
    obtain ⟨k, rfl⟩ := Int.eq_ofNat_of_zero_le (show 0 ≤ i by omega)
    have hk : k < s.xs.length := by omega
    have hR := Lib.hid (HE3.out K N k hF rfl hk)
    have HM := Lib.hid (HMK.out K N hF k hk w2 G2.out)
    obtain ⟨M, hM⟩ : ∃ M, maskE N s.xs[k] = M := ⟨_, rfl⟩
    rw [hM] at HM hR
    have hk0 : (0 : Int) ≤ (k : Int) := by omega
    have hk1 : (k : Int) < (s.xs.length : Int) := by omega
    clear HE1 HE2 HE3 HVF HMK hF hM h1 hk
    go_wp2_with fail
    all_goals first | (exfalso; omega) | skip
    refine HM.out.mono ?_
    rintro e w3 ⟨rfl, hb3⟩
    have HB3 := Lib.hid (HB2.out.trans (hb3.mono HB2.out.size))
    clear hb3 HM
    go_wp2_with fail
    go_ret2
    rw [hR.out]
    exact ⟨rfl, HB3.out⟩
set_option maxRecDepth 100000 in
set_option maxHeartbeats 2000000 in
theorem rrelevant_any (s : Sy) (hs : LowS s) (hf : FewX s.p) (A SV AV AX : Option Addr) (kc ks kv kx : Nat) (w : World) (hS : SyAt w w.heap.size A SV AV AX s) :
    Calls Tryz.prog 35 #[.agg (s.vs_ A kc SV ks AV kv AX kx)] w (RetLE (relvE s) (verE s) w) := by
  obtain ⟨w1, hw1, d0, hs1, hB⟩ := onebox w (s.vs_ A kc SV ks AV kv AX kx) 36
  have hS1 := hS.up hB
  have HV := Lib.hid (rver_any s hs hf A SV AV AX kc ks kv kx w1 hS1)
  have HVF := Lib.hid (fun h => ver_fine hf h)
  have HSX : Hid (∀ X, Below w1.heap.size w1 X → SyAt X X.heap.size A SV AV AX s) := fun X hX => hS1.up hX
  have HH : Hid (relvE s = if verE s ≠ 0 then [] else relE s s.p.k.toNat s.n.toNat (fun _ => true)) := rfl
  have HDC := Lib.hid (fun (K N : Nat) (hF : Fine s K N) (X : World) (hX : Below w1.heap.size w1 X) => rdecisive_any s K N hF A SV AV AX kc ks kv kx X (hS1.up hX))
  obtain ⟨R, hR⟩ : ∃ R, relvE s = R := ⟨_, rfl⟩
  rw [hR] at HH ⊢
  obtain ⟨E, hE⟩ : ∃ E, verE s = E := ⟨_, rfl⟩
  rw [hE] at HV HH HVF ⊢
  unfold RetLE
  unfold Sy.vs_ at hw1 d0 HV HDC ⊢
  have HW1 := Lib.hid hw1
  have HB := Lib.hid hB
  have HDB : Hid (∀ X, Below w1.heap.size w1 X → X.heap[w.heap.size]? = some (.cells #[.int .i64 s.p.t.n, .int .i64 s.p.t.ins, .int .i64 s.p.t.outs, .slice A s.p.t.cases.length kc, .int .i64 s.p.a.n, .slice SV s.p.a.sts.length ks, .int .i64 s.p.k, .int .i64 s.n, .slice AV s.vs.length kv, .slice AX s.xs.length kx] 36 (0, 0))) := fun X hX => (hX.block _ (blk_lt d0)).trans d0
  have p0 := blk_cell d0 0 rfl
  have p1 := blk_cell d0 1 rfl
  have p2 := blk_cell d0 2 rfl
  have p3 := blk_cell d0 3 rfl
  have p4 := blk_cell d0 4 rfl
  have p5 := blk_cell d0 5 rfl
  have p6 := blk_cell d0 6 rfl
  have p7 := blk_cell d0 7 rfl
  have p8 := blk_cell d0 8 rfl
  have p9 := blk_cell d0 9 rfl
  clear hw1 d0 hB hS hS1 hs hf hE HSX hR
  go_enter Tryz.func35, Tryz.ntmps35
  go_wp2_with fail
  rw [HW1.out]
  go_wp2_with fail
  refine HV.out.mono ?_
  rintro e w2 ⟨rfl, hb2⟩
  have G2 := Lib.hid hb2
  have HB2 := Lib.hid (HB.out.trans (hb2.mono (by omega)))
  have d0 := HDB.out w2 hb2
  have hs2 := hb2.size
  clear hb2 HV HW1 p0 p1 p2 p3 p4 p5 p6 p7 p8 p9
  have p0 := blk_cell d0 0 rfl
  have p1 := blk_cell d0 1 rfl
  have p2 := blk_cell d0 2 rfl
  have p3 := blk_cell d0 3 rfl
  have p4 := blk_cell d0 4 rfl
  have p5 := blk_cell d0 5 rfl
  have p6 := blk_cell d0 6 rfl
  have p7 := blk_cell d0 7 rfl
  have p8 := blk_cell d0 8 rfl
  have p9 := blk_cell d0 9 rfl
  clear d0
  by_cases h0 : E = 0
  case neg =>
    have hR : Hid (R = []) := HH.out.trans (if_pos h0)
    have e0 : (E != 0) = true := by simpa using h0
    clear HH HVF HDC h0
    go_wp2_with fail
    go_ret2
    rw [hR.out]
    exact ⟨none, 0, rfl, IAt.nil _ _ _, HB2.out⟩
  case pos =>
  subst h0
  obtain ⟨hsb, K, N, hF⟩ := HVF.out rfl
  clear hsb
  have hR : Hid (R = fltK (mattB s K N) s.vs.length) := by
    show _ = _
    rw [HH.out, if_neg (by simp), show s.p.k.toNat = K by have := hF.k; omega, show s.n.toNat = N by have := hF.n; omega, rel_deci hF]; rfl
  have HD := Lib.hid (HDC.out K N hF w2 G2.out)
  unfold RetIL at HD
  rw [← hR.out] at HD
  clear HH HVF HDC hF hR
  go_wp2_with fail
  refine HD.out.mono ?_
  rintro e w3 ⟨DA, dc, rfl, hI, hb3⟩
  have HB3 := Lib.hid (HB2.out.trans (hb3.mono HB2.out.size))
  have HI := Lib.hid hI
  clear hb3 hI HD
  go_wp2_with fail
  go_ret2
  exact ⟨DA, dc, rfl, HI.out, HB3.out⟩
set_option maxRecDepth 100000 in
set_option maxHeartbeats 2000000 in
theorem rcontinuing_any (s : Sy) (hs : LowS s) (hf : FewX s.p) (i : Int) (A SV AV AX : Option Addr) (kc ks kv kx : Nat) (w : World) (hS : SyAt w w.heap.size A SV AV AX s) (hk1 : s.vs.length ≤ kv) (hk2 : kv ≤ maxLen) :
    Calls Tryz.prog 37 #[.agg (s.vs_ A kc SV ks AV kv AX kx), .int .i64 i] w (RetLE (clE s i) (viewxE s i) w) := by
  obtain ⟨w1, hw1, d0, hs1, hB⟩ := onebox w (s.vs_ A kc SV ks AV kv AX kx) 36
  have hS1 := hS.up hB
  have HV := Lib.hid (rver_any s hs hf A SV AV AX kc ks kv kx w1 hS1)
  have HVF := Lib.hid (fun h => ver_fine hf h)
  have HSX : Hid (∀ X, Below w1.heap.size w1 X → SyAt X X.heap.size A SV AV AX s) := fun X hX => hS1.up hX
  have HH : Hid (clE s i = if viewxE s i ≠ 0 then [] else relE s s.p.k.toNat s.n.toNat (fun j => clB s.vs i j)) := rfl
  have HE : Hid (viewxE s i = if verE s ≠ 0 then verE s else if i < 0 ∨ (s.vs.length : Int) ≤ i then 6 else 0) := rfl
  have HWF := Lib.hid (fun (K N : Nat) (hF : Fine s K N) (h : verE s = 0) => (by obtain ⟨e, _⟩ := ver_fine hf h; have h0 := ver_prob hf h; rw [e] at hF ⊢; exact built_wf h0 hF : Wf s.n s.vs))
  have HDC := Lib.hid (fun (K N : Nat) (hF : Fine s K N) (hw : Wf s.n s.vs) (j : Nat) (hj : j < s.vs.length) (X : World) (hX : Below w1.heap.size w1 X) => rlater_any s K N hF hw j hj A SV AV AX kc ks kv kx X (hS1.up hX) hk1 hk2)
  obtain ⟨R, hR⟩ : ∃ R, clE s i = R := ⟨_, rfl⟩
  obtain ⟨r, hr⟩ : ∃ r, viewxE s i = r := ⟨_, rfl⟩
  rw [hR, hr] at HH ⊢
  rw [hr] at HE
  obtain ⟨E, hE⟩ : ∃ E, verE s = E := ⟨_, rfl⟩
  rw [hE] at HV HE HVF HWF
  unfold RetLE
  unfold Sy.vs_ at hw1 d0 HV HDC ⊢
  have HW1 := Lib.hid hw1
  have HB := Lib.hid hB
  have HDB : Hid (∀ X, Below w1.heap.size w1 X → X.heap[w.heap.size]? = some (.cells #[.int .i64 s.p.t.n, .int .i64 s.p.t.ins, .int .i64 s.p.t.outs, .slice A s.p.t.cases.length kc, .int .i64 s.p.a.n, .slice SV s.p.a.sts.length ks, .int .i64 s.p.k, .int .i64 s.n, .slice AV s.vs.length kv, .slice AX s.xs.length kx] 36 (0, 0))) := fun X hX => (hX.block _ (blk_lt d0)).trans d0
  have p0 := blk_cell d0 0 rfl
  have p1 := blk_cell d0 1 rfl
  have p2 := blk_cell d0 2 rfl
  have p3 := blk_cell d0 3 rfl
  have p4 := blk_cell d0 4 rfl
  have p5 := blk_cell d0 5 rfl
  have p6 := blk_cell d0 6 rfl
  have p7 := blk_cell d0 7 rfl
  have p8 := blk_cell d0 8 rfl
  have p9 := blk_cell d0 9 rfl
  clear hw1 d0 hB hS hS1 hs hf hE HSX hR hr hk1 hk2
  go_enter Tryz.func37, Tryz.ntmps37
  go_wp2_with fail
  rw [HW1.out]
  go_wp2_with fail
  refine HV.out.mono ?_
  rintro e w2 ⟨rfl, hb2⟩
  have G2 := Lib.hid hb2
  have HB2 := Lib.hid (HB.out.trans (hb2.mono (by omega)))
  have d0 := HDB.out w2 hb2
  have hs2 := hb2.size
  clear hb2 HV HW1 p0 p1 p2 p3 p4 p5 p6 p7 p8 p9
  have p0 := blk_cell d0 0 rfl
  have p1 := blk_cell d0 1 rfl
  have p2 := blk_cell d0 2 rfl
  have p3 := blk_cell d0 3 rfl
  have p4 := blk_cell d0 4 rfl
  have p5 := blk_cell d0 5 rfl
  have p6 := blk_cell d0 6 rfl
  have p7 := blk_cell d0 7 rfl
  have p8 := blk_cell d0 8 rfl
  have p9 := blk_cell d0 9 rfl
  clear d0
  by_cases h0 : E = 0
  case neg =>
    have hR : Hid (r = E ∧ R = []) := by
      have h2 : r = E := HE.out.trans (if_pos h0)
      exact ⟨h2, HH.out.trans (if_pos (by rw [h2]; exact h0))⟩
    have e0 : (E != 0) = true := by simpa using h0
    clear HH HVF HDC HWF HE h0
    go_wp2_with fail
    go_ret2
    rw [hR.out.1, hR.out.2]
    exact ⟨none, 0, rfl, IAt.nil _ _ _, HB2.out⟩
  case pos =>
  subst h0
  have HE2 : Hid (r = if i < 0 ∨ (s.vs.length : Int) ≤ i then 6 else 0) := HE.out.trans (if_neg (by simp))
  clear HE
  by_cases h1 : i < 0 ∨ (s.vs.length : Int) ≤ i
  · have hR : Hid (r = 6 ∧ R = []) := by
      have h2 : r = 6 := HE2.out.trans (if_pos h1)
      exact ⟨h2, HH.out.trans (if_pos (by rw [h2]; decide))⟩
    clear HH HVF HDC HWF HE2
    by_cases h2 : i < 0
    · go_wp2_with fail
      all_goals first | (exfalso; omega) | skip
      all_goals
        go_ret2
        rw [hR.out.1, hR.out.2]
        exact ⟨none, 0, rfl, IAt.nil _ _ _, HB2.out⟩
    · have h3 : (s.vs.length : Int) ≤ i := by omega
      clear h1
      go_wp2_with fail
      all_goals first | (exfalso; omega) | skip
      all_goals
        go_ret2
        rw [hR.out.1, hR.out.2]
        exact ⟨none, 0, rfl, IAt.nil _ _ _, HB2.out⟩
  · have hr0 : r = 0 := HE2.out.trans (if_neg h1)
    subst hr0
    have hRl := HH.out.trans (if_neg (by simp))
    obtain ⟨hsb, K, N, hF⟩ := HVF.out rfl
    clear hsb
    obtain ⟨j, rfl⟩ := Int.eq_ofNat_of_zero_le (show 0 ≤ i by omega)
    have hj : j < s.vs.length := by omega
    have hw := HWF.out K N hF rfl
    have hR : Hid (R = ltrK s.vs j (deciE s K N) (deciE s K N).length) := by
      show _ = _
      rw [hRl, show s.p.k.toNat = K by have := hF.k; omega, show s.n.toNat = N by have := hF.n; omega, rel_later hF hw hj]
      unfold ltrK; rw [List.take_length]
    have HD := Lib.hid (HDC.out K N hF hw j hj w2 G2.out)
    unfold RetIL at HD
    rw [← hR.out] at HD
    have hj0 : (0 : Int) ≤ (j : Int) := by omega
    have hj1 : (j : Int) < (s.vs.length : Int) := by omega
    clear HH HVF HDC HWF HE2 hF hR hRl hw h1 hj
    go_wp2_with fail
    all_goals first | (exfalso; omega) | skip
    refine HD.out.mono ?_
    rintro e w3 ⟨DA, dc, rfl, hI, hb3⟩
    have HB3 := Lib.hid (HB2.out.trans (hb3.mono HB2.out.size))
    have HI := Lib.hid hI
    clear hb3 hI HD
    go_wp2_with fail
    go_ret2
    exact ⟨DA, dc, rfl, HI.out, HB3.out⟩
set_option maxRecDepth 100000 in
set_option maxHeartbeats 4000000 in
theorem rhaving_any (s : Sy) (hs : LowS s) (hf : FewX s.p) (i : Int) (A SV AV AX : Option Addr) (kc ks kv kx : Nat) (w : World) (hS : SyAt w w.heap.size A SV AV AX s) :
    Calls Tryz.prog 33 #[.agg (s.vs_ A kc SV ks AV kv AX kx), .int .i64 i] w (RetLE (havE s i) (viewxE s i) w) := by
  obtain ⟨w1, hw1, d0, hs1, hB⟩ := onebox w (s.vs_ A kc SV ks AV kv AX kx) 36
  have hS1 := hS.up hB
  have HV := Lib.hid (rver_any s hs hf A SV AV AX kc ks kv kx w1 hS1)
  have HVF := Lib.hid (fun h => ver_fine hf h)
  have HSX : Hid (∀ X, Below w1.heap.size w1 X → SyAt X X.heap.size A SV AV AX s) := fun X hX => hS1.up hX
  have HH : Hid (havE s i = if viewxE s i ≠ 0 then [] else havK s i (s.vs.getD i.toNat default) s.xs.length) := rfl
  have HE : Hid (viewxE s i = if verE s ≠ 0 then verE s else if i < 0 ∨ (s.vs.length : Int) ≤ i then 6 else 0) := rfl
  have HSE := Lib.hid (fun (K N : Nat) (hF : Fine s K N) (h : verE s = 0) => (by obtain ⟨e, _⟩ := ver_fine hf h; rw [e] at hF ⊢; exact built_sees hF : Sees s K N))
  have HOC := Lib.hid (fun (K N : Nat) (hF : Fine s K N) (k : Nat) (hk : k < s.xs.length) (A1 A2 : Option Addr) (a1 a2 : Nat) (X : World) (hL : LAt X X.heap.size A2 s.xs[k].views) => roccurs_any s.xs[k] i (by have := (hF.views _ (List.getElem_mem hk)).1; have := hF.k6; omega) (fun l hl => by have := ((hF.views _ (List.getElem_mem hk)).2 l hl).1; have := hF.n5; omega) A1 A2 a1 a2 X hL)
  have HSY := Lib.hid hs.fe
  obtain ⟨R, hR⟩ : ∃ R, havE s i = R := ⟨_, rfl⟩
  obtain ⟨r, hr⟩ : ∃ r, viewxE s i = r := ⟨_, rfl⟩
  rw [hR, hr] at HH ⊢
  rw [hr] at HE
  obtain ⟨E, hE⟩ : ∃ E, verE s = E := ⟨_, rfl⟩
  rw [hE] at HV HE HVF HSE
  unfold RetLE
  unfold Sy.vs_ at hw1 d0 HV ⊢
  have HW1 := Lib.hid hw1
  have HB := Lib.hid hB
  have HDB : Hid (∀ X, Below w1.heap.size w1 X → X.heap[w.heap.size]? = some (.cells #[.int .i64 s.p.t.n, .int .i64 s.p.t.ins, .int .i64 s.p.t.outs, .slice A s.p.t.cases.length kc, .int .i64 s.p.a.n, .slice SV s.p.a.sts.length ks, .int .i64 s.p.k, .int .i64 s.n, .slice AV s.vs.length kv, .slice AX s.xs.length kx] 36 (0, 0))) := fun X hX => (hX.block _ (blk_lt d0)).trans d0
  have p0 := blk_cell d0 0 rfl
  have p1 := blk_cell d0 1 rfl
  have p2 := blk_cell d0 2 rfl
  have p3 := blk_cell d0 3 rfl
  have p4 := blk_cell d0 4 rfl
  have p5 := blk_cell d0 5 rfl
  have p6 := blk_cell d0 6 rfl
  have p7 := blk_cell d0 7 rfl
  have p8 := blk_cell d0 8 rfl
  have p9 := blk_cell d0 9 rfl
  clear hw1 d0 hB hS hS1 hs hf hE hR hr
  go_enter Tryz.func33, Tryz.ntmps33
  go_wp2_with fail
  rw [HW1.out]
  go_wp2_with fail
  refine HV.out.mono ?_
  rintro e w2 ⟨rfl, hb2⟩
  have G2 := Lib.hid hb2
  have HB2 := Lib.hid (HB.out.trans (hb2.mono (by omega)))
  have d0 := HDB.out w2 hb2
  have hs2 := hb2.size
  clear hb2 HV HW1 p0 p1 p2 p3 p4 p5 p6 p7 p8 p9
  have p0 := blk_cell d0 0 rfl
  have p1 := blk_cell d0 1 rfl
  have p2 := blk_cell d0 2 rfl
  have p3 := blk_cell d0 3 rfl
  have p4 := blk_cell d0 4 rfl
  have p5 := blk_cell d0 5 rfl
  have p6 := blk_cell d0 6 rfl
  have p7 := blk_cell d0 7 rfl
  have p8 := blk_cell d0 8 rfl
  have p9 := blk_cell d0 9 rfl
  clear d0
  by_cases h0 : E = 0
  case neg =>
    have hR : Hid (r = E ∧ R = []) := by
      have h2 : r = E := HE.out.trans (if_pos h0)
      exact ⟨h2, HH.out.trans (if_pos (by rw [h2]; exact h0))⟩
    have e0 : (E != 0) = true := by simpa using h0
    clear HH HVF HOC HSE HE h0
    go_wp2_with fail
    go_ret2
    rw [hR.out.1, hR.out.2]
    exact ⟨none, 0, rfl, IAt.nil _ _ _, HB2.out⟩
  case pos =>
  subst h0
  have HE2 : Hid (r = if i < 0 ∨ (s.vs.length : Int) ≤ i then 6 else 0) := HE.out.trans (if_neg (by simp))
  clear HE
  by_cases h1 : i < 0 ∨ (s.vs.length : Int) ≤ i
  · have hR : Hid (r = 6 ∧ R = []) := by
      have h2 : r = 6 := HE2.out.trans (if_pos h1)
      exact ⟨h2, HH.out.trans (if_pos (by rw [h2]; decide))⟩
    clear HH HVF HOC HSE HE2
    by_cases h2 : i < 0
    · go_wp2_with fail
      all_goals first | (exfalso; omega) | skip
      all_goals
        go_ret2
        rw [hR.out.1, hR.out.2]
        exact ⟨none, 0, rfl, IAt.nil _ _ _, HB2.out⟩
    · have h3 : (s.vs.length : Int) ≤ i := by omega
      clear h1
      go_wp2_with fail
      all_goals first | (exfalso; omega) | skip
      all_goals
        go_ret2
        rw [hR.out.1, hR.out.2]
        exact ⟨none, 0, rfl, IAt.nil _ _ _, HB2.out⟩
  · have hr0 : r = 0 := HE2.out.trans (if_neg h1)
    subst hr0
    have hRl := HH.out.trans (if_neg (by simp))
    obtain ⟨hsb, K, N, hF⟩ := HVF.out rfl
    clear hsb
    have hse := HSE.out K N hF rfl
    obtain ⟨j, rfl⟩ := Int.eq_ofNat_of_zero_le (show 0 ≤ i by omega)
    have hj : j < s.vs.length := by omega
    have hR : Hid (R = fltK (fun e => occB (s.xs.getD e default) (j : Int)) s.xs.length) := by
      show _ = _
      rw [hRl, Int.toNat_natCast]
      unfold havK fltK
      congr 1
      exact List.filter_congr fun e he => by
        have he2 : e < s.xs.length := by simpa using he
        rw [getD_get he2]
        exact (occ_has hF hse (List.getElem_mem he2) hj).symm
    have HOK := Lib.hid (HOC.out K N hF)
    have hlx := hF.lx
    obtain ⟨pp, hpp⟩ : ∃ pp, (fun e => occB (s.xs.getD e default) (j : Int)) = pp := ⟨_, rfl⟩
    have HPP : Hid (∀ k (hk : k < s.xs.length), occB s.xs[k] (j : Int) = pp k) := fun k hk => by rw [← hpp]; show _ = occB (s.xs.getD k default) (j : Int); rw [getD_get hk]
    rw [hpp] at hR
    have hj0 : (0 : Int) ≤ (j : Int) := by omega
    have hj1 : (j : Int) < (s.vs.length : Int) := by omega
    have hd0 : decide ((j : Int) < 0) = false := decide_eq_false (by omega)
    have hd1 : decide ((s.vs.length : Int) ≤ (j : Int)) = false := decide_eq_false (by omega)
    have hd2 : decide (s.vs.length ≤ j) = false := decide_eq_false (by omega)
    clear HH HVF HOC HSE HE2 hF hRl hse hpp h1 hj p0 p1 p2 p3 p4 p5 p6 p7
    go_wp2_with fail
    all_goals first | (exfalso; omega) | skip
    go_loopw [7, 8] (fun o x wx => ∃ k : Nat, k ≤ s.xs.length ∧ x = .int .i64 (k : Int) ∧ Hid (OwnR kIn wx w2.heap.size o (fltK pp k).length ((fltK pp k).map (Value.int .i64))) ∧ Hid (Below w2.heap.size w2 wx)) (fun _ x _ => s.xs.length - (intOf x).toNat)
    case atStart => exact ⟨0, by omega, rfl, OwnR.nil _ _ _, Below.refl _ _⟩
    case round =>
      obtain ⟨k, hk, rfl, HO, hb⟩ := hrel
      have G3 := Lib.hid (G2.out.trans (hb.out.mono G2.out.size))
      have d0 := HDB.out wr G3.out
      have p9 := blk_cell d0 9 rfl
      clear d0
      by_cases hlt : k < s.xs.length
      case neg =>
        obtain rfl : k = s.xs.length := by omega
        rw [← hR.out] at HO
        obtain ⟨AO, ko, eO, hI⟩ := own_iat HO.out
        rw [eO]
        have HI := Lib.hid hI
        clear eO hI HO HOK
        go_wp2_with fail
        go_ret2
        exact ⟨AO, ko, rfl, HI.out, HB2.out.trans (hb.out.mono HB2.out.size)⟩
      case pos =>
      obtain ⟨AO, ko, eO, hu1, hu2, hu3⟩ := HO.out.form
      subst eO
      obtain ⟨bx, ox, A1, c1, A2, c2, eX, hbx, x0, x1, x2, hRw, hLv⟩ := (HSX.out wr G3.out).fx.row k hlt
      subst eX
      have hk0 : (0 : Int) ≤ (k : Int) := by omega
      have hk1 : (k : Int) < (s.xs.length : Int) := by omega
      have HOJ := Lib.hid (HOK.out k hlt A1 A2 c1 c2 wr hLv)
      rw [HPP.out k hlt] at HOJ
      have HKN := Lib.hid (@fltK_no pp k)
      have HKY := Lib.hid (@fltK_yes pp k)
      have HLK := Lib.hid (fltK_len pp k)
      obtain ⟨b, hbb⟩ : ∃ b, pp k = b := ⟨_, rfl⟩
      rw [hbb] at HOJ HKN HKY
      obtain ⟨x, hx⟩ : ∃ x, s.xs[k] = x := ⟨_, rfl⟩
      rw [hx] at HOJ x0 x1 x2
      clear hbb hu1 hu2 hu3 HOK hRw hLv hx
      go_wp2_with fail
      refine HOJ.out.mono ?_
      rintro e w6 ⟨rfl, hb6⟩
      have HB6 := Lib.hid (hb.out.trans (hb6.mono hb.out.size))
      have HO6 := Lib.hid (HO.out.below hb6 (Nat.le_refl _))
      clear hb6 HOJ x0 x1 x2 p9
      cases b with
      | false =>
        have HHY := Lib.hid (HKN.out rfl)
        clear HKN HKY
        go_wp2_with fail
        go_roundw
        case rel => exact ⟨k + 1, by omega, by go_num, by rw [HHY.out]; exact HO6.out, HB6⟩
        case measure => simp [intOf]; omega
      | true =>
        have HHY := Lib.hid (HKY.out rfl)
        have HLZ : Hid ((fltK pp k).length ≤ 1000000000) := by show _ ≤ _; have := HLK.out; omega
        have HLE : Hid ((fltK pp (k + 1)).length = (fltK pp k).length + 1) := by show _ = _; rw [HHY.out]; simp
        clear HKN HKY
        have HRN := Lib.hid (HO6.out.alloc (.cells #[.int .i64 k] 3))
        have HGN := Lib.hid (blk_new w6 (.cells #[.int .i64 k] 3))
        have HDZ : Hid (w2.heap.size ≤ (w6.alloc (.cells #[.int .i64 k] 3)).heap.size) := by show _ ≤ _; have := HB6.out.size; simp; omega
        go_wp2_with (at_builtin; refine wpList_appR kIn_ok rfl (.tmp 38) (.tmp 40) rfl w2.heap.size (.slice AO (fltK pp k).length ko) (fltK pp k).length ((fltK pp k).map (Value.int .i64)) rfl HRN.out w6.heap.size #[.int .i64 k] rfl HGN.out rfl (by simp [Value.oneCell']) HLZ.out HDZ.out _ rfl ?_; intro g' cap w12 hr7 hg7 hat7 hlt7; have HR7 := Lib.hid hr7; have HG7 : Hid (Below w2.heap.size w2 w12) := ((HB6.out.trans ((bel1 w6 _).mono HB6.out.size)).grown hg7 (by exact HDZ.out) (fun k hk => (HO6.out.lt k hk).1)); clear hr7 hg7 hat7 hlt7)
        go_roundw
        case rel => exact ⟨k + 1, by omega, by go_num, (by rw [HLE.out, HHY.out, List.map_append]; exact HR7.out), HG7⟩
        case measure => simp [intOf]; omega
theorem findE_bad {s : Sy} {c : Int} {word : List Rd} (h : verE s ≠ 0) : findE s c word = (0, verE s) := if_pos h
theorem findE_at {s : Sy} {c : Int} {word : List Rd} (h : verE s = 0) {k : Nat} (hk : k < s.xs.length) (hp : isX c word s.xs[k] = true) (ha : ∀ j (hj : j < s.xs.length), j < k → isX c word s.xs[j] = false) : findE s c word = ((k : Int), 0) := by
  unfold findE
  rw [if_neg (by simpa using h), idxX_at hk hp ha, if_neg (by omega)]
theorem findE_none {s : Sy} {c : Int} {word : List Rd} (h : verE s = 0) (ha : ∀ j (hj : j < s.xs.length), isX c word s.xs[j] = false) : findE s c word = (0, 6) := by
  unfold findE
  rw [if_neg (by simpa using h), idxX_none ha, if_pos (by decide)]
set_option maxRecDepth 100000 in
set_option maxHeartbeats 4000000 in
theorem rfind_any (s : Sy) (hs : LowS s) (hf : FewX s.p) (c : Int) (word : List Rd) (hwl : word.length ≤ 17592186044416) (A SV AV AX Aw : Option Addr) (kc ks kv kx kw : Nat) (w : World) (hS : SyAt w w.heap.size A SV AV AX s) (hW : RAt w w.heap.size Aw word) :
    Calls Tryz.prog 29 #[.agg (s.vs_ A kc SV ks AV kv AX kx), .int .i64 c, .slice Aw word.length kw] w fun e w' => e = .returned (.tuple #[.int .i64 (findE s c word).1, .int .i64 (findE s c word).2]) ∧ Below w.heap.size w w' := by
  obtain ⟨w1, hw1, d0, hs1, hB⟩ := onebox w (s.vs_ A kc SV ks AV kv AX kx) 36
  have hS1 := hS.up hB
  have HV := Lib.hid (rver_any s hs hf A SV AV AX kc ks kv kx w1 hS1)
  have HVF := Lib.hid (fun h => ver_fine hf h)
  have HSX : Hid (∀ X, Below w1.heap.size w1 X → SyAt X X.heap.size A SV AV AX s) := fun X hX => hS1.up hX
  have HE1 := Lib.hid (fun h => findE_bad (s := s) (c := c) (word := word) h)
  have HE2 := Lib.hid (fun (h : verE s = 0) (k : Nat) (hk : k < s.xs.length) (hp : isX c word s.xs[k] = true) (ha : ∀ j (hj : j < s.xs.length), j < k → isX c word s.xs[j] = false) => findE_at (s := s) (c := c) (word := word) h hk hp ha)
  have HE3 := Lib.hid (fun (h : verE s = 0) (ha : ∀ j (hj : j < s.xs.length), isX c word s.xs[j] = false) => findE_none (s := s) (c := c) (word := word) h ha)
  have HSM := Lib.hid (fun (k : Nat) (hk : k < s.xs.length) (A1 : Option Addr) (a1 : Nat) (X : World) (hX : Below w1.heap.size w1 X) (hA : RAt X X.heap.size A1 s.xs[k].word) => rsamerounds_any A1 Aw a1 kw s.xs[k].word word (hs.fe _ (List.getElem_mem hk)).1 hwl X hA ((((hW.keep hB).more hB.size).keep hX).more hX.size))
  have HLX := hs.fx
  obtain ⟨R, hR⟩ : ∃ R, findE s c word = R := ⟨_, rfl⟩
  rw [hR] at HE1 HE2 HE3 ⊢
  obtain ⟨E, hE⟩ : ∃ E, verE s = E := ⟨_, rfl⟩
  rw [hE] at HV HE1 HE2 HE3 HVF
  unfold Sy.vs_ at hw1 d0 HV ⊢
  have HW1 := Lib.hid hw1
  have HB := Lib.hid hB
  have HDB : Hid (∀ X, Below w1.heap.size w1 X → X.heap[w.heap.size]? = some (.cells #[.int .i64 s.p.t.n, .int .i64 s.p.t.ins, .int .i64 s.p.t.outs, .slice A s.p.t.cases.length kc, .int .i64 s.p.a.n, .slice SV s.p.a.sts.length ks, .int .i64 s.p.k, .int .i64 s.n, .slice AV s.vs.length kv, .slice AX s.xs.length kx] 36 (0, 0))) := fun X hX => (hX.block _ (blk_lt d0)).trans d0
  have p0 := blk_cell d0 0 rfl
  have p1 := blk_cell d0 1 rfl
  have p2 := blk_cell d0 2 rfl
  have p3 := blk_cell d0 3 rfl
  have p4 := blk_cell d0 4 rfl
  have p5 := blk_cell d0 5 rfl
  have p6 := blk_cell d0 6 rfl
  have p7 := blk_cell d0 7 rfl
  have p8 := blk_cell d0 8 rfl
  have p9 := blk_cell d0 9 rfl
  clear hw1 d0 hB hS hS1 hs hf hE hR hW HVF
  go_enter Tryz.func29, Tryz.ntmps29
  go_wp2_with fail
  rw [HW1.out]
  go_wp2_with fail
  refine HV.out.mono ?_
  rintro e w2 ⟨rfl, hb2⟩
  have G2 := Lib.hid hb2
  have HB2 := Lib.hid (HB.out.trans (hb2.mono (by omega)))
  have d0 := HDB.out w2 hb2
  have hs2 := hb2.size
  clear hb2 HV HW1 p0 p1 p2 p3 p4 p5 p6 p7 p8 p9
  have p0 := blk_cell d0 0 rfl
  have p1 := blk_cell d0 1 rfl
  have p2 := blk_cell d0 2 rfl
  have p3 := blk_cell d0 3 rfl
  have p4 := blk_cell d0 4 rfl
  have p5 := blk_cell d0 5 rfl
  have p6 := blk_cell d0 6 rfl
  have p7 := blk_cell d0 7 rfl
  have p8 := blk_cell d0 8 rfl
  have p9 := blk_cell d0 9 rfl
  clear d0
  by_cases h0 : E = 0
  case neg =>
    have hR := Lib.hid (HE1.out h0)
    have e0 : (E != 0) = true := by simpa using h0
    clear HE1 HE2 HE3 HSM h0
    go_wp2_with fail
    go_ret2
    rw [hR.out]
    exact ⟨rfl, HB2.out⟩
  case pos =>
  subst h0
  have F2 := Lib.hid (HE2.out rfl)
  have F3 := Lib.hid (HE3.out rfl)
  clear HE1 HE2 HE3 p0 p1 p2 p3 p4 p5 p6 p7 p8 p9
  go_wp2_with fail
  go_loopw [9] (fun i wr => ∃ k : Nat, k ≤ s.xs.length ∧ i = .int .i64 (k : Int) ∧ Hid (Below w2.heap.size w2 wr) ∧ Hid (∀ j (hj : j < s.xs.length), j < k → isX c word s.xs[j] = false)) (fun i _ => s.xs.length - (intOf i).toNat)
  case atStart => exact ⟨0, by omega, rfl, Below.refl _ _, fun j hj h => by omega⟩
  case round =>
    obtain ⟨k, hk, rfl, hb, hall⟩ := hrel
    have G3 := Lib.hid (G2.out.trans (hb.out.mono G2.out.size))
    have d0 := HDB.out wr G3.out
    have p9 := blk_cell d0 9 rfl
    clear d0
    by_cases hlt : k < s.xs.length
    case neg =>
      obtain rfl : k = s.xs.length := by omega
      have hR := Lib.hid (F3.out fun j hj => hall.out j hj hj)
      clear F2 F3 HSM
      go_wp2_with fail
      go_ret2
      rw [hR.out]
      exact ⟨rfl, HB2.out.trans (hb.out.mono HB2.out.size)⟩
    case pos =>
    obtain ⟨bx, ox, A1, c1, A2, c2, eX, hbx, x0, x1, x2, hRw, hLv⟩ := (HSX.out wr G3.out).fx.row k hlt
    subst eX
    have hk0 : (0 : Int) ≤ (k : Int) := by omega
    have hk1 : (k : Int) < (s.xs.length : Int) := by omega
    have HSK := Lib.hid (HSM.out k hlt A1 c1 wr G3.out hRw)
    have HFK := Lib.hid (F2.out k hlt)
    have HIN := Lib.hid (fun (h : isX c word s.xs[k] = false) j (hj : j < s.xs.length) (hjk : j < k + 1) => if e : j = k then (by subst e; exact h) else hall.out j hj (by omega) : isX c word s.xs[k] = false → ∀ j (hj : j < s.xs.length), j < k + 1 → isX c word s.xs[j] = false)
    obtain ⟨x, hx⟩ : ∃ x, s.xs[k] = x := ⟨_, rfl⟩
    rw [hx] at x0 x1 x2 HSK HFK HIN
    clear hRw hLv hx HSM
    by_cases h1 : x.c = c
    case neg =>
      have hn := Lib.hid (HIN.out (isX_no h1))
      have e0 : (x.c == c) = false := by simpa using h1
      clear h1 HIN HFK HSK
      go_wp2_with fail
      go_roundw
      case rel => exact ⟨k + 1, by omega, by go_num, hb, hn⟩
      case measure => simp [intOf]; omega
    case pos =>
    have e0 : (x.c == c) = true := by simpa using h1
    rw [isX_yes h1] at HFK HIN
    clear h1
    go_wp2_with fail
    refine HSK.out.mono ?_
    rintro e w4 ⟨rfl, n, rfl⟩
    obtain ⟨b, hbb⟩ : ∃ b, decide (x.word = word) = b := ⟨_, rfl⟩
    rw [hbb] at HFK HIN ⊢
    clear hbb HSK
    cases b with
    | true =>
      have hR := Lib.hid (HFK.out rfl hall.out)
      go_wp2_with fail
      go_ret2
      rw [hR.out]
      exact ⟨rfl, HB2.out.trans ((belN hb.out n).mono HB2.out.size)⟩
    | false =>
      have hn := Lib.hid (HIN.out rfl)
      have hb' := Lib.hid (belN hb.out n)
      go_wp2_with fail
      go_roundw
      case rel => exact ⟨k + 1, by omega, by go_num, hb', hn⟩
      case measure => simp [intOf]; omega
end Go.Proofs.YtnikmmdadflefaaGreatDoor
namespace Go.Proofs.YtnikmmdadflefaaGreatDoor
open Go.RowKit
attribute [local go_sem] Oper.semAt_some
def okV (v : List Int) : Bool := decide (v.length ≤ 10)
def okX (x : Exn) : Bool := decide (x.word.length ≤ 10) && decide (x.views.length ≤ 10) && x.views.all okV
def fewSB (s : Sy) : Bool := fewPB s.p && decide (s.vs.length ≤ 600) && decide (s.xs.length ≤ 70) && s.xs.all okX
theorem fews_small {s : Sy} (hl : LowSy s) (h : fewSB s = true) : FewX s.p ∧ ¬ (3 < s.p.t.n ∧ s.p.t.n ≤ 5) ∧ LowS s ∧ s.vs.length ≤ 600 ∧ s.xs.length ≤ 70 := by
  unfold fewSB at h
  simp only [Bool.and_eq_true, decide_eq_true_eq] at h
  obtain ⟨⟨⟨h1, h2⟩, h3⟩, _⟩ := h
  obtain ⟨f1, f2⟩ := few_x h1
  exact ⟨f1, f2, ⟨hl.fp, by omega, by omega, hl.fe⟩, h2, h3⟩
theorem okX_word {x : Exn} (h : ¬ x.word.length ≤ 10) : okX x = false := by unfold okX; rw [decide_eq_false h]; rfl
theorem okX_views {x : Exn} (h : ¬ x.views.length ≤ 10) : okX x = false := by unfold okX; rw [decide_eq_false h, Bool.and_false]; rfl
theorem okX_all {x : Exn} (h1 : x.word.length ≤ 10) (h2 : x.views.length ≤ 10) : okX x = x.views.all okV := by unfold okX; rw [decide_eq_true h1, decide_eq_true h2]; rfl
set_option maxRecDepth 100000 in
set_option maxHeartbeats 2000000 in
theorem fewS_any (s : Sy) (hl : LowSy s) (A SV AV AX : Option Addr) (kc ks kv kx : Nat) (w : World) (hS : SyAt w w.heap.size A SV AV AX s) :
    Calls Tryz.prog 24 #[.agg (s.vs_ A kc SV ks AV kv AX kx)] w fun e w' => e = .returned (.bool (fewSB s)) ∧ Below w.heap.size w w' := by
  obtain ⟨w1, hw1⟩ : ∃ w1, w.alloc (.cells (s.vs_ A kc SV ks AV kv AX kx) 36) = w1 := ⟨_, rfl⟩
  have hbb := blk_new w (.cells (s.vs_ A kc SV ks AV kv AX kx) 36)
  have hb01 : Below w.heap.size w w1 := by rw [← hw1]; exact bel1 w _
  have hsz1 : w1.heap.size = w.heap.size + 1 := by rw [← hw1]; simp
  rw [hw1] at hbb
  have HF := Lib.hid (few_any s.p hl.fp A kc SV ks w1 (hS.up hb01).fc (hS.up hb01).fs)
  have HX := Lib.hid (hS.up hb01).fx
  have hvl := hl.fv
  have hxl := hl.fx
  have HLX := Lib.hid hl.fe
  have HRB : Hid (fewSB s = (fewPB s.p && decide (s.vs.length ≤ 600) && decide (s.xs.length ≤ 70) && s.xs.all okX)) := rfl
  obtain ⟨r, hr⟩ : ∃ r, fewSB s = r := ⟨_, rfl⟩
  rw [hr] at HRB ⊢
  obtain ⟨b, hb⟩ : ∃ b, fewPB s.p = b := ⟨_, rfl⟩
  rw [hb] at HF HRB
  unfold Pb.vs at HF
  unfold Sy.vs_ at hw1 hbb ⊢
  have HW1 := Lib.hid hw1
  have HBB := Lib.hid hbb
  have HB01 := Lib.hid hb01
  have p0 := blk_cell hbb 0 rfl
  have p1 := blk_cell hbb 1 rfl
  have p2 := blk_cell hbb 2 rfl
  have p3 := blk_cell hbb 3 rfl
  have p4 := blk_cell hbb 4 rfl
  have p5 := blk_cell hbb 5 rfl
  have p6 := blk_cell hbb 6 rfl
  clear hw1 hbb hb01 hS hl hr hb
  go_enter Tryz.func24, Tryz.ntmps24
  go_wp2_with fail
  rw [HW1.out]
  go_wp2_with fail
  refine HF.out.mono ?_
  rintro e w2 ⟨rfl, hb2⟩
  have HB2 := Lib.hid (HB01.out.trans (hb2.mono (by omega)))
  have d0 := (hb2.block _ (by omega : w.heap.size < w1.heap.size)).trans HBB.out
  have HD0 := Lib.hid d0
  have HX2 := Lib.hid ((HX.out.keep hb2).more hb2.size)
  have hs2 := hb2.size
  have x8 := blk_cell d0 8 rfl
  have x9 := blk_cell d0 9 rfl
  clear p0 p1 p2 p3 p4 p5 p6 hb2 HF HBB HW1 HX d0
  cases b with
  | false =>
    have hRf : Hid (r = false) := HRB.out
    clear HRB
    go_wp2_with fail
    all_goals
      go_ret
      exact ⟨ret_bool hRf.out.symm, HB2.out⟩
  | true =>
  by_cases h8 : s.vs.length ≤ 600
  case neg =>
    have hRf : Hid (r = false) := HRB.out.trans (by rw [decide_eq_false h8]; rfl)
    clear HRB
    go_wp2_with fail
    all_goals first | (exfalso; omega) | skip
    all_goals
      go_ret
      exact ⟨ret_bool hRf.out.symm, HB2.out⟩
  case pos =>
  by_cases h9 : s.xs.length ≤ 70
  case neg =>
    have hRf : Hid (r = false) := HRB.out.trans (by rw [decide_eq_false h9, Bool.and_false]; rfl)
    clear HRB
    go_wp2_with fail
    all_goals first | (exfalso; omega) | skip
    all_goals
      go_ret
      exact ⟨ret_bool hRf.out.symm, HB2.out⟩
  case pos =>
  have HR : Hid (r = (s.xs.drop 0).all okX) := HRB.out.trans (by rw [decide_eq_true h8, decide_eq_true h9, List.drop_zero]; rfl)
  clear HRB
  go_wp2_with fail
  all_goals first | (exfalso; omega) | skip
  clear x8 x9
  go_loopw [3] (fun i wr => ∃ k : Nat, k ≤ s.xs.length ∧ i = .int .i64 (k : Int) ∧ Hid (r = (s.xs.drop k).all okX) ∧ Hid (Below w2.heap.size w2 wr)) (fun i _ => s.xs.length - (intOf i).toNat)
  case atStart => exact ⟨0, by omega, rfl, HR, Below.refl _ _⟩
  case round =>
    clear HR
    obtain ⟨k, hk, rfl, HR, hb⟩ := hrel
    have d0 := (hb.out.block _ (by omega : w.heap.size < w2.heap.size)).trans HD0.out
    have x9 := blk_cell d0 9 rfl
    clear d0
    by_cases hlt : k < s.xs.length
    case neg =>
      obtain rfl : k = s.xs.length := by omega
      have hRt : Hid (r = true) := HR.out.trans (by rw [List.drop_length]; rfl)
      clear HR
      go_wp2_with fail
      go_ret
      exact ⟨ret_bool hRt.out.symm, HB2.out.trans (hb.out.mono (by omega))⟩
    case pos =>
      obtain ⟨bx, ox, A1, c1, A2, c2, eA, hbx, y0, y1, y2, _, hL⟩ := (HX2.out.keep hb.out).row k hlt
      subst eA
      obtain ⟨x, hx⟩ : ∃ x, s.xs[k] = x := ⟨_, rfl⟩
      have hxw := HLX.out _ (List.getElem_mem hlt)
      have hdr : s.xs.drop k = x :: s.xs.drop (k + 1) := by rw [List.drop_eq_getElem_cons hlt, hx]
      have HRK : Hid (r = (okX x && (s.xs.drop (k + 1)).all okX)) := HR.out.trans (by rw [hdr]; rfl)
      rw [hx] at y0 y1 y2 hL hxw
      obtain ⟨hxw1, hxw2, hxw3⟩ := hxw
      have HXW := Lib.hid hxw3
      have hsz := hb.out.size
      have hbxw : bx < wr.heap.size := by omega
      have hk0 : (0 : Int) ≤ (k : Int) := by omega
      have hk1 : (k : Int) < (s.xs.length : Int) := by omega
      obtain ⟨W3, hW3, b3, hs3, hB3⟩ := onebox wr #[.int .i64 x.c, .slice A1 x.word.length c1, .slice A2 x.views.length c2] 42
      have HW3 := Lib.hid hW3
      have HB3 := Lib.hid (hb.out.trans (hB3.mono hsz))
      have HD3 := Lib.hid b3
      have HL := Lib.hid ((hL.more hsz).keep hB3)
      have e9 : W3.cell? ⟨w.heap.size, 9, none⟩ = wr.cell? ⟨w.heap.size, 9, none⟩ := hB3.cell (p := ⟨w.heap.size, 9, none⟩) (by show w.heap.size < _; omega)
      have z1 := blk_cell b3 1 rfl
      have z2 := blk_cell b3 2 rfl
      have HE9 := Lib.hid (e9.trans x9)
      clear hW3 hB3 b3 hL hxw3 hx hdr HR e9
      by_cases h1 : x.word.length ≤ 10
      case neg =>
        have hRf : Hid (r = false) := HRK.out.trans (by rw [okX_word h1]; rfl)
        clear HRK
        go_wp2_with fail
        rw [HW3.out]
        go_wp2_with fail
        all_goals first | (exfalso; omega) | skip
        all_goals
          go_ret
          exact ⟨ret_bool hRf.out.symm, HB2.out.trans (HB3.out.mono (by omega))⟩
      case pos =>
      by_cases h2 : x.views.length ≤ 10
      case neg =>
        have hRf : Hid (r = false) := HRK.out.trans (by rw [okX_views h2]; rfl)
        clear HRK
        go_wp2_with fail
        rw [HW3.out]
        go_wp2_with fail
        all_goals first | (exfalso; omega) | skip
        all_goals
          go_ret
          exact ⟨ret_bool hRf.out.symm, HB2.out.trans (HB3.out.mono (by omega))⟩
      case pos =>
      have HRJ : Hid (r = ((x.views.drop 0).all okV && (s.xs.drop (k + 1)).all okX)) := HRK.out.trans (by rw [okX_all h1 h2, List.drop_zero])
      clear HRK
      go_wp2_with fail
      rw [HW3.out]
      go_wp2_with fail
      all_goals first | (exfalso; omega) | skip
      clear z1 z2 y0 y1 y2 x9 HW3
      obtain ⟨bE, hbE⟩ : ∃ bE, wr.heap.size = bE := ⟨_, rfl⟩
      rw [hbE] at HD3 ⊢
      obtain ⟨wo, rfl⟩ : ∃ y, y = wr := ⟨_, rfl⟩
      go_loopw [5] (fun i wx => ∃ j n : Nat, j ≤ x.views.length ∧ i = .int .i64 (j : Int) ∧ wx = W3.drewN n ∧ Hid (r = ((x.views.drop j).all okV && (s.xs.drop (k + 1)).all okX))) (fun i _ => x.views.length - (intOf i).toNat)
      case atStart => exact ⟨0, 0, by omega, rfl, rfl, HRJ⟩
      case round =>
        clear HRJ
        obtain ⟨j, n, hj, rfl, rfl, HRJ⟩ := hrel
        have z2 : (W3.drewN n).cell? ⟨bE, 2, none⟩ = some (.slice A2 x.views.length c2) := blk_cell HD3.out 2 rfl
        by_cases hjl : j < x.views.length
        case neg =>
          obtain rfl : j = x.views.length := by omega
          have hRt : Hid (r = (s.xs.drop (k + 1)).all okX) := HRJ.out.trans (by rw [List.drop_length]; rfl)
          clear HRJ
          go_wp2_with fail
          go_roundw
          case rel => exact ⟨k + 1, by omega, by go_num, hRt, belN HB3.out n⟩
          case measure => simp [intOf]; omega
        case pos =>
          obtain ⟨bl, ol, A3, c3, eA, hbl, v0, _⟩ := HL.out.at_ j hjl
          subst eA
          obtain ⟨v, hv⟩ : ∃ v, x.views[j] = v := ⟨_, rfl⟩
          have hvl3 := HXW.out _ (List.getElem_mem hjl)
          have hdr : x.views.drop j = v :: x.views.drop (j + 1) := by rw [List.drop_eq_getElem_cons hjl, hv]
          have HRK : Hid (r = ((okV v && (x.views.drop (j + 1)).all okV) && (s.xs.drop (k + 1)).all okX)) := HRJ.out.trans (by rw [hdr]; rfl)
          rw [hv] at v0 hvl3
          have v1 : (W3.drewN n).cell? ⟨bl, ol + j, none⟩ = some (.slice A3 v.length c3) := v0
          have hj0 : (0 : Int) ≤ (j : Int) := by omega
          have hj1 : (j : Int) < (x.views.length : Int) := by omega
          clear hdr hv v0 HRJ
          by_cases h3 : v.length ≤ 10
          case neg =>
            have hRf : Hid (r = false) := HRK.out.trans (by unfold okV; rw [decide_eq_false h3]; rfl)
            clear HRK
            go_wp2_with fail
            all_goals first | (exfalso; omega) | skip
            go_ret
            exact ⟨ret_bool hRf.out.symm, HB2.out.trans ((belN HB3.out n).mono (by omega))⟩
          case pos =>
            have hRt : Hid (r = ((x.views.drop (j + 1)).all okV && (s.xs.drop (k + 1)).all okX)) := HRK.out.trans (by rw [show okV v = true from decide_eq_true h3]; rfl)
            clear HRK
            go_wp2_with fail
            all_goals first | (exfalso; omega) | skip
            go_roundw
            case rel => exact ⟨j + 1, n, by omega, by go_num, rfl, hRt⟩
            case measure => simp [intOf]; omega
end Go.Proofs.YtnikmmdadflefaaGreatDoor
namespace Go.Proofs.YtnikmmdadflefaaGreatDoor
open Go.RowKit
attribute [local go_sem] Oper.semAt_some
theorem havE_len {s : Sy} {i : Int} (hs : LowS s) : (havE s i).length ≤ 17592186044416 := by
  unfold havE
  split
  · simp
  · exact Nat.le_trans (havK_len _ _ _ _) (Nat.le_trans hs.fx (by decide))
theorem relvE_len {s : Sy} (hs : LowS s) : (relvE s).length ≤ 17592186044416 := by
  unfold relvE
  split
  · simp
  · exact Nat.le_trans (relK_len _ _ _ _ _) (Nat.le_trans hs.fv (by decide))
theorem clE_len {s : Sy} {i : Int} (hs : LowS s) : (clE s i).length ≤ 17592186044416 := by
  unfold clE
  split
  · simp
  · exact Nat.le_trans (relK_len _ _ _ _ _) (Nat.le_trans hs.fv (by decide))
set_option maxRecDepth 100000 in
set_option maxHeartbeats 4000000 in
theorem law_looks (s : Sy) (hl : LowSy s) (A SV AV AX : Option Addr) (kc ks kv kx : Nat) (hv1 : s.vs.length ≤ kv) (hv2 : kv ≤ maxLen) (i1 i2 i3 : Int) (ww : List Rd) (hwl : ww.length ≤ 17592186044416) (AW : Option Addr) (kw : Nat) (w : World) (hS : SyAt w w.heap.size A SV AV AX s) (hW : RAt w w.heap.size AW ww) :
    Calls Tryz.prog 7 #[.agg (s.vs_ A kc SV ks AV kv AX kx), .agg #[.int .i64 i1, .int .i64 i2, .int .i64 i3, .slice AW ww.length kw]] w fun e w' => e = .returned (.bool true) ∧ Below w.heap.size w w' := by
  obtain ⟨w1, hw1, d0, d1, hs1, hB1⟩ := cboxes w (s.vs_ A kc SV ks AV kv AX kx) #[.int .i64 i1, .int .i64 i2, .int .i64 i3, .slice AW ww.length kw] 36 78
  have hS1 := hS.up hB1
  have hW1' := (hW.keep hB1).more hB1.size
  have HF := Lib.hid (fewS_any s hl A SV AV AX kc ks kv kx w1 hS1)
  have HSM := Lib.hid (fun (h : fewSB s = true) => (⟨(fews_small hl h).2.2.1, (fews_small hl h).1⟩ : LowS s ∧ FewX s.p))
  have C1 := Lib.hid (fun (h : LowS s ∧ FewX s.p) (X : World) (hX : Below w1.heap.size w1 X) => xfind_any s h.1 h.2 i3 ww hwl A SV AV AX AW kc ks kv kx kw X (hS1.up hX) ((hW1'.keep hX).more hX.size))
  have C2 := Lib.hid (fun (h : LowS s ∧ FewX s.p) (X : World) (hX : Below w1.heap.size w1 X) => rfind_any s h.1 h.2 i3 ww hwl A SV AV AX AW kc ks kv kx kw X (hS1.up hX) ((hW1'.keep hX).more hX.size))
  have C3 := Lib.hid (fun (h : LowS s ∧ FewX s.p) (X : World) (hX : Below w1.heap.size w1 X) => xobliged_any s h.1 h.2 i1 A SV AV AX kc ks kv kx X (hS1.up hX))
  have C4 := Lib.hid (fun (h : LowS s ∧ FewX s.p) (X : World) (hX : Below w1.heap.size w1 X) => robliged_any s h.1 h.2 i1 A SV AV AX kc ks kv kx X (hS1.up hX))
  have C5 := Lib.hid (fun (h : LowS s ∧ FewX s.p) (X : World) (hX : Below w1.heap.size w1 X) => having_any s h.1 h.2 i2 A SV AV AX kc ks kv kx X (hS1.up hX))
  have C6 := Lib.hid (fun (h : LowS s ∧ FewX s.p) (X : World) (hX : Below w1.heap.size w1 X) => rhaving_any s h.1 h.2 i2 A SV AV AX kc ks kv kx X (hS1.up hX))
  have C7 := Lib.hid (fun (h : LowS s ∧ FewX s.p) (X : World) (hX : Below w1.heap.size w1 X) => relevant_any s h.1 h.2 A SV AV AX kc ks kv kx X (hS1.up hX))
  have C8 := Lib.hid (fun (h : LowS s ∧ FewX s.p) (X : World) (hX : Below w1.heap.size w1 X) => rrelevant_any s h.1 h.2 A SV AV AX kc ks kv kx X (hS1.up hX))
  have C9 := Lib.hid (fun (h : LowS s ∧ FewX s.p) (X : World) (hX : Below w1.heap.size w1 X) => continuing_any s h.1 h.2 i2 A SV AV AX kc ks kv kx X (hS1.up hX))
  have CA := Lib.hid (fun (h : LowS s ∧ FewX s.p) (X : World) (hX : Below w1.heap.size w1 X) => rcontinuing_any s h.1 h.2 i2 A SV AV AX kc ks kv kx X (hS1.up hX) hv1 hv2)
  have HLN := Lib.hid (fun (h : LowS s ∧ FewX s.p) => (⟨havE_len h.1, relvE_len h.1, clE_len h.1⟩ : (havE s i2).length ≤ 17592186044416 ∧ (relvE s).length ≤ 17592186044416 ∧ (clE s i2).length ≤ 17592186044416))
  obtain ⟨f0, hf0⟩ : ∃ f0, findE s i3 ww = f0 := ⟨_, rfl⟩
  rw [hf0] at C1 C2
  obtain ⟨o0, ho0⟩ : ∃ o0, oblE s i1 = o0 := ⟨_, rfl⟩
  rw [ho0] at C3 C4
  obtain ⟨L1, hL1⟩ : ∃ L1, havE s i2 = L1 := ⟨_, rfl⟩
  rw [hL1] at C5 C6 HLN
  obtain ⟨L2, hL2⟩ : ∃ L2, relvE s = L2 := ⟨_, rfl⟩
  rw [hL2] at C7 C8 HLN
  obtain ⟨L3, hL3⟩ : ∃ L3, clE s i2 = L3 := ⟨_, rfl⟩
  rw [hL3] at C9 CA HLN
  obtain ⟨ve, hve⟩ : ∃ ve, verE s = ve := ⟨_, rfl⟩
  rw [hve] at C7 C8
  obtain ⟨vx, hvx⟩ : ∃ vx, viewxE s i2 = vx := ⟨_, rfl⟩
  rw [hvx] at C5 C6 C9 CA
  obtain ⟨F, hF⟩ : ∃ F, fewSB s = F := ⟨_, rfl⟩
  rw [hF] at HF HSM
  unfold RetLE at C5 C6 C7 C8 C9 CA
  unfold Sy.vs_ at hw1 d0 HF C1 C2 C3 C4 C5 C6 C7 C8 C9 CA ⊢
  have HW1 := Lib.hid hw1
  have HB1 := Lib.hid hB1
  have HDS : Hid (∀ X, Below w1.heap.size w1 X → X.heap[w.heap.size]? = some (.cells #[.int .i64 s.p.t.n, .int .i64 s.p.t.ins, .int .i64 s.p.t.outs, .slice A s.p.t.cases.length kc, .int .i64 s.p.a.n, .slice SV s.p.a.sts.length ks, .int .i64 s.p.k, .int .i64 s.n, .slice AV s.vs.length kv, .slice AX s.xs.length kx] 36 (0, 0))) := fun X hX => (hX.block _ (blk_lt d0)).trans d0
  have HDP : Hid (∀ X, Below w1.heap.size w1 X → X.heap[w.heap.size + 1]? = some (.cells #[.int .i64 i1, .int .i64 i2, .int .i64 i3, .slice AW ww.length kw] 78 (0, 0))) := fun X hX => (hX.block _ (blk_lt d1)).trans d1
  have ds := HDS.out w1 (Below.refl _ _)
  have dp := HDP.out w1 (Below.refl _ _)
  have p0 := blk_cell ds 0 rfl
  have p1 := blk_cell ds 1 rfl
  have p2 := blk_cell ds 2 rfl
  have p3 := blk_cell ds 3 rfl
  have p4 := blk_cell ds 4 rfl
  have p5 := blk_cell ds 5 rfl
  have p6 := blk_cell ds 6 rfl
  have p7 := blk_cell ds 7 rfl
  have p8 := blk_cell ds 8 rfl
  have p9 := blk_cell ds 9 rfl
  have q0 := blk_cell dp 0 rfl
  have q1 := blk_cell dp 1 rfl
  have q2 := blk_cell dp 2 rfl
  have q3 := blk_cell dp 3 rfl
  clear ds dp
  clear hw1 d0 d1 hB1 hS hW hS1 hW1' hl hv1 hv2 hwl hf0 ho0 hL1 hL2 hL3 hve hvx hF
  go_enter Tryz.func7, Tryz.ntmps7
  go_wp2_with fail
  rw [HW1.out]
  go_wp2_with fail
  refine HF.out.mono ?_
  rintro e w2 ⟨rfl, hb2⟩
  have G2 := Lib.hid hb2
  clear HF HW1 p0 p1 p2 p3 p4 p5 p6 p7 p8 p9 q0 q1 q2 q3 hb2
  have ds := HDS.out w2 G2.out
  have dp := HDP.out w2 G2.out
  have p0 := blk_cell ds 0 rfl
  have p1 := blk_cell ds 1 rfl
  have p2 := blk_cell ds 2 rfl
  have p3 := blk_cell ds 3 rfl
  have p4 := blk_cell ds 4 rfl
  have p5 := blk_cell ds 5 rfl
  have p6 := blk_cell ds 6 rfl
  have p7 := blk_cell ds 7 rfl
  have p8 := blk_cell ds 8 rfl
  have p9 := blk_cell ds 9 rfl
  have q0 := blk_cell dp 0 rfl
  have q1 := blk_cell dp 1 rfl
  have q2 := blk_cell dp 2 rfl
  have q3 := blk_cell dp 3 rfl
  clear ds dp
  cases F with
  | false =>
    clear C1 C2 C3 C4 C5 C6 C7 C8 C9 CA HSM HLN
    go_wp2_with fail
    refine (awake_any w2).mono ?_
    rintro e w3 ⟨rfl, hb3⟩
    have B3 := Lib.hid (HB1.out.trans ((G2.out.trans (hb3.mono G2.out.size)).mono (by omega)))
    clear hb3
    go_wp2_with fail
    go_ret
    exact ⟨rfl, B3.out⟩
  | true =>
  by_cases h20 : (20 : Int) < (ww.length : Int)
  case pos =>
    clear C1 C2 C3 C4 C5 C6 C7 C8 C9 CA HSM HLN
    go_wp2_with fail
    all_goals first | (exfalso; omega) | skip
    refine (awake_any w2).mono ?_
    rintro e w3 ⟨rfl, hb3⟩
    have B3 := Lib.hid (HB1.out.trans ((G2.out.trans (hb3.mono G2.out.size)).mono (by omega)))
    clear hb3
    go_wp2_with fail
    go_ret
    exact ⟨rfl, B3.out⟩
  case neg =>
  have hsm := HSM.out (by simp)
  have DC1 := Lib.hid (C1.out hsm)
  have DC2 := Lib.hid (C2.out hsm)
  have DC3 := Lib.hid (C3.out hsm)
  have DC4 := Lib.hid (C4.out hsm)
  have DC5 := Lib.hid (C5.out hsm)
  have DC6 := Lib.hid (C6.out hsm)
  have DC7 := Lib.hid (C7.out hsm)
  have DC8 := Lib.hid (C8.out hsm)
  have DC9 := Lib.hid (C9.out hsm)
  have DCA := Lib.hid (CA.out hsm)
  have hln := Lib.hid (HLN.out hsm)
  clear C1 C2 C3 C4 C5 C6 C7 C8 C9 CA HSM HLN hsm
  go_wp2_with fail
  all_goals first | (exfalso; omega) | skip
  refine (DC1.out w2 G2.out).mono ?_
  rintro e w3 ⟨rfl, hb⟩
  have G3 := Lib.hid (G2.out.trans (hb.mono G2.out.size))
  clear hb DC1 p0 p1 p2 p3 p4 p5 p6 p7 p8 p9 q0 q1 q2 q3
  have ds := HDS.out w3 G3.out
  have dp := HDP.out w3 G3.out
  have p0 := blk_cell ds 0 rfl
  have p1 := blk_cell ds 1 rfl
  have p2 := blk_cell ds 2 rfl
  have p3 := blk_cell ds 3 rfl
  have p4 := blk_cell ds 4 rfl
  have p5 := blk_cell ds 5 rfl
  have p6 := blk_cell ds 6 rfl
  have p7 := blk_cell ds 7 rfl
  have p8 := blk_cell ds 8 rfl
  have p9 := blk_cell ds 9 rfl
  have q0 := blk_cell dp 0 rfl
  have q1 := blk_cell dp 1 rfl
  have q2 := blk_cell dp 2 rfl
  have q3 := blk_cell dp 3 rfl
  clear ds dp
  go_wp2_with fail
  refine (DC2.out w3 G3.out).mono ?_
  rintro e w4 ⟨rfl, hb⟩
  have G4 := Lib.hid (G3.out.trans (hb.mono G3.out.size))
  clear hb DC2 p0 p1 p2 p3 p4 p5 p6 p7 p8 p9 q0 q1 q2 q3
  have ds := HDS.out w4 G4.out
  have dp := HDP.out w4 G4.out
  have p0 := blk_cell ds 0 rfl
  have p1 := blk_cell ds 1 rfl
  have p2 := blk_cell ds 2 rfl
  have p3 := blk_cell ds 3 rfl
  have p4 := blk_cell ds 4 rfl
  have p5 := blk_cell ds 5 rfl
  have p6 := blk_cell ds 6 rfl
  have p7 := blk_cell ds 7 rfl
  have p8 := blk_cell ds 8 rfl
  have p9 := blk_cell ds 9 rfl
  have q0 := blk_cell dp 0 rfl
  have q1 := blk_cell dp 1 rfl
  have q2 := blk_cell dp 2 rfl
  have q3 := blk_cell dp 3 rfl
  clear ds dp
  go_wp2_with fail
  refine (DC3.out w4 G4.out).mono ?_
  rintro e w5 ⟨rfl, hb⟩
  have G5 := Lib.hid (G4.out.trans (hb.mono G4.out.size))
  clear hb DC3 p0 p1 p2 p3 p4 p5 p6 p7 p8 p9 q0 q1 q2 q3
  have ds := HDS.out w5 G5.out
  have dp := HDP.out w5 G5.out
  have p0 := blk_cell ds 0 rfl
  have p1 := blk_cell ds 1 rfl
  have p2 := blk_cell ds 2 rfl
  have p3 := blk_cell ds 3 rfl
  have p4 := blk_cell ds 4 rfl
  have p5 := blk_cell ds 5 rfl
  have p6 := blk_cell ds 6 rfl
  have p7 := blk_cell ds 7 rfl
  have p8 := blk_cell ds 8 rfl
  have p9 := blk_cell ds 9 rfl
  have q0 := blk_cell dp 0 rfl
  have q1 := blk_cell dp 1 rfl
  have q2 := blk_cell dp 2 rfl
  have q3 := blk_cell dp 3 rfl
  clear ds dp
  go_wp2_with fail
  refine (DC4.out w5 G5.out).mono ?_
  rintro e w6 ⟨rfl, hb⟩
  have G6 := Lib.hid (G5.out.trans (hb.mono G5.out.size))
  clear hb DC4 p0 p1 p2 p3 p4 p5 p6 p7 p8 p9 q0 q1 q2 q3
  have ds := HDS.out w6 G6.out
  have dp := HDP.out w6 G6.out
  have p0 := blk_cell ds 0 rfl
  have p1 := blk_cell ds 1 rfl
  have p2 := blk_cell ds 2 rfl
  have p3 := blk_cell ds 3 rfl
  have p4 := blk_cell ds 4 rfl
  have p5 := blk_cell ds 5 rfl
  have p6 := blk_cell ds 6 rfl
  have p7 := blk_cell ds 7 rfl
  have p8 := blk_cell ds 8 rfl
  have p9 := blk_cell ds 9 rfl
  have q0 := blk_cell dp 0 rfl
  have q1 := blk_cell dp 1 rfl
  have q2 := blk_cell dp 2 rfl
  have q3 := blk_cell dp 3 rfl
  clear ds dp
  go_wp2_with fail
  all_goals first | (exfalso; omega) | skip
  refine (DC5.out w6 G6.out).mono ?_
  rintro e w7 ⟨A4, c4, rfl, hI, hb⟩
  have G7 := Lib.hid (G6.out.trans (hb.mono G6.out.size))
  have I4 := Lib.hid hI
  clear hI
  clear hb DC5 p0 p1 p2 p3 p4 p5 p6 p7 p8 p9 q0 q1 q2 q3
  have ds := HDS.out w7 G7.out
  have dp := HDP.out w7 G7.out
  have p0 := blk_cell ds 0 rfl
  have p1 := blk_cell ds 1 rfl
  have p2 := blk_cell ds 2 rfl
  have p3 := blk_cell ds 3 rfl
  have p4 := blk_cell ds 4 rfl
  have p5 := blk_cell ds 5 rfl
  have p6 := blk_cell ds 6 rfl
  have p7 := blk_cell ds 7 rfl
  have p8 := blk_cell ds 8 rfl
  have p9 := blk_cell ds 9 rfl
  have q0 := blk_cell dp 0 rfl
  have q1 := blk_cell dp 1 rfl
  have q2 := blk_cell dp 2 rfl
  have q3 := blk_cell dp 3 rfl
  clear ds dp
  go_wp2_with fail
  refine (DC6.out w7 G7.out).mono ?_
  rintro e w8 ⟨A5, c5, rfl, hI, hb⟩
  have G8 := Lib.hid (G7.out.trans (hb.mono G7.out.size))
  have I4' := Lib.hid ((I4.out.keep hb).more hb.size)
  clear I4
  have I4 := I4'
  clear I4'
  have I5 := Lib.hid hI
  clear hI
  clear hb DC6 p0 p1 p2 p3 p4 p5 p6 p7 p8 p9 q0 q1 q2 q3
  have ds := HDS.out w8 G8.out
  have dp := HDP.out w8 G8.out
  have p0 := blk_cell ds 0 rfl
  have p1 := blk_cell ds 1 rfl
  have p2 := blk_cell ds 2 rfl
  have p3 := blk_cell ds 3 rfl
  have p4 := blk_cell ds 4 rfl
  have p5 := blk_cell ds 5 rfl
  have p6 := blk_cell ds 6 rfl
  have p7 := blk_cell ds 7 rfl
  have p8 := blk_cell ds 8 rfl
  have p9 := blk_cell ds 9 rfl
  have q0 := blk_cell dp 0 rfl
  have q1 := blk_cell dp 1 rfl
  have q2 := blk_cell dp 2 rfl
  have q3 := blk_cell dp 3 rfl
  clear ds dp
  go_wp2_with fail
  refine (DC7.out w8 G8.out).mono ?_
  rintro e w9 ⟨A6, c6, rfl, hI, hb⟩
  have G9 := Lib.hid (G8.out.trans (hb.mono G8.out.size))
  have I4' := Lib.hid ((I4.out.keep hb).more hb.size)
  clear I4
  have I4 := I4'
  clear I4'
  have I5' := Lib.hid ((I5.out.keep hb).more hb.size)
  clear I5
  have I5 := I5'
  clear I5'
  have I6 := Lib.hid hI
  clear hI
  clear hb DC7 p0 p1 p2 p3 p4 p5 p6 p7 p8 p9 q0 q1 q2 q3
  have ds := HDS.out w9 G9.out
  have dp := HDP.out w9 G9.out
  have p0 := blk_cell ds 0 rfl
  have p1 := blk_cell ds 1 rfl
  have p2 := blk_cell ds 2 rfl
  have p3 := blk_cell ds 3 rfl
  have p4 := blk_cell ds 4 rfl
  have p5 := blk_cell ds 5 rfl
  have p6 := blk_cell ds 6 rfl
  have p7 := blk_cell ds 7 rfl
  have p8 := blk_cell ds 8 rfl
  have p9 := blk_cell ds 9 rfl
  have q0 := blk_cell dp 0 rfl
  have q1 := blk_cell dp 1 rfl
  have q2 := blk_cell dp 2 rfl
  have q3 := blk_cell dp 3 rfl
  clear ds dp
  go_wp2_with fail
  refine (DC8.out w9 G9.out).mono ?_
  rintro e w10 ⟨A7, c7, rfl, hI, hb⟩
  have G10 := Lib.hid (G9.out.trans (hb.mono G9.out.size))
  have I4' := Lib.hid ((I4.out.keep hb).more hb.size)
  clear I4
  have I4 := I4'
  clear I4'
  have I5' := Lib.hid ((I5.out.keep hb).more hb.size)
  clear I5
  have I5 := I5'
  clear I5'
  have I6' := Lib.hid ((I6.out.keep hb).more hb.size)
  clear I6
  have I6 := I6'
  clear I6'
  have I7 := Lib.hid hI
  clear hI
  clear hb DC8 p0 p1 p2 p3 p4 p5 p6 p7 p8 p9 q0 q1 q2 q3
  have ds := HDS.out w10 G10.out
  have dp := HDP.out w10 G10.out
  have p0 := blk_cell ds 0 rfl
  have p1 := blk_cell ds 1 rfl
  have p2 := blk_cell ds 2 rfl
  have p3 := blk_cell ds 3 rfl
  have p4 := blk_cell ds 4 rfl
  have p5 := blk_cell ds 5 rfl
  have p6 := blk_cell ds 6 rfl
  have p7 := blk_cell ds 7 rfl
  have p8 := blk_cell ds 8 rfl
  have p9 := blk_cell ds 9 rfl
  have q0 := blk_cell dp 0 rfl
  have q1 := blk_cell dp 1 rfl
  have q2 := blk_cell dp 2 rfl
  have q3 := blk_cell dp 3 rfl
  clear ds dp
  go_wp2_with fail
  refine (DC9.out w10 G10.out).mono ?_
  rintro e w11 ⟨A8, c8, rfl, hI, hb⟩
  have G11 := Lib.hid (G10.out.trans (hb.mono G10.out.size))
  have I4' := Lib.hid ((I4.out.keep hb).more hb.size)
  clear I4
  have I4 := I4'
  clear I4'
  have I5' := Lib.hid ((I5.out.keep hb).more hb.size)
  clear I5
  have I5 := I5'
  clear I5'
  have I6' := Lib.hid ((I6.out.keep hb).more hb.size)
  clear I6
  have I6 := I6'
  clear I6'
  have I7' := Lib.hid ((I7.out.keep hb).more hb.size)
  clear I7
  have I7 := I7'
  clear I7'
  have I8 := Lib.hid hI
  clear hI
  clear hb DC9 p0 p1 p2 p3 p4 p5 p6 p7 p8 p9 q0 q1 q2 q3
  have ds := HDS.out w11 G11.out
  have dp := HDP.out w11 G11.out
  have p0 := blk_cell ds 0 rfl
  have p1 := blk_cell ds 1 rfl
  have p2 := blk_cell ds 2 rfl
  have p3 := blk_cell ds 3 rfl
  have p4 := blk_cell ds 4 rfl
  have p5 := blk_cell ds 5 rfl
  have p6 := blk_cell ds 6 rfl
  have p7 := blk_cell ds 7 rfl
  have p8 := blk_cell ds 8 rfl
  have p9 := blk_cell ds 9 rfl
  have q0 := blk_cell dp 0 rfl
  have q1 := blk_cell dp 1 rfl
  have q2 := blk_cell dp 2 rfl
  have q3 := blk_cell dp 3 rfl
  clear ds dp
  go_wp2_with fail
  refine (DCA.out w11 G11.out).mono ?_
  rintro e w12 ⟨A9, c9, rfl, hI, hb⟩
  have G12 := Lib.hid (G11.out.trans (hb.mono G11.out.size))
  have I4' := Lib.hid ((I4.out.keep hb).more hb.size)
  clear I4
  have I4 := I4'
  clear I4'
  have I5' := Lib.hid ((I5.out.keep hb).more hb.size)
  clear I5
  have I5 := I5'
  clear I5'
  have I6' := Lib.hid ((I6.out.keep hb).more hb.size)
  clear I6
  have I6 := I6'
  clear I6'
  have I7' := Lib.hid ((I7.out.keep hb).more hb.size)
  clear I7
  have I7 := I7'
  clear I7'
  have I8' := Lib.hid ((I8.out.keep hb).more hb.size)
  clear I8
  have I8 := I8'
  clear I8'
  have I9 := Lib.hid hI
  clear hI
  clear hb DCA p0 p1 p2 p3 p4 p5 p6 p7 p8 p9 q0 q1 q2 q3
  have ds := HDS.out w12 G12.out
  have dp := HDP.out w12 G12.out
  have p0 := blk_cell ds 0 rfl
  have p1 := blk_cell ds 1 rfl
  have p2 := blk_cell ds 2 rfl
  have p3 := blk_cell ds 3 rfl
  have p4 := blk_cell ds 4 rfl
  have p5 := blk_cell ds 5 rfl
  have p6 := blk_cell ds 6 rfl
  have p7 := blk_cell ds 7 rfl
  have p8 := blk_cell ds 8 rfl
  have p9 := blk_cell ds 9 rfl
  have q0 := blk_cell dp 0 rfl
  have q1 := blk_cell dp 1 rfl
  have q2 := blk_cell dp 2 rfl
  have q3 := blk_cell dp 3 rfl
  clear ds dp
  go_wp2_with fail
  have HQ := Lib.hid (eqI_any A4 A5 c4 c5 _ _ w12 w12.heap.size I4.out I5.out hln.out.1 hln.out.1)
  rw [decide_eq_true rfl] at HQ
  refine HQ.out.mono ?_
  rintro e v1 ⟨rfl, n1, hv1⟩
  have E1 : Hid (Below w12.heap.size w12 v1) := by rw [hv1]; exact belN (Below.refl _ _) _
  have G13 := Lib.hid (G12.out.trans (E1.out.mono G12.out.size))
  have I6' := Lib.hid ((I6.out.keep E1.out).more E1.out.size)
  clear I6
  have I6 := I6'
  clear I6'
  have I7' := Lib.hid ((I7.out.keep E1.out).more E1.out.size)
  clear I7
  have I7 := I7'
  clear I7'
  have I8' := Lib.hid ((I8.out.keep E1.out).more E1.out.size)
  clear I8
  have I8 := I8'
  clear I8'
  have I9' := Lib.hid ((I9.out.keep E1.out).more E1.out.size)
  clear I9
  have I9 := I9'
  clear I9'
  clear HQ hv1
  go_wp2_with fail
  have HQ := Lib.hid (eqI_any A6 A7 c6 c7 _ _ v1 v1.heap.size I6.out I7.out hln.out.2.1 hln.out.2.1)
  rw [decide_eq_true rfl] at HQ
  refine HQ.out.mono ?_
  rintro e v2 ⟨rfl, n2, hv2⟩
  have E2 : Hid (Below v1.heap.size v1 v2) := by rw [hv2]; exact belN (Below.refl _ _) _
  have G14 := Lib.hid (G13.out.trans (E2.out.mono G13.out.size))
  have I8' := Lib.hid ((I8.out.keep E2.out).more E2.out.size)
  clear I8
  have I8 := I8'
  clear I8'
  have I9' := Lib.hid ((I9.out.keep E2.out).more E2.out.size)
  clear I9
  have I9 := I9'
  clear I9'
  clear HQ hv2
  go_wp2_with fail
  have HQ := Lib.hid (eqI_any A8 A9 c8 c9 _ _ v2 v2.heap.size I8.out I9.out hln.out.2.2 hln.out.2.2)
  rw [decide_eq_true rfl] at HQ
  refine HQ.out.mono ?_
  rintro e v3 ⟨rfl, n3, hv3⟩
  have E3 : Hid (Below v2.heap.size v2 v3) := by rw [hv3]; exact belN (Below.refl _ _) _
  have G15 := Lib.hid (G14.out.trans (E3.out.mono G14.out.size))
  clear HQ hv3
  go_wp2_with fail
  refine (awake_any v3).mono ?_
  rintro e wz ⟨rfl, hbz⟩
  have BZ := Lib.hid (HB1.out.trans ((G15.out.trans (hbz.mono G15.out.size)).mono (by omega)))
  clear hbz
  go_wp2_with fail
  go_ret
  exact ⟨rfl, BZ.out⟩
end Go.Proofs.YtnikmmdadflefaaGreatDoor
