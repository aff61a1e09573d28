/- Part Cont. Part Look. Part Obl2. What each part says stands at its head; no part has a condition beyond its own statements. -/
import Derived.Test.YtnikmmdadflefaaGreatDoorProg
import Derived.Test.YtnikmmdadflefaaGreatDoorBg
import Derived.Deep.QuietTactic
import Derived.BigQuiet
import Derived.Deep.RegionHeld3
import Derived.StillTactics
import Derived.Test.YtnikmmdadflefaaGreatDoorBf
import Derived.Test.YtnikmmdadflefaaGreatDoorBa
import Derived.StillTailTactics

namespace Go.Proofs.YtnikmmdadflefaaGreatDoor
open Go.RowKit
def ownN (v : Vw) : Nat := (v.h v.p.toNat).toNat
def contB (vs : List Vw) : Nat → Nat → Nat → Bool
  | 0, i, j => i == j
  | f + 1, i, j => i == j || (decide (0 < (getV vs j).r) && contB vs f i (ownN (getV vs j)))
def cont (vs : List Vw) (i j : Nat) : Bool := contB vs j i j
theorem own_row {n : Int} {vs : List Vw} (h : Wf n vs) {j : Nat} (hj : j < vs.length) (hr : vs[j].r ≠ 0) : ∃ q c : Nat, q < 5 ∧ vs[j].p = (q : Int) ∧ vs[j].h q = (c : Int) ∧ c < j ∧ ownN (getV vs j) = c := by
  have hc := (rowE_ok (h.2.2 j hj)).1
  rw [getV_eq hj] at hc
  obtain ⟨hb, hl⟩ := checkE_ok hc
  obtain ⟨h1, h2, _⟩ := hl hr
  have hbo := begE_ok hb
  obtain ⟨q, hq⟩ := Int.eq_ofNat_of_zero_le hbo.1
  have hqt : vs[j].p.toNat = q := by omega
  have hq5 : q < 5 := by have := hbo.2.1; have := h.2.1; omega
  rw [hqt] at h2
  obtain ⟨h3, h4, _⟩ := linkE_ok (h1 q hq5) h2
  obtain ⟨c, hc'⟩ := Int.eq_ofNat_of_zero_le h3
  refine ⟨q, c, hq5, hq, hc', ?_, ?_⟩
  · rw [hc'] at h4; simp at h4; omega
  · unfold ownN; rw [getV_eq hj, hqt, hc']; simp
theorem contB_fuel {n : Int} {vs : List Vw} (h : Wf n vs) (i : Nat) : ∀ (j f : Nat), j < vs.length → j ≤ f → contB vs f i j = contB vs j i j := by
  intro j
  induction j using Nat.strongRecOn with
  | _ j ih =>
    intro f hj hf
    by_cases hr : vs[j].r = 0
    · have hg : (getV vs j).r = 0 := by rw [getV_eq hj]; exact hr
      cases f with
      | zero => obtain rfl : j = 0 := by omega
                rfl
      | succ f => cases j with
        | zero => simp [contB, hg]
        | succ j => simp [contB, hg]
    · obtain ⟨q, c, _, _, _, hcj, ho⟩ := own_row h hj hr
      cases f with
      | zero => omega
      | succ f => cases j with
        | zero => omega
        | succ j =>
          simp only [contB, ho]
          rw [ih c hcj f (by omega) (by omega), ih c hcj j (by omega) (by omega)]
theorem cont_step {n : Int} {vs : List Vw} (h : Wf n vs) (i : Nat) {j : Nat} (hj : j < vs.length) : cont vs i j = (i == j || (decide (0 < vs[j].r) && cont vs i (ownN (getV vs j)))) := by
  unfold cont
  by_cases hr : vs[j].r = 0
  · have hg : (getV vs j).r = 0 := by rw [getV_eq hj]; exact hr
    cases j with
    | zero => simp [contB, hr]
    | succ j => simp [contB, hg, hr]
  · obtain ⟨q, c, _, _, _, hcj, ho⟩ := own_row h hj hr
    cases j with
    | zero => omega
    | succ j =>
      conv => lhs; unfold contB
      rw [ho, contB_fuel h i c j (by omega) (by omega), getV_eq hj]
set_option maxRecDepth 100000 in
set_option maxHeartbeats 4000000 in
theorem after_any (n : Int) (A : Option Addr) (cap : Nat) (vs : List Vw) (hw : Wf n vs) (i : Nat) (_hi : i < vs.length) : ∀ (j : Nat), j < vs.length → ∀ w : World, TArg w A cap vs →
    Calls Tryz.prog 40 #[.agg #[.int .i64 n, .slice A vs.length cap], .int .i64 i, .int .i64 j] w fun e w' => e = .returned (.bool (cont vs i j)) ∧ Below w.heap.size w w' := by
  intro j
  induction j using Nat.strongRecOn with
  | _ j ih =>
  intro hj w hT
  have HT := Lib.hid hT
  have HW := Lib.hid hw
  have hfew := hT.few
  have IH := Lib.hid ih
  have hst := cont_step hw i hj
  clear hT hw ih
  go_enter Tryz.func40, Tryz.ntmps40
  by_cases hij : i = j
  · have e0 : ((i : Int) == (j : Int)) = true := by simp [hij]
    have hz : Hid (cont vs i j = true) := by show _ = _; rw [hst]; simp [hij]
    have HB := bel1 w
    clear hij hst
    go_wp2_with fail
    go_ret
    exact ⟨ret_bool hz.out.symm, HB _⟩
  · have e0 : ((i : Int) == (j : Int)) = false := by simp; omega
    have hst2 : cont vs i j = (decide (0 < vs[j].r) && cont vs i (ownN (getV vs j))) := by rw [hst]; simp [hij]
    have HS := Lib.hid hst2
    clear hst hst2 hij
    go_upto_region 3 with fail
    obtain ⟨W0, hW0, b0, hsz, hB0⟩ := onebox w #[.int .i64 n, .slice A vs.length cap] 33
    rw [hW0]
    clear hW0
    have t1 := blk_cell b0 1 rfl
    have l1 : w.heap.size < W0.heap.size := by omega
    obtain ⟨b, off, rfl, hb1, c0, c1, c2, c3, c4, c5, c6, c7⟩ := (HT.out.rows.keep hB0).row j hj
    have hb2 : b < W0.heap.size := by omega
    have B0 := Lib.hid hB0
    have G0 := Lib.hid b0
    clear hB0 b0 hsz
    go_upto_region 4 with fail
    refine wp_one ?_
    intro W1 g0 hsz1 hB1
    have g1 : W1.heap[W0.heap.size]? = some (.cells vs[j].cells 92 (0, 0)) := g0
    have x1 : W1.cell? ⟨W0.heap.size, 1, none⟩ = some (.int .i64 vs[j].r) := blk_cell g1 1 rfl
    have B2 : Hid (Below w.heap.size w W1) := B0.out.trans (hB1.mono B0.out.size)
    have G1 := Lib.hid ((hB1.block _ l1).trans G0.out)
    by_cases hr : 0 < vs[j].r
    · have e1 : decide (0 < vs[j].r) = true := by simpa using hr
      obtain ⟨q, c, hq5, hp, hh, hcj, ho⟩ := own_row HW.out hj (by omega)
      have hz : Hid (cont vs i j = cont vs i c) := by show _ = _; rw [HS.out, e1, ho]; rfl
      have y0 : W1.cell? ⟨W0.heap.size, 0, none⟩ = some (.int .i64 (q : Int)) := by rw [← hp]; exact blk_cell g1 0 rfl
      have y3 : W1.cell? ⟨W0.heap.size, 3 + q, none⟩ = some (.int .i64 (c : Int)) := by rw [← hh]; exact blk_cell g1 (3 + q) (vs[j].cells_h q hq5)
      have s0 := blk_cell G1.out 0 rfl
      have s1 := blk_cell G1.out 1 rfl
      have hcl : c < vs.length := by omega
      have hT1 := HT.out.keep B2.out
      have HTX : Hid (∀ X : World, Below W1.heap.size W1 X → TArg X (some ⟨b, off, none⟩) cap vs) := fun X hX => hT1.keep hX
      have hg1 : W0.heap.size < W1.heap.size := by omega
      have hg2 : w.heap.size < W1.heap.size := by omega
      clear g0 g1 hsz1 hB1 c0 c1 c2 c3 c4 c5 c6 c7 t1 hr hp hh ho hT1
      have hi0 : (0 : Int) ≤ (q : Int) := by omega
      have hi5 : (q : Int) < 5 := by omega
      have hi6 : (q : Int) < ((5 : Nat) : Int) := by omega
      go_region_held3 (fun w' => w'.cell? ⟨w.heap.size, 0, none⟩ = some (.int .i64 n) ∧ w'.cell? ⟨w.heap.size, 1, none⟩ = some (.slice (some ⟨b, off, none⟩) vs.length cap) ∧ w'.cell? ⟨W0.heap.size, 0, none⟩ = some (.int .i64 (q : Int)) ∧
          w'.cell? ⟨W0.heap.size, 1, none⟩ = some (.int .i64 vs[j].r) ∧ w'.cell? ⟨W0.heap.size, 3 + q, none⟩ = some (.int .i64 (c : Int)))
        (first
          | exact ⟨s0, s1, y0, x1, y3⟩
          | exact ⟨((belU hb2).cell hg2).trans s0, ((belU hb2).cell hg2).trans s1, ((belU hb2).cell hg1).trans y0, ((belU hb2).cell hg1).trans x1, ((belU hb2).cell hg1).trans y3⟩)
        ((go_at_call 40; refine (IH.out c hcj hcl _ (HTX.out _ (Below.refl _ _).drew)).mono ?_; rintro e w2 ⟨rfl, hb2⟩))
      have B3 : Hid (Below w.heap.size w w2) := B2.out.trans ((belU hb2).mono B2.out.size)
      clear hb2
      go_wp2_with fail
      go_ret
      exact ⟨ret_bool hz.out.symm, B3.out⟩
    · have e1 : decide (0 < vs[j].r) = false := by simpa using hr
      have hz : Hid (cont vs i j = false) := by show _ = _; rw [HS.out, e1]; rfl
      clear g0 g1 hsz1 hB1 c0 c1 c2 c3 c4 c5 c6 c7 t1 hr
      go_quiet (fail)
      go_wp2_with fail
      go_ret
      exact ⟨ret_bool hz.out.symm, by first | exact B2.out | exact belN B2.out _⟩
end Go.Proofs.YtnikmmdadflefaaGreatDoor
namespace Go.Proofs.YtnikmmdadflefaaGreatDoor
def occB (x : Exn) (i : Int) : Bool := x.views.any fun l => l.any fun j => decide (j = i)
theorem getD_get {α : Type} {l : List α} {i : Nat} (h : i < l.length) (d : α) : l.getD i d = l[i] := by
  rw [List.getD_eq_getElem?_getD, List.getElem?_eq_getElem h]; rfl
section
variable {s : Sy} {K N : Nat}
theorem Fine.vround (hF : Fine s K N) {i : Nat} (hi : i < s.vs.length) : ∃ q r : Nat, s.vs[i].p = (q : Int) ∧ q < N ∧ s.vs[i].r = (r : Int) ∧ r ≤ K := by
  obtain ⟨⟨q, h1, h2⟩, ⟨r, h3, h4⟩, _⟩ := hF.vs s.vs[i] (List.getElem_mem hi)
  exact ⟨q, r, h1, h2, h3, h4⟩
theorem occ_has (hF : Fine s K N) (h : Sees s K N) {x : Exn} (hx : x ∈ s.xs) {i : Nat} (hi : i < s.vs.length) : occB x (i : Int) = hasV (i : Int) (s.vs.getD i default) x := by
  rw [getD_get hi]
  obtain ⟨q, r, hq, hqN, hr, hrK⟩ := hF.vround hi
  unfold hasV occB
  rw [hq, hr, Int.toNat_natCast, Int.toNat_natCast, Bool.eq_iff_iff, List.any_eq_true]
  obtain ⟨hvl, hvr⟩ := hF.views x hx
  constructor
  · rintro ⟨l, hl, ha⟩
    obtain ⟨j, hj, hji⟩ := List.any_eq_true.1 ha
    have e : j = (i : Int) := of_decide_eq_true hji
    subst e
    obtain ⟨k, hk, rfl⟩ := List.getElem_of_mem hl
    obtain ⟨q', hq', e⟩ := List.getElem_of_mem hj
    have hq'N : q' < N := by have := (hvr _ (List.getElem_mem hk)).1; omega
    have exw : xw x k q' = (i : Int) := by
      unfold xw
      rw [getD_get hk, getD_get hq', e]
    obtain ⟨v, h1, h2, h3⟩ := h.pr hx (by omega : k ≤ K) hq'N
    rw [exw] at h1
    have h4 := h1.2
    rw [Int.toNat_natCast, List.getElem?_eq_getElem hi] at h4
    have h5 : s.vs[i] = v := Option.some.inj h4
    rw [← h5] at h2 h3
    obtain rfl : q' = q := by omega
    obtain rfl : k = r := by omega
    exact decide_eq_true exw
  · intro hd
    have e : (x.views.getD r []).getD q 0 = (i : Int) := of_decide_eq_true hd
    have hr2 : r < x.views.length := by omega
    obtain ⟨g1, g2⟩ := hvr _ (List.getElem_mem hr2)
    rw [getD_get hr2] at e
    have hq2 : q < x.views[r].length := by omega
    rw [getD_get hq2] at e
    exact ⟨x.views[r], List.getElem_mem hr2, List.any_eq_true.2 ⟨_, List.getElem_mem hq2, decide_eq_true e⟩⟩
def rowB (x : Exn) (K N i : Nat) : Bool := (List.range N).any fun q => decide (xw x K q = (i : Int)) && (maskE N x).toNat.testBit q
def mattB (s : Sy) (K N i : Nat) : Bool := s.xs.any fun x => rowB x K N i
theorem set_getD (bs : List Bool) (j i : Nat) (hi : i < bs.length) : (bs.set j true).getD i false = (bs.getD i false || decide (j = i)) := by
  rw [List.getD_eq_getElem?_getD, List.getD_eq_getElem?_getD, List.getElem?_set]
  by_cases e : j = i
  · subst e; simp [hi]
  · simp [e]
theorem yesRow_at (m : Nat) (row : List Int) (bs : List Bool) (i : Nat) (hi : i < bs.length) : ∀ n, (∀ q, q < n → 0 ≤ row.getD q 0) → (yesRow m row bs n).getD i false = (bs.getD i false || (List.range n).any fun q => decide (row.getD q 0 = (i : Int)) && m.testBit q)
  | 0, _ => by simp [yesRow]
  | n + 1, hp => by
    have ih := yesRow_at m row bs i hi n fun q hq => hp q (by omega)
    have h0 := hp n (by omega)
    rw [List.range_succ, List.any_append, ← Bool.or_assoc, ← ih, yesRow]
    have e : decide ((row.getD n 0).toNat = i) = decide (row.getD n 0 = (i : Int)) := dec_eq (by omega)
    split
    · rename_i hb
      rw [set_getD _ _ _ (by rw [yesRow_len]; exact hi), e]
      simp [hb]
    · rename_i hb
      have hb2 : m.testBit n = false := by simpa using hb
      simp [hb2]
theorem yes_matt (hF : Fine s K N) (i : Nat) (hi : i < s.vs.length) : (yesK s K N s.xs.length).getD i false = mattB s K N i := by
  have key : ∀ k, k ≤ s.xs.length → (yesK s K N k).getD i false = (s.xs.take k).any fun x => rowB x K N i := by
    intro k
    induction k with
    | zero => intro _; simp [yesK, List.getD_eq_getElem?_getD, hi]
    | succ k ih =>
      intro hk
      have hk2 : k < s.xs.length := by omega
      obtain ⟨g1, g2⟩ := hF.row (List.getElem_mem hk2) (Nat.le_refl K)
      rw [yesK, getD_get hk2, yesRow_at _ _ _ _ (by rw [yesK_len]; exact hi) N (fun q hq => by rw [getD_get (by omega)]; exact (g2 _ (List.getElem_mem _)).1), ih (by omega), List.take_succ_eq_append_getElem hk2, List.any_append]
      unfold rowB xw
      simp
  have := key s.xs.length (Nat.le_refl _)
  rwa [List.take_length] at this
theorem Fine.own (hF : Fine s K N) (hw : Wf s.n s.vs) {j : Nat} (hj : j < s.vs.length) (hr : s.vs[j].r ≠ 0) :
    ∃ c : Nat, c < s.vs.length ∧ c < j ∧ ownN (getV s.vs j) = c ∧ (s.vs[j].h s.vs[j].p.toNat) = (c : Int) ∧ ∃ hc : c < s.vs.length, s.vs[c].r = s.vs[j].r - 1 ∧ s.vs[c].p = s.vs[j].p := by
  obtain ⟨q, c, hq5, hq, hc, hcj, ho⟩ := own_row hw hj hr
  obtain ⟨_, ⟨r, h3, _⟩, hown⟩ := hF.vs s.vs[j] (List.getElem_mem hj)
  obtain ⟨u, hu, hp, hru⟩ := hown (by omega)
  have e : s.vs[j].h s.vs[j].p.toNat = (c : Int) := by rw [hq, Int.toNat_natCast]; exact hc
  rw [e] at hu
  have hcl : c < s.vs.length := by omega
  have hu2 := hu.2
  rw [Int.toNat_natCast, List.getElem?_eq_getElem hcl] at hu2
  have hu3 : s.vs[c] = u := Option.some.inj hu2
  exact ⟨c, hcl, hcj, ho, e, hcl, by rw [hu3]; exact hru, by rw [hu3]; exact hp⟩
theorem cont_low (hF : Fine s K N) (hw : Wf s.n s.vs) {i : Nat} (hi : i < s.vs.length) : ∀ j (hj : j < s.vs.length), s.vs[j].r < s.vs[i].r → cont s.vs i j = false := by
  intro j
  induction j using Nat.strongRecOn with
  | _ j ih =>
    intro hj hlt
    rw [cont_step hw i hj]
    have hne : (i == j) = false := by
      rw [beq_eq_false_iff_ne]; rintro rfl; omega
    rw [hne, Bool.false_or]
    by_cases h0 : 0 < s.vs[j].r
    · obtain ⟨c, _, hcj, ho, _, hcl, hcr, _⟩ := hF.own hw hj (by omega)
      rw [ho, ih c hcj hcl (by omega), Bool.and_false]
    · rw [decide_eq_false h0, Bool.false_and]
theorem cont_climb (hF : Fine s K N) (hw : Wf s.n s.vs) {i : Nat} (hi : i < s.vs.length) : ∀ (n : Nat) (j : Nat) (hj : j < s.vs.length), s.vs[j].r ≤ (n : Int) → cont s.vs i j = decide (climbE s.vs s.vs[i].r n (j : Int) = (i : Int)) := by
  intro n
  induction n with
  | zero =>
    intro j hj hr
    rw [cont_step hw i hj, climbE, decide_eq_false (by omega : ¬ 0 < s.vs[j].r), Bool.false_and, Bool.or_false, Bool.eq_iff_iff, beq_iff_eq, decide_eq_true_eq]
    omega
  | succ n ih =>
    intro j hj hr
    have hgj : s.vs.getD ((j : Int).toNat) default = s.vs[j] := by rw [Int.toNat_natCast]; exact getD_get hj _
    obtain ⟨_, ri, _, _, hri, _⟩ := hF.vround hi
    rw [cont_step hw i hj, climbE, hgj]
    by_cases hlt : s.vs[i].r < s.vs[j].r
    · rw [if_pos hlt]
      obtain ⟨c, _, hcj, ho, he, hcl, hcr, _⟩ := hF.own hw hj (by omega)
      have hne : (i == j) = false := by
        rw [beq_eq_false_iff_ne]; rintro rfl; omega
      rw [hne, Bool.false_or, decide_eq_true (by omega : 0 < s.vs[j].r), Bool.true_and, ho, he]
      exact ih c hcl (by omega)
    · rw [if_neg hlt]
      by_cases hij : i = j
      · subst hij; simp
      · have hne : (i == j) = false := by rw [beq_eq_false_iff_ne]; exact hij
        rw [hne, Bool.false_or, decide_eq_false (by omega : ¬ (j : Int) = (i : Int))]
        by_cases h0 : 0 < s.vs[j].r
        · obtain ⟨c, _, hcj, ho, he, hcl, hcr, _⟩ := hF.own hw hj (by omega)
          rw [ho, cont_low hF hw hi c hcl (by omega), Bool.and_false]
        · rw [decide_eq_false h0, Bool.false_and]
theorem cont_cl (hF : Fine s K N) (hw : Wf s.n s.vs) {i j : Nat} (hi : i < s.vs.length) (hj : j < s.vs.length) : cont s.vs i j = clB s.vs i j := by
  obtain ⟨_, r, _, _, hr, hrK⟩ := hF.vround hj
  have h6 := hF.k6
  rw [cont_climb hF hw hi 7 j hj (by omega)]
  unfold clB
  rw [Int.toNat_natCast, getD_get hi]
def deciE (s : Sy) (K N : Nat) : List Nat := (List.range s.vs.length).filter fun i => mattB s K N i
theorem rel_deci (hF : Fine s K N) : relE s K N (fun _ => true) = (deciE s K N).map fun (i : Nat) => (i : Int) := by
  unfold relE relK deciE
  congr 1
  exact List.filter_congr fun i hi => by rw [yes_matt hF i (by simpa using hi), Bool.and_true]
theorem rel_later (hF : Fine s K N) (hw : Wf s.n s.vs) {i : Nat} (hi : i < s.vs.length) : relE s K N (fun j => clB s.vs i j) = ((deciE s K N).filter fun j => cont s.vs i j).map fun (i : Nat) => (i : Int) := by
  unfold relE relK deciE
  rw [List.filter_filter]
  congr 1
  refine List.filter_congr fun j hj => ?_
  have hj2 : j < s.vs.length := by simpa using hj
  rw [yes_matt hF j hj2, cont_cl hF hw hi hj2, Bool.and_comm]
end
end Go.Proofs.YtnikmmdadflefaaGreatDoor
namespace Go.Proofs.YtnikmmdadflefaaGreatDoor
open Go.RowKit
attribute [local go_sem] Oper.semAt_some
def oblE (s : Sy) (e : Int) : Int × Int := if verE s ≠ 0 then (0, verE s) else if e < 0 ∨ (s.xs.length : Int) ≤ e then (0, 6) else (maskE s.n.toNat (s.xs.getD e.toNat default), 0)
theorem oblE_bad {s : Sy} {e : Int} (h : verE s ≠ 0) : oblE s e = (0, verE s) := if_pos h
theorem oblE_out {s : Sy} {e : Int} (h : verE s = 0) (h2 : e < 0 ∨ (s.xs.length : Int) ≤ e) : oblE s e = (0, 6) := by unfold oblE; rw [if_neg (by simpa using h), if_pos h2]
theorem oblE_in {s : Sy} {K N k : Nat} (hF : Fine s K N) (h : verE s = 0) (h2 : k < s.xs.length) : oblE s (k : Int) = (maskE N s.xs[k], 0) := by
  unfold oblE
  rw [if_neg (by simpa using h), if_neg (by omega), Int.toNat_natCast, List.getD_eq_getElem?_getD, List.getElem?_eq_getElem h2]
  have : s.n.toNat = N := by have := hF.n; omega
  rw [this]; rfl
set_option maxRecDepth 100000 in
set_option maxHeartbeats 2000000 in
theorem xobliged_any (s : Sy) (hs : LowS s) (hf : FewX s.p) (i : Int) (A SV AV AX : Option Addr) (kc ks kv kx : Nat) (w : World) (hS : SyAt w w.heap.size A SV AV AX s) :
    Calls Tryz.prog 30 #[.agg (s.vs_ A kc SV ks AV kv AX kx), .int .i64 i] w fun e w' => e = .returned (.tuple #[.int .i64 (oblE s i).1, .int .i64 (oblE s i).2]) ∧ Below w.heap.size w w' := by
  obtain ⟨w1, hw1, d0, hs1, hB⟩ := onebox w (s.vs_ A kc SV ks AV kv AX kx) 36
  have HV := Lib.hid (ver_any s hs hf A SV AV AX kc ks kv kx w1 (hS.up hB))
  have HS1 := Lib.hid (hS.up hB)
  have HE1 := Lib.hid (@oblE_bad s i)
  have HE2 := Lib.hid (@oblE_out s i)
  have HE3 := Lib.hid (fun (K N k : Nat) (hF : Fine s K N) (h : verE s = 0) (h2 : k < s.xs.length) => oblE_in hF h h2)
  have HVF := Lib.hid (fun h => ver_fine hf h)
  obtain ⟨E, hE⟩ : ∃ E, verE s = E := ⟨_, rfl⟩
  rw [hE] at HV HE1 HE2 HE3 HVF
  have HOB := Lib.hid (fun (K N : Nat) (hF : Fine s K N) (x : Exn) (hx : x ∈ s.xs) (A1 A2 : Option Addr) (a1 a2 : Nat) (X : World) (hW : RAt X X.heap.size A1 x.word) => obliged_any s K N hF x hx A SV AV AX A1 A2 kc ks kv kx a1 a2 X hW)
  unfold Sy.vs_ at hw1 d0 HV HOB ⊢
  have HW1 := Lib.hid hw1
  have HB := Lib.hid hB
  have HD := Lib.hid d0
  have p0 := blk_cell d0 0 rfl
  have p1 := blk_cell d0 1 rfl
  have p2 := blk_cell d0 2 rfl
  have p3 := blk_cell d0 3 rfl
  have p4 := blk_cell d0 4 rfl
  have p5 := blk_cell d0 5 rfl
  have p6 := blk_cell d0 6 rfl
  have p7 := blk_cell d0 7 rfl
  have p8 := blk_cell d0 8 rfl
  have p9 := blk_cell d0 9 rfl
  clear hw1 d0 hB hS hs hf hE
  go_enter Tryz.func30, Tryz.ntmps30
  go_wp2_with fail
  rw [HW1.out]
  go_wp2_with fail
  refine HV.out.mono ?_
  rintro e w2 ⟨rfl, hb2⟩
  have HB2 := Lib.hid (HB.out.trans (hb2.mono (by omega)))
  have HS2 := Lib.hid (HS1.out.up hb2)
  have d0 := (hb2.block _ (by omega : w.heap.size < w1.heap.size)).trans HD.out
  clear p0 p1 p2 p3 p4 p5 p6 p7 p8 p9 hb2 HV HW1 HS1 HD
  have p0 := blk_cell d0 0 rfl
  have p1 := blk_cell d0 1 rfl
  have p2 := blk_cell d0 2 rfl
  have p3 := blk_cell d0 3 rfl
  have p4 := blk_cell d0 4 rfl
  have p5 := blk_cell d0 5 rfl
  have p6 := blk_cell d0 6 rfl
  have p7 := blk_cell d0 7 rfl
  have p8 := blk_cell d0 8 rfl
  have p9 := blk_cell d0 9 rfl
  clear d0
  by_cases h0 : E = 0
  case neg =>
    have hR := Lib.hid (HE1.out h0)
    have e0 : (E != 0) = true := by simpa using h0
    clear HE1 HE2 HE3 HVF HOB h0
    go_wp2_with fail
    go_ret2
    rw [hR.out]
    exact ⟨rfl, HB2.out⟩
  case pos =>
  subst h0
  by_cases h1 : i < 0 ∨ (s.xs.length : Int) ≤ i
  · have hR := Lib.hid (HE2.out rfl h1)
    clear HE1 HE2 HE3 HVF HOB
    rcases h1 with h1 | h1
    · go_wp2_with fail
      all_goals first | (exfalso; omega) | skip
      all_goals
        go_ret2
        rw [hR.out]
        exact ⟨rfl, HB2.out⟩
    · by_cases h2 : i < 0
      · go_wp2_with fail
        all_goals first | (exfalso; omega) | skip
        all_goals
          go_ret2
          rw [hR.out]
          exact ⟨rfl, HB2.out⟩
      · go_wp2_with fail
        all_goals first | (exfalso; omega) | skip
        all_goals
          go_ret2
          rw [hR.out]
          exact ⟨rfl, HB2.out⟩
  · obtain ⟨hsb, K, N, hF⟩ := HVF.out rfl
    clear hsb
    obtain ⟨k, rfl⟩ := Int.eq_ofNat_of_zero_le (show 0 ≤ i by omega)
    have hk : k < s.xs.length := by omega
    have hR := Lib.hid (HE3.out K N k hF rfl hk)
    obtain ⟨bx, ox, A1, c1, A2, c2, eX, hbx, x0, x1, x2, hRw, hLv⟩ := HS2.out.fx.row k hk
    subst eX
    have HO := Lib.hid (HOB.out K N hF s.xs[k] (List.getElem_mem hk) A1 A2 c1 c2 w2 hRw)
    obtain ⟨M, hM⟩ : ∃ M, maskE N s.xs[k] = M := ⟨_, rfl⟩
    rw [hM] at HO hR
    obtain ⟨x, hx⟩ : ∃ x, s.xs[k] = x := ⟨_, rfl⟩
    rw [hx] at x0 x1 x2 hRw hM
    have hk0 : (0 : Int) ≤ (k : Int) := by omega
    have hk1 : (k : Int) < (s.xs.length : Int) := by omega
    have HOX := Lib.hid (fun (X : World) (hX : RAt X X.heap.size A1 x.word) => HOB.out K N hF x (by rw [← hx]; exact List.getElem_mem hk) A1 A2 c1 c2 X hX)
    rw [hM] at HOX
    have HRW := Lib.hid hRw
    clear HE1 HE2 HE3 HVF HOB hF hRw hLv h1 hk HO hM hx
    go_wp2_with fail
    all_goals first | (exfalso; omega) | skip
    go_still_tail 6, (by kernel_rfl)
    change wpList _ _ _ _ _ w2.drew
    obtain ⟨wd, hwd⟩ : ∃ wd, wd = w2.drew := ⟨_, rfl⟩
    have BLd : Hid (Below w2.heap.size w2 wd) := by rw [hwd]; exact (Below.refl _ _).drew
    rw [← hwd]
    clear hwd
    go_wp2_with fail
    refine (HOX.out wd ((HRW.out.keep BLd.out).more BLd.out.size)).mono ?_
    rintro e w3 ⟨rfl, hb3⟩
    have HB3 := Lib.hid (HB2.out.trans ((BLd.out.trans (hb3.mono BLd.out.size)).mono HB2.out.size))
    clear hb3 HOX
    go_wp2_with fail
    go_ret2
    rw [hR.out]
    exact ⟨rfl, HB3.out⟩
def faultE (x : Exn) : Int := match x.word.getLast? with
  | none => 0
  | some r => r.f
theorem fault_none {x : Exn} (h : x.word.length = 0) : faultE x = 0 := by unfold faultE; rw [List.eq_nil_of_length_eq_zero h]; rfl
theorem fault_last {x : Exn} {k : Nat} (h : x.word.length = k + 1) : faultE x = (x.word[k]'(by omega)).f := by
  have e : x.word.getLast? = some (x.word[k]'(by omega)) := by
    rw [List.getLast?_eq_getElem?, show x.word.length - 1 = k by omega, List.getElem?_eq_getElem (by omega)]
  unfold faultE
  rw [e]
theorem mask_fault {N : Nat} {x : Exn} (h1 : 1 ≤ N) (h5 : N ≤ 5) : maskE N x = bits BinOp.andNot IntKind.i64 (2 ^ N - 1) (faultE x) := by
  rcases Nat.eq_zero_or_pos x.word.length with h | h
  · rw [mask_none h, fault_none h]
    have key : ∀ N : Nat, N < 6 → (2 : Int) ^ N - 1 = bits BinOp.andNot IntKind.i64 ((2 : Int) ^ N - 1) 0 := by decide +kernel
    exact key N (by omega)
  · obtain ⟨k, hk⟩ : ∃ k, x.word.length = k + 1 := ⟨x.word.length - 1, by omega⟩
    rw [mask_last hk, fault_last hk]
set_option maxRecDepth 100000 in
set_option maxHeartbeats 1000000 in
theorem faulty_any (x : Exn) (hl : x.word.length ≤ 100) (A1 A2 : Option Addr) (a1 a2 : Nat) (w : World) (hW : RAt w w.heap.size A1 x.word) :
    Calls Tryz.prog 138 #[.agg #[.int .i64 x.c, .slice A1 x.word.length a1, .slice A2 x.views.length a2]] w fun e w' => e = .returned (.int .i64 (faultE x)) ∧ Below w.heap.size w w' := by
  obtain ⟨w1, hw1, d0, hs1, hB⟩ := onebox w #[.int .i64 x.c, .slice A1 x.word.length a1, .slice A2 x.views.length a2] 42
  have HW1 := Lib.hid hw1
  have HB := Lib.hid hB
  have HF1 := Lib.hid (@fault_none x)
  have HF2 := Lib.hid (fun (k : Nat) (h : x.word.length = k + 1) => fault_last h)
  obtain ⟨F, hF⟩ : ∃ F, faultE x = F := ⟨_, rfl⟩
  rw [hF] at HF1 HF2 ⊢
  have x1 := blk_cell d0 1 rfl
  rcases Nat.eq_zero_or_pos x.word.length with h | h
  · have hR := Lib.hid (HF1.out h)
    rw [h] at x1 hw1
    have HW1 := Lib.hid hw1
    clear hw1 d0 hB HF1 HF2 hF hW
    rw [h]
    clear h
    go_enter Tryz.func138, Tryz.ntmps138
    go_wp2_with fail
    rw [HW1.out]
    go_wp2_with fail
    all_goals first | (exfalso; omega) | skip
    go_ret
    exact ⟨ret_int hR.out.symm, HB.out⟩
  · obtain ⟨k, hk⟩ : ∃ k, x.word.length = k + 1 := ⟨x.word.length - 1, by omega⟩
    have hR := Lib.hid (HF2.out k hk)
    obtain ⟨b, o, eA, hb, t0, t1, t2, t3, t4, t5, r6⟩ := hW.row k (by omega)
    subst eA
    have hsub : IntKind.i64.wrap (((k + 1 : Nat) : Int) - 1) = (k : Int) := by rw [IntKind.wrap_i64]; omega
    obtain ⟨f, hf⟩ : ∃ f, (x.word[k]'(by omega)).f = f := ⟨_, rfl⟩
    rw [hf] at hR r6
    rw [hk]
    obtain ⟨L, hL⟩ : ∃ L, k + 1 = L := ⟨_, rfl⟩
    rw [hL] at hsub ⊢
    have hL0 : (0 : Int) < (L : Int) := by omega
    have hkL : (k : Int) < (L : Int) := by omega
    have hk0 : (0 : Int) ≤ (k : Int) := by omega
    have hLn : ¬ (L : Int) = 0 := by omega
    clear hw1 d0 hB HF1 HF2 hF hW x1 HW1 HB t0 t1 t2 t3 t4 t5 hf hL hk h
    go_enter Tryz.func138, Tryz.ntmps138
    go_wp2_with fail
    go_ret
    exact ⟨ret_int hR.out.symm, bel1 w _⟩
end Go.Proofs.YtnikmmdadflefaaGreatDoor
