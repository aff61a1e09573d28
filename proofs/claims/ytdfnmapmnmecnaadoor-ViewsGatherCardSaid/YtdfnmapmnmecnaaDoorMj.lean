/- Part Aw19. Part Awake. What each part says stands at its head; no part has a condition beyond its own statements. -/
import Derived.Test.YtdfnmapmnmecnaaDoorProg
import Derived.Test.YtdfnmapmnmecnaaDoorMh
import Derived.Test.YtdfnmapmnmecnaaDoorMi
import Derived.Deep.RegionLaw
import Derived.Test.YtdfnmapmnmecnaaDoorMa
import Derived.Deep.QuietTactic
import Derived.BigQuiet
import Derived.Deep.RegionHeld3
import Derived.Deep.RegionWith
import Derived.Deep.DeepCutAuto
import Derived.StillTactics
import Derived.Maps.RangeWalk

/- awake, its nineteenth statement: a table of six views by append, in any order. -/
namespace Go.Proofs.YtdfnmapmnmecnaaDoor
open Go.RowKit

theorem layT {T G : Prop} (t : T) (g : T → G) : G := g t
theorem blk_newE {w : World} {o : Obj} {k : Nat} (h : k = w.heap.size) : (w.alloc o).heap[k]? = some o := by subst h; exact blk_new w o
theorem below_size {w W X : World} (hb : Below W.heap.size W X) (hW : Below w.heap.size w W) : w.heap.size ≤ X.heap.size := Nat.le_trans hW.size hb.size
theorem own_form4 {w : World} {base cap : Nat} {A : Option Addr} (h : OwnV w base (.slice A 4 cap) exV) : ∃ g, A = some ⟨g, 0, none⟩ := by
  rcases h.2 with ⟨e, _⟩ | ⟨g, c, cur, e, _⟩
  · cases e
  · cases e; exact ⟨g, rfl⟩
theorem heap_keep {W X : World} (hb : Below W.heap.size W X) (k : Nat) (o : Obj) (h : W.heap[k]? = some o) : X.heap[k]? = some o := (hb.block k (blk_lt h)).trans h
theorem own_keep {W X : World} (hb : Below W.heap.size W X) (base : Nat) (v : Value) (xs : List Vw) (h : OwnV W base v xs) : OwnV X base v xs := h.below hb (Nat.le_refl _)
/-- append(own, views...): at a step of a region that draws; the block of the new ones is known whole. -/
theorem step_appvs {ops : Array Oper} {o : Oper} {a : Act} {K : Act → World → Prop} {Q : Exit → Act → World → Prop} {E : Prop} {W : World} (hgd : o.guard = none) (s x : Operand)
    (ho : o.op = .call { callee := .builtin .append, args := #[s, x], argTypes := #[22, 22] }) (base : Nat) (V : Value) (vs us : List Vw) (hs : a.eval s = V) (hown : OwnV W base V vs) (hf : vs.length + us.length ≤ 100000) (hu : 0 < us.length)
    (hxg : ∃ g, a.eval x = .slice (some ⟨g, 0, none⟩) us.length us.length ∧ W.heap[g]? = some (.cells (vcells us).toArray 27 (0, 0))) (hb : base ≤ W.heap.size)
    (h : ∀ g' cap' w1, OwnV w1 base (.slice (some ⟨g', 0, none⟩) (vs.length + us.length) cap') (vs ++ us) → W.grownBy w1 V.ownBlock → (∀ (b : Nat) (cs : Array Value), W.heap[b]? = some (Obj.cells cs 24 (0, 0)) → w1.heap[b]? = some (Obj.cells cs 24 (0, 0))) → K (a.put o.dst (.slice (some ⟨g', 0, none⟩) (vs.length + us.length) cap')) w1) :
    if Region.wanted o (yielded ops a.tmps) = true then Oper.wp Tryd.prog o a W K Q else E := by
  have hw : Region.wanted o (yielded ops a.tmps) = true := by simp [Region.wanted, hgd]
  rw [if_pos hw]
  obtain ⟨g, hx, hg⟩ := hxg
  obtain ⟨i0, hi, hz0, hz1, hz2⟩ := info_parts info_view
  refine wp_append_lies W s x 22 ho base 27 i0 _ 8 64 Tryd.underlying22 hi hz0 hz1 hz2 rfl (by decide) V vs.length (vcells vs) hs hown ⟨g, 0, none⟩ us.length us.length (vcells us) hx (vcells_length us)
    (fun j u hj => World.news_of_block hg j u (by simpa using hj)) (vcells_one us) hu (by unfold maxLen; omega) (by omega) hb _ rfl ?_
  intro g' cap w1 hown' hgrow _ _
  refine h g' cap w1 ?_ hgrow (fun b cs hk => grown_heap hgrow hk (own_not hown hk))
  unfold OwnV
  rw [List.length_append, vcells_append]
  exact hown'
/-- What the appending leaves: a table of six views in a box; all that lay lies, but the row of the table before. -/
def TabCut (w0 wp : World) (s : Value) (wx : World) : Prop :=
  ∃ g A5 cap5, s = .pointer (some ⟨g, 0, none⟩) ∧ wx.heap[g]? = some (.cells #[.int .i64 2, .slice A5 6 cap5] 24 (0, 0)) ∧ TArg wx A5 cap5 exX ∧ Below w0.heap.size w0 wx ∧ wp.heap.size ≤ wx.heap.size ∧
    (∀ base v xs, Own wp base v xs → Own wx base v xs)

theorem step_pos {P : Program} {G : Type} {ops : Array Oper} {Q : Exit → Act → World → Prop} {val : G → Nat → Value} {J : (Nat → Bool) → G → World → Prop} {i : Nat} {o : Oper} {l : Nat → Bool} {g : G} {w : World} {a : Act} {E : Prop} (hgd : o.guard = none)
    (h : ∀ K : Act → World → Prop, (∀ (g' : G) (v : Value) (w' : World), val g' i = v → (∀ j, l j = true → val g' j = val g j) → J (upd l i) g' w' → K (a.put o.dst v) w') → o.wp P a w K Q) :
    if Region.wanted o (yielded ops a.tmps) then o.wp P a w (fun a' w' => ∃ g' v, a' = a.put o.dst v ∧ val g' i = v ∧ (∀ j, l j = true → val g' j = val g j) ∧ J (upd l i) g' w') Q else E := by
  have hw : Region.wanted o (yielded ops a.tmps) = true := by simp [Region.wanted, hgd]
  rw [if_pos hw]
  exact h _ fun g' v w' h1 h2 h3 => ⟨g', v, rfl, h1, h2, h3⟩

theorem wp_of_step {P : Program} {ops : Array Oper} {Q : Exit → Act → World → Prop} {K : Act → World → Prop} {o : Oper} {w : World} {a : Act} (hgd : o.guard = none) (h : if Region.wanted o (yielded ops a.tmps) = true then o.wp P a w K Q else True) : o.wp P a w K Q := by
  have hw : Region.wanted o (yielded ops a.tmps) = true := by simp [Region.wanted, hgd]
  rwa [if_pos hw] at h

theorem range12 (n : Nat) (h : n = 12) : List.range n = [0, 1, 2, 3, 4, 5, 6, 7, 8, 9, 10, 11] := by subst h; rfl
theorem doneOn_all (ops : Array Oper) (val : Nat → Value) (L : List Nat) (a : Act) : doneOn ops (fun _ => true) val L a = L.foldl (fun a j => a.put (dstOf ops j) (val j)) a := rfl

theorem grow_below {W w w' : World} {r : Option Nat} (h : W.grownBy w r) (hb : Below w.heap.size w w') : W.grownBy w' r :=
  ⟨hb.os.trans h.os, hb.tape.trans h.tape, hb.output.trans h.output, Nat.le_trans h.size hb.size, fun k hk hn => (hb.block k (Nat.lt_of_lt_of_le hk h.size)).trans (h.block k hk hn)⟩
theorem grow_grow {W w w' : World} {r r' : Option Nat} (h : W.grownBy w r) (hg : w.grownBy w' r') (hr : ∀ k, r' = some k → k < W.heap.size → r = some k) : W.grownBy w' r :=
  ⟨hg.os.trans h.os, hg.tape.trans h.tape, hg.output.trans h.output, Nat.le_trans h.size hg.size, fun k hk hn => (hg.block k (Nat.lt_of_lt_of_le hk h.size) (fun e => hn (hr k e.symm hk).symm)).trans (h.block k hk hn)⟩

structure G19 where
  gS : Nat
  gT : Nat
  gV : Nat
  gC : Nat
  cC : Nat

def us19 : List Vw := [⟨0, 0, 0, -1, -1, -1, -1, -1⟩, ⟨1, 1, 0, 4, 1, -1, -1, -1⟩]
def val19 (gt gA cap : Nat) (g : G19) : Nat → Value
  | 0 => .pointer (some ⟨gt, 1, none⟩)
  | 1 => .slice (some ⟨gA, 0, none⟩) 4 cap
  | 2 => .agg #[.int .i64 (-1), .int .i64 (-1), .int .i64 (-1), .int .i64 (-1), .int .i64 (-1)]
  | 3 => .agg #[.int .i64 0, .int .i64 0, .int .i64 0, .int .i64 (-1), .int .i64 (-1), .int .i64 (-1), .int .i64 (-1), .int .i64 (-1)]
  | 4 => .slice (some ⟨g.gS, 0, none⟩) 2 2
  | 5 => .agg #[.int .i64 4, .int .i64 1, .int .i64 (-1), .int .i64 (-1), .int .i64 (-1)]
  | 6 => .agg #[.int .i64 1, .int .i64 1, .int .i64 0, .int .i64 4, .int .i64 1, .int .i64 (-1), .int .i64 (-1), .int .i64 (-1)]
  | 7 => .slice (some ⟨g.gV, 0, none⟩) 2 2
  | 8 => .slice (some ⟨g.gC, 0, none⟩) 6 g.cC
  | 9 => .agg #[.int .i64 2, .slice (some ⟨g.gC, 0, none⟩) 6 g.cC]
  | 10 => .pointer (some ⟨g.gT, 0, none⟩)
  | _ => undef

theorem val19_S {l : Nat → Bool} {gt gA cap : Nat} {g : G19} (x : Nat) (hl : l 4 = false) : ∀ j, l j = true → val19 gt gA cap { g with gS := x } j = val19 gt gA cap g j
  | 0, _ => rfl
  | 1, _ => rfl
  | 2, _ => rfl
  | 3, _ => rfl
  | 4, hj => absurd hj (by rw [hl]; decide)
  | 5, _ => rfl
  | 6, _ => rfl
  | 7, _ => rfl
  | 8, _ => rfl
  | 9, _ => rfl
  | 10, _ => rfl
  | _ + 11, _ => rfl
theorem val19_V {l : Nat → Bool} {gt gA cap : Nat} {g : G19} (x : Nat) (hl : l 7 = false) : ∀ j, l j = true → val19 gt gA cap { g with gV := x } j = val19 gt gA cap g j
  | 0, _ => rfl
  | 1, _ => rfl
  | 2, _ => rfl
  | 3, _ => rfl
  | 4, _ => rfl
  | 5, _ => rfl
  | 6, _ => rfl
  | 7, hj => absurd hj (by rw [hl]; decide)
  | 8, _ => rfl
  | 9, _ => rfl
  | 10, _ => rfl
  | _ + 11, _ => rfl
theorem val19_T {l : Nat → Bool} {gt gA cap : Nat} {g : G19} (x : Nat) (hl : l 10 = false) : ∀ j, l j = true → val19 gt gA cap { g with gT := x } j = val19 gt gA cap g j
  | 0, _ => rfl
  | 1, _ => rfl
  | 2, _ => rfl
  | 3, _ => rfl
  | 4, _ => rfl
  | 5, _ => rfl
  | 6, _ => rfl
  | 7, _ => rfl
  | 8, _ => rfl
  | 9, _ => rfl
  | 10, hj => absurd hj (by rw [hl]; decide)
  | _ + 11, _ => rfl
theorem val19_C {l : Nat → Bool} {gt gA cap : Nat} {g : G19} (x y : Nat) (hl : l 8 = false) (h9 : l 9 = true → l 8 = true) : ∀ j, l j = true → val19 gt gA cap { g with gC := x, cC := y } j = val19 gt gA cap g j
  | 0, _ => rfl
  | 1, _ => rfl
  | 2, _ => rfl
  | 3, _ => rfl
  | 4, _ => rfl
  | 5, _ => rfl
  | 6, _ => rfl
  | 7, _ => rfl
  | 8, hj => absurd hj (by rw [hl]; decide)
  | 9, hj => absurd (h9 hj) (by rw [hl]; decide)
  | 10, _ => rfl
  | _ + 11, _ => rfl

structure J19 (W : World) (base gA cap : Nat) (l : Nat → Bool) (g : G19) (w : World) : Prop where
  grow : W.grownBy w (some gA)
  first : l 11 = true → l 10 = true ∧ l 9 = true
  nine : l 9 = true → l 8 = true
  box : l 10 = true → w.heap[g.gT]? = some (.cells #[cond (l 11) (.int .i64 2) (.int .i64 0), cond (l 11) (.slice (some ⟨g.gC, 0, none⟩) 6 g.cC) (.slice none 0 0)] 24 (0, 0))
  boxNew : l 10 = true → W.heap.size ≤ g.gT
  pair : l 4 = true → w.heap[g.gS]? = some (.cells #[.int .i64 4, .int .i64 1] 3 (0, 0))
  two : l 7 = true → l 8 = false → w.heap[g.gV]? = some (.cells (vcells us19).toArray 27 (0, 0))
  old : l 8 = false → OwnV w base (.slice (some ⟨gA, 0, none⟩) 4 cap) exV
  new : l 8 = true → OwnV w base (.slice (some ⟨g.gC, 0, none⟩) 6 g.cC) exX

section
variable {W : World} {base gA cap : Nat} {l : Nat → Bool} {g : G19} {w : World}
theorem J19.start (h : OwnV W base (.slice (some ⟨gA, 0, none⟩) 4 cap) exV) (g : G19) : J19 W base gA cap (fun _ => false) g W.drew :=
  ⟨⟨rfl, rfl, rfl, Nat.le_refl _, fun _ _ _ => rfl⟩, fun h => by simp at h, fun h => by simp at h, fun h => by simp at h, fun h => by simp at h, fun h => by simp at h, fun h => by simp at h, fun _ => h.drew, fun h => by simp at h⟩
theorem J19.idle (h : J19 W base gA cap l g w) {i : Nat} (hi : i ≠ 4 ∧ i ≠ 7 ∧ i ≠ 8 ∧ i ≠ 10 ∧ i ≠ 11) (h9 : i = 9 → l 8 = true) : J19 W base gA cap (upd l i) g w := by
  have e4 : upd l i 4 = l 4 := upd_ne (fun e => hi.1 e.symm)
  have e7 : upd l i 7 = l 7 := upd_ne (fun e => hi.2.1 e.symm)
  have e8 : upd l i 8 = l 8 := upd_ne (fun e => hi.2.2.1 e.symm)
  have e10 : upd l i 10 = l 10 := upd_ne (fun e => hi.2.2.2.1 e.symm)
  have e11 : upd l i 11 = l 11 := upd_ne (fun e => hi.2.2.2.2 e.symm)
  refine ⟨h.grow, ?_, ?_, ?_, ?_, ?_, ?_, ?_, ?_⟩
  · rw [e10, e11]; exact fun e => ⟨(h.first e).1, upd_true (h.first e).2⟩
  · rw [e8]
    intro e
    by_cases e9 : i = 9
    · exact h9 e9
    · rw [upd_ne (fun x => e9 x.symm)] at e; exact h.nine e
  · rw [e10, e11]; exact h.box
  · rw [e10]; exact h.boxNew
  · rw [e4]; exact h.pair
  · rw [e7, e8]; exact h.two
  · rw [e8]; exact h.old
  · rw [e8]; exact h.new
theorem J19.below (h : J19 W base gA cap l g w) {w' : World} (hb : Below w.heap.size w w') : J19 W base gA cap l g w' :=
  ⟨grow_below h.grow hb, h.first, h.nine, fun k => heap_keep hb _ _ (h.box k), h.boxNew, fun k => heap_keep hb _ _ (h.pair k), fun k k' => heap_keep hb _ _ (h.two k k'), fun k => own_keep hb _ _ _ (h.old k), fun k => own_keep hb _ _ _ (h.new k)⟩
theorem J19.pairs (h : J19 W base gA cap l g w) (_hl : l 4 = false) : J19 W base gA cap (upd l 4) { g with gS := w.heap.size } (w.alloc (.cells #[.int .i64 4, .int .i64 1] 3)) := by
  have h' := h.below (bel1 w (.cells #[.int .i64 4, .int .i64 1] 3))
  refine ⟨h'.grow, ?_, ?_, ?_, ?_, fun _ => blk_new _ _, ?_, ?_, ?_⟩
  · simpa [upd] using h'.first
  · simpa [upd] using h'.nine
  · simpa [upd] using h'.box
  · simpa [upd] using h'.boxNew
  · simpa [upd] using h'.two
  · simpa [upd] using h'.old
  · simpa [upd] using h'.new
theorem J19.twos (h : J19 W base gA cap l g w) (_hl : l 7 = false) : J19 W base gA cap (upd l 7) { g with gV := w.heap.size } (w.alloc (.cells (vcells us19).toArray 27)) := by
  have h' := h.below (bel1 w (.cells (vcells us19).toArray 27))
  refine ⟨h'.grow, ?_, ?_, ?_, ?_, ?_, fun _ _ => blk_new _ _, ?_, ?_⟩
  · simpa [upd] using h'.first
  · simpa [upd] using h'.nine
  · simpa [upd] using h'.box
  · simpa [upd] using h'.boxNew
  · simpa [upd] using h'.pair
  · simpa [upd] using h'.old
  · simpa [upd] using h'.new
theorem J19.boxes (h : J19 W base gA cap l g w) (hl : l 10 = false) : J19 W base gA cap (upd l 10) { g with gT := w.heap.size } (w.alloc (.cells #[.int .i64 0, .slice none 0 0] 24)) := by
  have h' := h.below (bel1 w (.cells #[.int .i64 0, .slice none 0 0] 24))
  have h11 : l 11 = false := by
    cases e : l 11 with
    | false => rfl
    | true => rw [(h.first e).1] at hl; cases hl
  refine ⟨h'.grow, fun e => by simp [upd, h11] at e, ?_, fun _ => ?_, fun _ => h.grow.size, ?_, ?_, ?_, ?_⟩
  · simpa [upd] using h'.nine
  · have : upd l 10 11 = false := by simp [upd, h11]
    rw [this]
    exact blk_new _ _
  · simpa [upd] using h'.pair
  · simpa [upd] using h'.two
  · simpa [upd] using h'.old
  · simpa [upd] using h'.new
theorem J19.app (h : J19 W base gA cap l g w) (hl : l 8 = false) {gC cC : Nat} {w' : World} (hown : OwnV w' base (.slice (some ⟨gC, 0, none⟩) 6 cC) exX) (hg : w.grownBy w' (some gA)) (hT : ∀ (b : Nat) (cs : Array Value), w.heap[b]? = some (Obj.cells cs 24 (0, 0)) → w'.heap[b]? = some (Obj.cells cs 24 (0, 0))) :
    J19 W base gA cap (upd l 8) { g with gC := gC, cC := cC } w' := by
  have h11 : l 11 = false := by
    cases e : l 11 with
    | false => rfl
    | true => rw [h.nine (h.first e).2] at hl; cases hl
  refine ⟨grow_grow h.grow hg (fun _ e _ => e), ?_, fun _ => upd_self _ _, ?_, ?_, ?_, fun _ e => by simp [upd] at e, fun e => by simp [upd] at e, fun _ => hown⟩
  · simpa [upd] using h.first
  · intro e
    have e' : l 10 = true := by simpa [upd] using e
    have := hT _ _ (h.box e')
    have e11 : upd l 8 11 = l 11 := upd_ne (by decide)
    rw [e11, h11]
    rw [h11] at this
    exact this
  · simpa [upd] using h.boxNew
  · intro e
    have e' : l 4 = true := by simpa [upd] using e
    refine grown_heap hg (h.pair e') (fun e2 => ?_)
    have e3 : gA = g.gS := by simpa using e2
    rcases (h.old hl).2 with ⟨e4, _⟩ | ⟨q, c, cur, e4, _, hq, _⟩
    · cases e4
    · cases e4
      rw [e3] at hq
      rw [h.pair e'] at hq
      cases hq
theorem J19.put (h : J19 W base gA cap l g w) (h10 : l 10 = true) (h11 : l 11 = false) (h9 : l 9 = true) : J19 W base gA cap (upd l 11) g ((w.setCell ⟨g.gT, 0, none⟩ (.int .i64 2)).setCell ⟨g.gT, 1, none⟩ (.slice (some ⟨g.gC, 0, none⟩) 6 g.cC)) := by
  have h8 := h.nine h9
  have hb := h.box h10
  rw [h11] at hb
  have g1 := grown_set1 w g.gT 0 (.int .i64 2)
  have g2 := grown_set1 (w.setCell ⟨g.gT, 0, none⟩ (.int .i64 2)) g.gT 1 (.slice (some ⟨g.gC, 0, none⟩) 6 g.cC)
  have hn : ∀ k : Nat, some g.gT = some k → k < W.heap.size → some gA = some k := fun k e hk => by
    have := h.boxNew h10
    cases e; omega
  refine ⟨grow_grow (grow_grow h.grow g1 hn) g2 hn, fun _ => ⟨upd_true h10, upd_true h9⟩, fun _ => upd_true h8, fun _ => ?_, fun _ => h.boxNew h10, fun e => ?_, fun _ e => ?_, fun e => ?_, fun _ => ?_⟩
  · have : upd l 11 11 = true := upd_self _ _
    rw [this]
    exact set_two hb
  · have e' : l 4 = true := by simpa [upd] using e
    have hne : some g.gT ≠ some g.gS := fun e2 => by
      have e3 : g.gT = g.gS := by simpa using e2
      have := h.pair e'
      rw [← e3, hb] at this
      cases this
    exact grown_heap g2 (grown_heap g1 (h.pair e') hne) hne
  · have e' : l 8 = false := by simpa [upd] using e
    rw [h8] at e'; cases e'
  · have e' : l 8 = false := by simpa [upd] using e
    rw [h8] at e'; cases e'
  · have ho := h.new h8
    have n1 := own_not ho hb
    have ho1 := ho.kept g1 (.inr n1)
    exact ho1.kept g2 (.inr n1)
end

theorem own_ownv_ne {w : World} {base base' cap : Nat} {gA : Nat} {v : Value} {xs : List Int} {vs : List Vw} (h : Own w base v xs) (h' : OwnV w base' (.slice (some ⟨gA, 0, none⟩) vs.length cap) vs) : v.ownBlock ≠ some gA := by
  intro e
  rcases h.2 with ⟨rfl, _⟩ | ⟨q, c, cur, rfl, _, hq, _⟩
  · cases e
  · have e1 : q = gA := by simpa [Value.ownBlock] using e
    rcases h'.2 with ⟨e4, _⟩ | ⟨q', c', cur', e4, _, hq', _⟩
    · cases e4
    · cases e4
      rw [e1, hq'] at hq
      cases hq
theorem J19.cut {w0 W : World} {base gA cap : Nat} {l : Nat → Bool} {g : G19} {w : World} (h : J19 W base gA cap l g w) (hall : ∀ i, i < 12 → l i = true) (hW : Below w0.heap.size w0 W) (hA : w0.heap.size ≤ gA) (hown : OwnV W base (.slice (some ⟨gA, 0, none⟩) 4 cap) exV) :
    TabCut w0 W (.pointer (some ⟨g.gT, 0, none⟩)) w := by
  have hb := h.box (hall 10 (by omega))
  rw [hall 11 (by omega)] at hb
  refine ⟨g.gT, some ⟨g.gC, 0, none⟩, g.cC, rfl, hb, TArg.of_own (h.new (hall 8 (by omega))) (by decide), hW.grown h.grow hW.size (fun k e => by cases e; exact hA), h.grow.size, fun b v xs ho => ?_⟩
  have hne := own_ownv_ne (vs := exV) ho hown
  exact World.ownsRow.kept ho h.grow (.inr hne)
end Go.Proofs.YtdfnmapmnmecnaaDoor

/- law: awake: the examples of the chapter hold. -/
namespace Go.Proofs.YtdfnmapmnmecnaaDoor
open Go.RowKit

theorem info_str : (Tryd.prog.info? 9).map (fun i => (i.zero, i.size, i.bytes)) = some (some (.string .empty), 1, 16) := by kernel_rfl
/-- The slice v owns the strings xs, in blocks from base on. -/
def OwnS (w : World) (base : Nat) (v : Value) (xs : List ByteArray) : Prop := w.ownsRow base 9 1 v xs.length (xs.map Value.string)
theorem OwnS.nil (w : World) (base : Nat) : OwnS w base (.slice none 0 0) [] := World.ownsRow_nil w base _ 1
theorem OwnS.lt {w : World} {base : Nat} {v : Value} {xs : List ByteArray} (h : OwnS w base v xs) : ∀ k, v.ownBlock = some k → base ≤ k ∧ k < w.heap.size := World.ownsRow.lt h
theorem OwnS.below {w w' : World} {base B : Nat} {v : Value} {xs : List ByteArray} (h : OwnS w base v xs) (hb : Below B w w') (hB : w.heap.size ≤ B) : OwnS w' base v xs :=
  World.ownsRow.kept (row := none) h ⟨hb.os, hb.tape, hb.output, hb.size, fun k hk _ => hb.block k (by omega)⟩ (by cases v.ownBlock <;> simp)
theorem OwnS.cells {w : World} {base : Nat} {v : Value} {xs : List ByteArray} (h : OwnS w base v xs) (hne : xs ≠ []) : ∃ b cap, v = .slice (some ⟨b, 0, none⟩) xs.length cap ∧ b < w.heap.size ∧ ∀ j, j < xs.length → w.cell? ⟨b, 0 + j, none⟩ = some (.string (xs.getD j ByteArray.empty)) := by
  have hpos : 0 < xs.length := List.length_pos_iff.2 hne
  obtain ⟨g, cap, hv, _, hlt⟩ := World.ownsRow.form h hpos
  subst hv
  refine ⟨g, cap, rfl, hlt, fun j hj => ?_⟩
  have := World.ownsRow.cells h (g := g) rfl j (.string xs[j]) (by simp [hj])
  rw [show (⟨g, 0, none⟩ : Addr).add j = ⟨g, 0 + j, none⟩ from by unfold Addr.add; split <;> simp_all] at this
  rw [this]; simp [hj]
theorem wpList_apps {ops : Array Oper} {rest : List Oper} {o : Oper} {a : Act} {Q : Exit → Act → World → Prop} {W : World} (hgd : o.guard = none) (s x : Operand)
    (hop : o.op = .call { callee := .builtin .append, args := #[s, x], argTypes := #[48, 48] }) (base : Nat) (v : Value) (xs : List ByteArray) (u : ByteArray) (hs : a.eval s = v) (hown : OwnS W base v xs)
    (hx : a.eval x = .slice (some ⟨W.heap.size, 0, none⟩) 1 1) (hlen : xs.length < 1000000) (hb : base ≤ W.heap.size)
    (h : ∀ v' w1, OwnS w1 base v' (xs ++ [u]) → Below base W w1 → wpList Tryd.prog ops Q rest (a.put o.dst v') w1) :
    wpList Tryd.prog ops Q (o :: rest) a (W.alloc (.cells #[.string u] 9)) := by
  obtain ⟨i0, hi, hz0, hz1, hz2⟩ := info_parts info_str
  refine wpList_append_own _ hgd s x 48 hop base 9 i0 (.string .empty) 1 16 Tryd.underlying48 hi hz0 hz1 hz2 rfl (by decide) v xs.length _ hs (World.ownsRow.alloc hown _) ⟨W.heap.size, 0, none⟩ 1 1 [.string u] hx rfl (cell_one_new _ _ _)
    (by simp [Value.oneCell']) (by unfold maxLen; omega) (by omega) (by simp; omega) ?_
  intro v' w1 hown1 hgrow _
  have hg := grown_of_alloc hgrow
  refine h v' w1 ?_ ((Below.refl base W).grown hg hb fun k hk => (hown.lt k hk).1)
  unfold OwnS
  rw [List.length_append, List.map_append]
  exact hown1

def exTB : List ByteArray := exT.map fun l => ⟨l.toArray⟩
theorem exTB_take (k : Nat) (hk : k < 4) : exTB.take (k + 1) = exTB.take k ++ [⟨(exT.getD k []).toArray⟩] := by
  obtain rfl | rfl | rfl | rfl : k = 0 ∨ k = 1 ∨ k = 2 ∨ k = 3 := by omega
  all_goals rfl

def RetTrue (w : World) (e : Ending) (w' : World) : Prop := e = .returned (.bool true) ∧ Below w.heap.size w w'

theorem lheard1b (x : Int) (b : Nat) (w : World) (hb : w.heap[b]? = some (.cells #[.int .i64 x] 3 (0, 0))) : Calls Tryd.prog 38 #[.slice (some ⟨b, 0, none⟩) 1 1] w fun e w' =>
    e = .returned (.agg #[.int .i64 x, .int .i64 (-1), .int .i64 (-1), .int .i64 (-1), .int .i64 (-1)]) ∧ Below w.heap.size w w' :=
  lheard_any [x] (by simp) _ 1 _ fun _ => ⟨b, 0, rfl, blk_lt hb, fun i hi => by
    have : i = 0 := by simp at hi; omega
    subst this
    exact blk_cell hb 0 rfl⟩
theorem lheard2b (x y : Int) (b : Nat) (w : World) (hb : w.heap[b]? = some (.cells #[.int .i64 x, .int .i64 y] 3 (0, 0))) : Calls Tryd.prog 38 #[.slice (some ⟨b, 0, none⟩) 2 2] w fun e w' =>
    e = .returned (.agg #[.int .i64 x, .int .i64 y, .int .i64 (-1), .int .i64 (-1), .int .i64 (-1)]) ∧ Below w.heap.size w w' :=
  lheard_any [x, y] (by simp) _ 2 _ fun _ => ⟨b, 0, rfl, blk_lt hb, fun i hi => by
    have : i = 0 ∨ i = 1 := by simp at hi; omega
    rcases this with rfl | rfl
    · exact blk_cell hb 0 rfl
    · exact blk_cell hb 1 rfl⟩
theorem add_exA (A : Option Addr) (cap : Nat) (w : World) (hT : TArg w A cap exV) : Calls Tryd.prog 13 #[.agg #[.int .i64 2, .slice A 4 cap], .agg #[.int .i64 0, .int .i64 2, .int .i64 0, .int .i64 2, .int .i64 3, .int .i64 (-1), .int .i64 (-1), .int .i64 (-1)]] w fun e w' =>
    ∃ A5 cap5, e = .returned (.tuple #[.agg #[.int .i64 2, .slice A5 5 cap5], .int .i64 4, .int .i64 0]) ∧ TArg w' A5 cap5 exU ∧ Below w.heap.size w w' := by
  have h := vadd_any 2 A cap exV exA w hT
  rw [ex_add] at h
  exact h
theorem add_exG (A : Option Addr) (cap : Nat) (w : World) (hT : TArg w A cap exV) : Calls Tryd.prog 13 #[.agg #[.int .i64 2, .slice A 4 cap], .agg #[.int .i64 1, .int .i64 1, .int .i64 0, .int .i64 0, .int .i64 (-1), .int .i64 (-1), .int .i64 (-1), .int .i64 (-1)]] w fun e w' =>
    ∃ A5 cap5, e = .returned (.tuple #[.agg #[.int .i64 0, .slice A5 0 cap5], .int .i64 0, .int .i64 20]) ∧ TArg w' A5 cap5 [] ∧ Below w.heap.size w w' := by
  have h := vadd_any 2 A cap exV exG w hT
  rw [ex_gap] at h
  exact h
theorem add_exB (A : Option Addr) (cap : Nat) (w : World) (hT : TArg w A cap exX) : Calls Tryd.prog 13 #[.agg #[.int .i64 2, .slice A 6 cap], .agg #[.int .i64 0, .int .i64 2, .int .i64 0, .int .i64 2, .int .i64 5, .int .i64 (-1), .int .i64 (-1), .int .i64 (-1)]] w fun e w' =>
    ∃ A5 cap5, e = .returned (.tuple #[.agg #[.int .i64 0, .slice A5 0 cap5], .int .i64 0, .int .i64 22]) ∧ TArg w' A5 cap5 [] ∧ Below w.heap.size w w' := by
  have h := vadd_any 2 A cap exX exB w hT
  rw [ex_bad] at h
  exact h
/-- What 'u, k, e := Add(..)' leaves: the table in a box, the index, the number. -/
def AddCut (n : Int) (us : List Vw) (i c : Int) (wp : World) (s16 s17 s18 : Value) (wx : World) : Prop :=
  ∃ g A5 cap5, s16 = .pointer (some ⟨g, 0, none⟩) ∧ s17 = .int .i64 i ∧ s18 = .int .i64 c ∧ wx.heap[g]? = some (.cells #[.int .i64 n, .slice A5 us.length cap5] 24 (0, 0)) ∧ TArg wx A5 cap5 us ∧ Below wp.heap.size wp wx
theorem addcut_of {n i c : Int} {us : List Vw} {wp w11 X : World} {A5 : Option Addr} {m cap5 : Nat} (hm : us.length = m) (hX : X.heap = (w11.alloc (.cells #[.int .i64 n, .slice A5 m cap5] 24)).heap) (hT : TArg w11 A5 cap5 us) (hb : Below wp.heap.size wp X) (hbx : Below w11.heap.size w11 X) :
    AddCut n us i c wp (.pointer (some ⟨w11.heap.size, 0, none⟩)) (.int .i64 i) (.int .i64 c) X := by
  subst hm
  exact ⟨_, A5, cap5, rfl, rfl, rfl, by rw [hX]; exact blk_new _ _, hT.keep hbx, hb⟩

theorem TArg.set_small {w : World} {A : Option Addr} {cap g : Nat} {us : List Vw} {a b : Value} {t : TypeId} (h : TArg w A cap us) (Y : w.heap[g]? = some (.cells #[a, b] t (0, 0))) (k : Nat) (u : Value) : TArg (w.setCell ⟨g, k, none⟩ u) A cap us := by
  refine ⟨fun h0 => ?_, h.lec, h.lem, h.few⟩
  obtain ⟨bb, off, e, hlt, hc⟩ := h.rows h0
  have hne : bb ≠ g := by
    rintro rfl
    have h7 := hc 0 h0 7 _ rfl
    rw [cell_of_row w bb _ _ _ _ Y] at h7
    simp at h7
  exact ⟨bb, off, e, by simpa using hlt, fun i hi k' v hk => (World.cell?_of_block (Below.heap_setCell w _ _ _ hne)).trans (hc i hi k' v hk)⟩
theorem addcut_set {n i c : Int} {us : List Vw} {wp w11 X : World} {A5 : Option Addr} {m cap5 g : Nat} (hm : us.length = m) (hX : X = (w11.setCell ⟨g, 0, none⟩ (.int .i64 n)).setCell ⟨g, 1, none⟩ (.slice A5 m cap5)) (hT : TArg w11 A5 cap5 us) (hb : Below wp.heap.size wp w11)
    (hg : wp.heap.size ≤ g) (Y : w11.heap[g]? = some (.cells #[.int .i64 0, .slice none 0 0] 24 (0, 0))) : AddCut n us i c wp (.pointer (some ⟨g, 0, none⟩)) (.int .i64 i) (.int .i64 c) X := by
  subst hm
  subst hX
  have hbx : Below wp.heap.size wp ((w11.setCell ⟨g, 0, none⟩ (.int .i64 n)).setCell ⟨g, 1, none⟩ (.slice A5 us.length cap5)) := (hb.setCell hg _).setCell hg _
  have Y' : (w11.setCell ⟨g, 0, none⟩ (.int .i64 n)).heap[g]? = some (.cells #[.int .i64 n, .slice none 0 0] 24 (0, 0)) := by simp [World.setCell, Array.getElem?_modify, Y]
  exact ⟨g, A5, cap5, rfl, rfl, rfl, set_two Y, (hT.set_small Y 0 _).set_small Y' 1 _, hbx⟩
theorem set_far2 {w : World} {g k k' b o : Nat} {v v' u : Value} (h : b ≠ g) (hc : w.cell? ⟨b, o, none⟩ = some u) : ((w.setCell ⟨g, k, none⟩ v).setCell ⟨g, k', none⟩ v').cell? ⟨b, o, none⟩ = some u :=
  (World.cell?_of_block (Below.heap_setCell _ _ _ _ h)).trans ((World.cell?_of_block (Below.heap_setCell _ _ _ _ h)).trans hc)
theorem below_push {B : Nat} {w W X : World} (hb : Below W.heap.size W X) (hW : Below B w W) (hB : B ≤ w.heap.size) : Below B w X := hW.trans (hb.mono (Nat.le_trans hB hW.size))

theorem text_exU (A : Option Addr) (cap : Nat) (w : World) (hT : TArg w A cap exU) : Calls Tryd.prog 20 #[.agg #[.int .i64 2, .slice A 5 cap], .int .i64 4] w fun e w' =>
    e = .returned (.tuple #[.string ⟨#[48, 40, 48, 40, 48, 58, 49, 44, 49, 58, 48, 41, 44, 49, 40, 49, 58, 48, 41, 41]⟩, .int .i64 0]) ∧ Below w.heap.size w w' := by
  have h := vtext_any 2 A cap exU lows_exU 4 w hT
  rw [ex_text4] at h
  exact h
theorem eq_texts (b c : Nat) (W : World) (hcs : ∀ j, j < 4 → W.cell? ⟨b, 0 + j, none⟩ = some (.string (exTB.getD j ByteArray.empty))) :
    Calls Tryd.prog 39 #[.slice (some ⟨b, 0, none⟩) 4 c, .slice (some ⟨W.heap.size, 0, none⟩) 4 4] (W.alloc (.cells #[.string ⟨#[48, 58, 49]⟩, .string ⟨#[49, 58, 48]⟩, .string ⟨#[48, 40, 48, 58, 49, 44, 49, 58, 48, 41]⟩, .string ⟨#[49, 40, 49, 58, 48, 41]⟩] 9)) fun e w' => e = .returned (.bool true) ∧ Below W.heap.size W w' := by
  refine (Tryd.slices_Equal_string b 0 4 c W.heap.size 0 4 4 exTB exTB _ (by decide) (by decide) (by decide) (by decide) (fun j hj => Lib.cell?_alloc_some _ (hcs j hj)) (fun j hj => ?_)).mono ?_
  · have hj4 : j < 4 := hj
    obtain rfl | rfl | rfl | rfl : j = 0 ∨ j = 1 ∨ j = 2 ∨ j = 3 := by omega
    all_goals exact blk_cell (blk_new W _) _ rfl
  · rintro e w' ⟨rfl, q, rfl⟩
    exact ⟨by simp, belN (bel1 W _) q⟩
theorem own_slice {w : World} {base : Nat} {v : Value} {xs : List Int} (h : Own w base v xs) (hne : 0 < xs.length) : ∃ b off cap, v = .slice (some ⟨b, off, none⟩) xs.length cap ∧ b < w.heap.size ∧ ∀ j, j < xs.length → w.cell? ⟨b, off + j, none⟩ = some (.int .i64 (xs.getD j 0)) := by
  obtain ⟨A, cap, rfl, _, _, hA⟩ := h.form
  obtain ⟨b, off, rfl, hlt, hc⟩ := hA hne
  exact ⟨b, off, cap, rfl, hlt, fun j hj => by rw [hc j hj]; simp [hj]⟩
theorem eq_ints3 (x y z : Int) {base : Nat} {v : Value} (W : World) (h : Own W base v [x, y, z]) :
    Calls Tryd.prog 35 #[v, .slice (some ⟨W.heap.size, 0, none⟩) 3 3] (W.alloc (.cells #[.int .i64 x, .int .i64 y, .int .i64 z] 3)) fun e w' => e = .returned (.bool true) ∧ Below W.heap.size W w' := by
  obtain ⟨b, off, cap, rfl, hlt, hc⟩ := own_slice h (by simp)
  refine (Tryd.slices_Equal_int b off 3 cap W.heap.size 0 3 3 [x, y, z] [x, y, z] _ (by simp) (by simp) (by decide) (by decide) (fun j hj => Lib.cell?_alloc_some _ (hc j hj)) (fun j hj => ?_)).mono ?_
  · have hj4 : j < 3 := hj
    obtain rfl | rfl | rfl : j = 0 ∨ j = 1 ∨ j = 2 := by omega
    all_goals exact blk_cell (blk_new W _) _ rfl
  · rintro e w' ⟨rfl, q, rfl⟩
    exact ⟨by simp, belN (bel1 W _) q⟩
theorem eq_ints2 (x y : Int) {base : Nat} {v : Value} (W : World) (h : Own W base v [x, y]) :
    Calls Tryd.prog 35 #[v, .slice (some ⟨W.heap.size, 0, none⟩) 2 2] (W.alloc (.cells #[.int .i64 x, .int .i64 y] 3)) fun e w' => e = .returned (.bool true) ∧ Below W.heap.size W w' := by
  obtain ⟨b, off, cap, rfl, hlt, hc⟩ := own_slice h (by simp)
  refine (Tryd.slices_Equal_int b off 2 cap W.heap.size 0 2 2 [x, y] [x, y] _ (by simp) (by simp) (by decide) (by decide) (fun j hj => Lib.cell?_alloc_some _ (hc j hj)) (fun j hj => ?_)).mono ?_
  · have hj4 : j < 2 := hj
    obtain rfl | rfl : j = 0 ∨ j = 1 := by omega
    all_goals exact blk_cell (blk_new W _) _ rfl
  · rintro e w' ⟨rfl, q, rfl⟩
    exact ⟨by simp, belN (bel1 W _) q⟩
theorem str_ne (X : World) : (binOp .neq 9 (.string ⟨#[48, 40, 48, 40, 48, 58, 49, 44, 49, 58, 48, 41, 44, 49, 40, 49, 58, 48, 41, 41]⟩) (.string ⟨#[48, 40, 48, 40, 48, 58, 49, 44, 49, 58, 48, 41, 44, 49, 40, 49, 58, 48, 41, 41]⟩)).run Tryd.prog X = .ok (.bool false) X := by kernel_rfl

set_option maxRecDepth 100000 in
set_option maxHeartbeats 8000000 in
theorem awake_any (w : World) : Calls Tryd.prog 12 #[] w (RetTrue w) := by
  go_enter Tryd.func12, Tryd.ntmps12
  go_wp2_with fail
  refine (example_any w).mono ?_
  rintro e w1 ⟨A, cap, rfl, hown, hb1⟩
  have hT1 := TArg.of_own hown (by decide)
  have HT1 := Lib.hid hT1
  have HB1 := Lib.hid hb1
  have HO1 := Lib.hid hown
  clear hown hb1 hT1
  have hl4 : exV.length = 4 := rfl
  rw [hl4] at HO1 ⊢
  go_wp2_with fail
  obtain ⟨W1, hW1, b1, hs1, hB1⟩ := onebox w1 #[.int .i64 2, .slice A 4 cap] 24
  rw [hW1]
  clear hW1
  have hlt1 : w1.heap.size < W1.heap.size := by omega
  obtain ⟨gt, hgt⟩ : ∃ gt, w1.heap.size = gt := ⟨_, rfl⟩
  have BW1 : Hid (Below w.heap.size w W1) := HB1.out.trans (hB1.mono HB1.out.size)
  have TW1 : Hid (TArg W1 A cap exV) := HT1.out.keep hB1
  rw [hgt] at b1 hlt1 ⊢
  have KT1 := Lib.hid b1
  have OVW : Hid (OwnV W1 w.heap.size (.slice A 4 cap) exV) := HO1.out.below hB1 (Nat.le_refl _)
  have HL4 := Lib.hid hl4
  clear hgt b1 hs1 hB1 hl4
  go_loopw [2, 29] (fun v i wr => ∃ k : Nat, k ≤ 4 ∧ i = .int .i64 k ∧ OwnS wr W1.heap.size v (exTB.take k) ∧ Below W1.heap.size W1 wr) (fun _ i _ => 4 - (intOf i).toNat)
  case atStart => exact ⟨0, by omega, rfl, OwnS.nil _ _, Below.refl _ _⟩
  case round =>
    obtain ⟨k, hk, rfl, hos, hbl⟩ := hrel
    have HOS := Lib.hid hos
    have HBL := Lib.hid hbl
    have d0 := (hbl.block gt hlt1).trans KT1.out
    have t0 : wr.cell? ⟨gt, 0, none⟩ = some (.int .i64 2) := blk_cell d0 0 rfl
    have t1 : wr.cell? ⟨gt, 1, none⟩ = some (.slice A 4 cap) := blk_cell d0 1 rfl
    have TWr : Hid (TArg wr A cap exV) := TW1.out.keep hbl
    have OVr : Hid (OwnV wr w.heap.size (.slice A 4 cap) exV) := OVW.out.below hbl (Nat.le_refl _)
    have KTr := Lib.hid d0
    clear hos hbl d0
    by_cases hlt : k < 4
    · have htx := vtext_any 2 A cap exV lows_exV k wr TWr.out
      rw [ex_text k hlt, HL4.out] at htx
      have HTX := Lib.hid htx
      have hst := Lib.hid (exTB_take k hlt)
      clear htx
      go_wp2_with fail
      refine HTX.out.mono ?_
      rintro e w2 ⟨rfl, hb2⟩
      have HB2 := Lib.hid hb2
      have OS2 : Hid (OwnS w2 W1.heap.size u2 (exTB.take k)) := HOS.out.below hb2 (Nat.le_refl _)
      obtain ⟨S, hS⟩ : ∃ S : ByteArray, (⟨(exT.getD k []).toArray⟩ : ByteArray) = S := ⟨_, rfl⟩
      rw [hS] at hst ⊢
      have htl : (exTB.take k).length < 1000000 := by simp; omega
      clear hb2 t0 t1 hS
      go_wp2_with (at_builtin; refine wpList_apps rfl _ _ rfl W1.heap.size u2 _ S rfl OS2.out rfl htl (Nat.le_trans HBL.out.size HB2.out.size) ?_; intro v' w3 hown3 hb3; have HO3 := Lib.hid hown3; have HB3 := Lib.hid hb3; clear hown3 hb3)
      go_roundw
      case rel => exact ⟨k + 1, by omega, by go_num, by rw [hst.out]; exact HO3.out, HBL.out.trans ((HB2.out.mono HBL.out.size).trans HB3.out)⟩
      case measure => simp [intOf]; omega
    · obtain rfl : k = 4 := by omega
      have OS0 : Hid (OwnS wr W1.heap.size u2 exTB) := HOS.out
      have T0 := Lib.hid TWr.out
      have K0 := Lib.hid KTr.out
      have B0 := Lib.hid HBL.out
      have OV0 := Lib.hid OVr.out
      clear TWr KTr HBL HOS
      have hc := vpast_any 2 A cap exV 2 wr T0.out
      rw [ex_past, HL4.out] at hc
      have HC := Lib.hid hc
      clear hc
      go_wp2_with fail
      refine HC.out.mono ?_
      rintro e w5 ⟨vl, rfl, ho, hb⟩
      clear HC t0 t1
      have T1 : Hid (TArg w5 A cap exV) := T0.out.keep hb
      have K1 : Hid (w5.heap[gt]? = some (.cells #[.int .i64 2, .slice A 4 cap] 24 (0, 0))) := (hb.block gt (blk_lt K0.out)).trans K0.out
      have B1 : Hid (Below W1.heap.size W1 w5) := B0.out.trans (hb.mono B0.out.size)
      have OV1 : Hid (OwnV w5 w.heap.size (.slice A 4 cap) exV) := OV0.out.below hb (Nat.le_refl _)
      have OS1 : Hid (OwnS w5 W1.heap.size u2 exTB) := OS0.out.below hb (Nat.le_refl _)
      have OL1 : Hid (Own w5 W1.heap.size vl [0, 1, 2]) := ho.low B0.out.size
      clear ho hb
      have t0 : w5.cell? ⟨gt, 0, none⟩ = some (.int .i64 2) := blk_cell K1.out 0 rfl
      have t1 : w5.cell? ⟨gt, 1, none⟩ = some (.slice A 4 cap) := blk_cell K1.out 1 rfl
      have hc := vinputs_any 2 A cap exV 2 w5 T1.out
      rw [ex_in2, HL4.out] at hc
      have HC := Lib.hid hc
      clear hc
      go_wp2_with fail
      refine HC.out.mono ?_
      rintro e w6 ⟨va, rfl, ho, hb⟩
      clear HC t0 t1
      have T2 : Hid (TArg w6 A cap exV) := T1.out.keep hb
      have K2 : Hid (w6.heap[gt]? = some (.cells #[.int .i64 2, .slice A 4 cap] 24 (0, 0))) := (hb.block gt (blk_lt K1.out)).trans K1.out
      have B2 : Hid (Below W1.heap.size W1 w6) := B1.out.trans (hb.mono B1.out.size)
      have OV2 : Hid (OwnV w6 w.heap.size (.slice A 4 cap) exV) := OV1.out.below hb (Nat.le_refl _)
      have OS2 : Hid (OwnS w6 W1.heap.size u2 exTB) := OS1.out.below hb (Nat.le_refl _)
      have OL2 : Hid (Own w6 W1.heap.size vl [0, 1, 2]) := OL1.out.below hb (Nat.le_refl _)
      have OA2 : Hid (Own w6 W1.heap.size va [1, 0]) := ho.low B1.out.size
      clear ho hb
      have t0 : w6.cell? ⟨gt, 0, none⟩ = some (.int .i64 2) := blk_cell K2.out 0 rfl
      have t1 : w6.cell? ⟨gt, 1, none⟩ = some (.slice A 4 cap) := blk_cell K2.out 1 rfl
      have hc := vinputs_any 2 A cap exV 3 w6 T2.out
      rw [ex_in3, HL4.out] at hc
      have HC := Lib.hid hc
      clear hc
      go_wp2_with fail
      refine HC.out.mono ?_
      rintro e w7 ⟨vb, rfl, ho, hb⟩
      clear HC t0 t1
      have T3 : Hid (TArg w7 A cap exV) := T2.out.keep hb
      have K3 : Hid (w7.heap[gt]? = some (.cells #[.int .i64 2, .slice A 4 cap] 24 (0, 0))) := (hb.block gt (blk_lt K2.out)).trans K2.out
      have B3 : Hid (Below W1.heap.size W1 w7) := B2.out.trans (hb.mono B2.out.size)
      have OV3 : Hid (OwnV w7 w.heap.size (.slice A 4 cap) exV) := OV2.out.below hb (Nat.le_refl _)
      have OS3 : Hid (OwnS w7 W1.heap.size u2 exTB) := OS2.out.below hb (Nat.le_refl _)
      have OL3 : Hid (Own w7 W1.heap.size vl [0, 1, 2]) := OL2.out.below hb (Nat.le_refl _)
      have OA3 : Hid (Own w7 W1.heap.size va [1, 0]) := OA2.out.below hb (Nat.le_refl _)
      have OB3 : Hid (Own w7 W1.heap.size vb [-1, 0]) := ho.low B2.out.size
      clear ho hb
      have t0 : w7.cell? ⟨gt, 0, none⟩ = some (.int .i64 2) := blk_cell K3.out 0 rfl
      have t1 : w7.cell? ⟨gt, 1, none⟩ = some (.slice A 4 cap) := blk_cell K3.out 1 rfl
      have hc := vcont_any 2 A cap exV 0 2 w7 T3.out
      rw [ex_c02, HL4.out] at hc
      have HC := Lib.hid hc
      clear hc
      go_wp2_with fail
      refine HC.out.mono ?_
      rintro e w8 ⟨rfl, hb⟩
      clear HC t0 t1
      have T4 : Hid (TArg w8 A cap exV) := T3.out.keep hb
      have K4 : Hid (w8.heap[gt]? = some (.cells #[.int .i64 2, .slice A 4 cap] 24 (0, 0))) := (hb.block gt (blk_lt K3.out)).trans K3.out
      have B4 : Hid (Below W1.heap.size W1 w8) := B3.out.trans (hb.mono B3.out.size)
      have OV4 : Hid (OwnV w8 w.heap.size (.slice A 4 cap) exV) := OV3.out.below hb (Nat.le_refl _)
      have OS4 : Hid (OwnS w8 W1.heap.size u2 exTB) := OS3.out.below hb (Nat.le_refl _)
      have OL4 : Hid (Own w8 W1.heap.size vl [0, 1, 2]) := OL3.out.below hb (Nat.le_refl _)
      have OA4 : Hid (Own w8 W1.heap.size va [1, 0]) := OA3.out.below hb (Nat.le_refl _)
      have OB4 : Hid (Own w8 W1.heap.size vb [-1, 0]) := OB3.out.below hb (Nat.le_refl _)
      clear hb
      have t0 : w8.cell? ⟨gt, 0, none⟩ = some (.int .i64 2) := blk_cell K4.out 0 rfl
      have t1 : w8.cell? ⟨gt, 1, none⟩ = some (.slice A 4 cap) := blk_cell K4.out 1 rfl
      have hc := vcont_any 2 A cap exV 1 2 w8 T4.out
      rw [ex_c12, HL4.out] at hc
      have HC := Lib.hid hc
      clear hc
      go_wp2_with fail
      refine HC.out.mono ?_
      rintro e w9 ⟨rfl, hb⟩
      clear HC t0 t1
      have T5 : Hid (TArg w9 A cap exV) := T4.out.keep hb
      have K5 : Hid (w9.heap[gt]? = some (.cells #[.int .i64 2, .slice A 4 cap] 24 (0, 0))) := (hb.block gt (blk_lt K4.out)).trans K4.out
      have B5 : Hid (Below W1.heap.size W1 w9) := B4.out.trans (hb.mono B4.out.size)
      have OV5 : Hid (OwnV w9 w.heap.size (.slice A 4 cap) exV) := OV4.out.below hb (Nat.le_refl _)
      have OS5 : Hid (OwnS w9 W1.heap.size u2 exTB) := OS4.out.below hb (Nat.le_refl _)
      have OL5 : Hid (Own w9 W1.heap.size vl [0, 1, 2]) := OL4.out.below hb (Nat.le_refl _)
      have OA5 : Hid (Own w9 W1.heap.size va [1, 0]) := OA4.out.below hb (Nat.le_refl _)
      have OB5 : Hid (Own w9 W1.heap.size vb [-1, 0]) := OB4.out.below hb (Nat.le_refl _)
      clear hb
      have t0 : w9.cell? ⟨gt, 0, none⟩ = some (.int .i64 2) := blk_cell K5.out 0 rfl
      have t1 : w9.cell? ⟨gt, 1, none⟩ = some (.slice A 4 cap) := blk_cell K5.out 1 rfl
      go_upto_region 14 with fail
      go_cut [16, 17, 18] (fun s16 s17 s18 wx => AddCut 2 exU 4 0 w9 s16 s17 s18 wx)
      case first =>
        have hgt9 : gt < w9.heap.size := blk_lt K5.out
        go_region_held3 (fun w' => w'.cell? ⟨gt, 0, none⟩ = some (.int .i64 2) ∧ w'.cell? ⟨gt, 1, none⟩ = some (.slice A 4 cap))
          (first | exact ⟨t0, t1⟩ | exact ⟨y0, y1⟩ | exact ⟨x0, x1⟩ | exact ⟨set_far2 (by omega) x0, set_far2 (by omega) x1⟩ | (go_split_ands; refine ⟨?_, ?_⟩ <;> (first | assumption | exact Lib.cell?_alloc_some _ (by assumption) | exact Lib.cell?_alloc_some _ (Lib.cell?_alloc_some _ (by assumption)))) | go_keep)
          ((first
          | (go_at_call 38; refine (lheard2b (2) (3) _ _ (by first | exact blk_new _ _ | exact blk_old (blk_new _ _) _ | (have h := blk_new (w9.alloc (.cells #[.int .i64 0, .slice none 0 0] 24)) (.cells #[.int .i64 2, .int .i64 3] 3); rwa [World.size_alloc] at h))).mono ?_; rintro e w10 ⟨rfl, hb10⟩; have B10 : Below w9.heap.size w9 w10 := below_push hb10 (by repeat (first | exact Below.refl _ _ | refine Below.drew ?_ | refine belN ?_ _ | refine Below.alloc ?_ (by simp) _)) (Nat.le_refl _); have y0 := (B10.cell (p := ⟨gt, 0, none⟩) hgt9).trans t0; have y1 := (B10.cell (p := ⟨gt, 1, none⟩) hgt9).trans t1; have hgt10 : gt < w10.heap.size := Nat.lt_of_lt_of_le hgt9 B10.size; first | (have Z0 : w10.heap[w9.heap.size]? = some (.cells #[.int .i64 0, .slice none 0 0] 24 (0, 0)) := (hb10.block _ (by first | (simp; done) | (simp; omega))).trans (blk_old (blk_new w9 _) _); have q0Z0 : w10.cell? ⟨w9.heap.size, 0, none⟩ = some (.int .i64 0) := blk_cell Z0 0 rfl; have q1Z0 : w10.cell? ⟨w9.heap.size, 1, none⟩ = some (.slice none 0 0) := blk_cell Z0 1 rfl; have q2Z0 := blk_froz Z0 0; have q3Z0 := blk_froz Z0 1) | (have Z1 : w10.heap[w9.heap.size + 1]? = some (.cells #[.int .i64 0, .slice none 0 0] 24 (0, 0)) := (hb10.block _ (by first | (simp; done) | (simp; omega))).trans (by have h := blk_new (w9.alloc (.cells #[.int .i64 2, .int .i64 3] 3)) (.cells #[.int .i64 0, .slice none 0 0] 24); rwa [World.size_alloc] at h); have q0Z1 : w10.cell? ⟨w9.heap.size + 1, 0, none⟩ = some (.int .i64 0) := blk_cell Z1 0 rfl; have q1Z1 : w10.cell? ⟨w9.heap.size + 1, 1, none⟩ = some (.slice none 0 0) := blk_cell Z1 1 rfl; have q2Z1 := blk_froz Z1 0; have q3Z1 := blk_froz Z1 1) | skip)
          | (go_at_call 13; refine (add_exA A cap _ (by first | exact T5.out.keep B10 | exact T5.out.keep B10.drew | exact (T5.out.keep B10).keep (bel1 w10 _) | exact (T5.out.keep B10).keep (bel1 w10 _).drew)).mono ?_; rintro e w11 ⟨A5, cap5, rfl, hT11, hb11⟩; have x0 := (Below.cell (p := ⟨gt, 0, none⟩) (below_push hb11 (by repeat (first | exact Below.refl _ _ | refine Below.drew ?_ | refine belN ?_ _ | refine Below.alloc ?_ (by simp) _)) (Nat.le_refl w10.heap.size)) hgt10).trans y0; have x1 := (Below.cell (p := ⟨gt, 1, none⟩) (below_push hb11 (by repeat (first | exact Below.refl _ _ | refine Below.drew ?_ | refine belN ?_ _ | refine Below.alloc ?_ (by simp) _)) (Nat.le_refl w10.heap.size)) hgt10).trans y1; have B11 : Below w9.heap.size w9 w11 := B10.trans (Below.mono (below_push hb11 (by repeat (first | exact Below.refl _ _ | refine Below.drew ?_ | refine belN ?_ _ | refine Below.alloc ?_ (by simp) _)) (Nat.le_refl w10.heap.size)) B10.size); first | (have Y2 : w11.heap[w10.heap.size]? = some (.cells #[.int .i64 0, .slice none 0 0] 24 (0, 0)) := (hb11.block _ (by first | (simp; done) | (simp; omega))).trans (blk_new w10 _); have q0Y2 : w11.cell? ⟨w10.heap.size, 0, none⟩ = some (.int .i64 0) := blk_cell Y2 0 rfl; have q1Y2 : w11.cell? ⟨w10.heap.size, 1, none⟩ = some (.slice none 0 0) := blk_cell Y2 1 rfl; have q2Y2 := blk_froz Y2 0; have q3Y2 := blk_froz Y2 1) | (have Y1 : w11.heap[w9.heap.size + 1]? = some (.cells #[.int .i64 0, .slice none 0 0] 24 (0, 0)) := (hb11.block _ (by have h := blk_lt Z1; first | exact h | (simp; omega))).trans Z1; have q0Y1 : w11.cell? ⟨w9.heap.size + 1, 0, none⟩ = some (.int .i64 0) := blk_cell Y1 0 rfl; have q1Y1 : w11.cell? ⟨w9.heap.size + 1, 1, none⟩ = some (.slice none 0 0) := blk_cell Y1 1 rfl; have q2Y1 := blk_froz Y1 0; have q3Y1 := blk_froz Y1 1) | (have Y0 : w11.heap[w9.heap.size]? = some (.cells #[.int .i64 0, .slice none 0 0] 24 (0, 0)) := (hb11.block _ (by have h := blk_lt Z0; first | exact h | (simp; omega))).trans Z0; have q0Y0 : w11.cell? ⟨w9.heap.size, 0, none⟩ = some (.int .i64 0) := blk_cell Y0 0 rfl; have q1Y0 : w11.cell? ⟨w9.heap.size, 1, none⟩ = some (.slice none 0 0) := blk_cell Y0 1 rfl; have q2Y0 := blk_froz Y0 0; have q3Y0 := blk_froz Y0 1) | skip)))
        all_goals
          go_wp2_with fail
          go_meet
          first
            | exact addcut_of rfl rfl hT11 (B11.alloc B11.size _) (bel1 _ _)
            | exact addcut_set rfl rfl hT11 B11 (Nat.le_refl _) Y0
            | exact addcut_set rfl rfl hT11 B11 (by omega) Y1
            | exact addcut_set rfl rfl hT11 B11 B10.size Y2
      case rest =>
        obtain ⟨g16, A5, cap5, rfl, rfl, rfl, k16, hT16, hb16⟩ := hcut
        obtain ⟨w12, hw12⟩ : ∃ w12, wc = w12 := ⟨_, rfl⟩
        rw [hw12] at k16 hT16 hb16 ⊢
        clear t0 t1 hw12
        have T6 : Hid (TArg w12 A cap exV) := T5.out.keep hb16
        have K6 : Hid (w12.heap[gt]? = some (.cells #[.int .i64 2, .slice A 4 cap] 24 (0, 0))) := (hb16.block gt (blk_lt K5.out)).trans K5.out
        have B6 : Hid (Below W1.heap.size W1 w12) := B5.out.trans (hb16.mono B5.out.size)
        have OS6 : Hid (OwnS w12 W1.heap.size u2 exTB) := OS5.out.below hb16 (Nat.le_refl _)
        have OL6 : Hid (Own w12 W1.heap.size vl [0, 1, 2]) := OL5.out.below hb16 (Nat.le_refl _)
        have OA6 : Hid (Own w12 W1.heap.size va [1, 0]) := OA5.out.below hb16 (Nat.le_refl _)
        have OB6 : Hid (Own w12 W1.heap.size vb [-1, 0]) := OB5.out.below hb16 (Nat.le_refl _)
        have OV6 : Hid (OwnV w12 w.heap.size (.slice A 4 cap) exV) := OV5.out.below hb16 (Nat.le_refl _)
        have t0 : w12.cell? ⟨g16, 0, none⟩ = some (.int .i64 2) := blk_cell k16 0 rfl
        have t1 : w12.cell? ⟨g16, 1, none⟩ = some (.slice A5 5 cap5) := blk_cell k16 1 rfl
        have htx := text_exU A5 cap5 w12 hT16
        have HTX := Lib.hid htx
        clear k16 hT16 hb16 htx
        go_wp2_with fail
        refine HTX.out.mono ?_
        rintro e w13 ⟨rfl, hb⟩
        clear HTX t0 t1
        have T7 : Hid (TArg w13 A cap exV) := T6.out.keep hb
        have K7 : Hid (w13.heap[gt]? = some (.cells #[.int .i64 2, .slice A 4 cap] 24 (0, 0))) := (hb.block gt (blk_lt K6.out)).trans K6.out
        have B7 : Hid (Below W1.heap.size W1 w13) := B6.out.trans (hb.mono B6.out.size)
        have OS7 : Hid (OwnS w13 W1.heap.size u2 exTB) := OS6.out.below hb (Nat.le_refl _)
        have OL7 : Hid (Own w13 W1.heap.size vl [0, 1, 2]) := OL6.out.below hb (Nat.le_refl _)
        have OA7 : Hid (Own w13 W1.heap.size va [1, 0]) := OA6.out.below hb (Nat.le_refl _)
        have OB7 : Hid (Own w13 W1.heap.size vb [-1, 0]) := OB6.out.below hb (Nat.le_refl _)
        have OV7 : Hid (OwnV w13 w.heap.size (.slice A 4 cap) exV) := OV6.out.below hb (Nat.le_refl _)
        clear hb
        obtain ⟨bs, cs, hus, lbs, hcs⟩ := OS7.out.cells (by decide)
        have hl4 : exTB.length = 4 := rfl
        rw [hl4] at hus hcs
        obtain rfl := hus
        have hne := str_ne
        go_upto_region 16 with fail
        go_wp2_with (go_at_call 39; refine (eq_texts bs cs w13 hcs).mono ?_; rintro e w14 ⟨rfl, hb⟩)
        have T8 : Hid (TArg w14 A cap exV) := T7.out.keep hb
        have K8 : Hid (w14.heap[gt]? = some (.cells #[.int .i64 2, .slice A 4 cap] 24 (0, 0))) := (hb.block gt (blk_lt K7.out)).trans K7.out
        have B8 : Hid (Below W1.heap.size W1 w14) := B7.out.trans (hb.mono B7.out.size)
        have OL8 : Hid (Own w14 W1.heap.size vl [0, 1, 2]) := OL7.out.below hb (Nat.le_refl _)
        have OA8 : Hid (Own w14 W1.heap.size va [1, 0]) := OA7.out.below hb (Nat.le_refl _)
        have OB8 : Hid (Own w14 W1.heap.size vb [-1, 0]) := OB7.out.below hb (Nat.le_refl _)
        have OV8 : Hid (OwnV w14 w.heap.size (.slice A 4 cap) exV) := OV7.out.below hb (Nat.le_refl _)
        have t0 : w14.cell? ⟨gt, 0, none⟩ = some (.int .i64 2) := blk_cell K8.out 0 rfl
        have t1 : w14.cell? ⟨gt, 1, none⟩ = some (.slice A 4 cap) := blk_cell K8.out 1 rfl
        clear hb hcs hne lbs
        go_upto_region 18 with fail
        go_cut [21, 22, 23] (fun s21 s22 s23 wx => AddCut 0 [] 0 20 w14 s21 s22 s23 wx)
        case first =>
          have hgt9 : gt < w14.heap.size := blk_lt K8.out
          go_region_held3 (fun w' => w'.cell? ⟨gt, 0, none⟩ = some (.int .i64 2) ∧ w'.cell? ⟨gt, 1, none⟩ = some (.slice A 4 cap))
            (first | exact ⟨t0, t1⟩ | exact ⟨y0, y1⟩ | exact ⟨x0, x1⟩ | exact ⟨set_far2 (by omega) x0, set_far2 (by omega) x1⟩ | (go_split_ands; refine ⟨?_, ?_⟩ <;> (first | assumption | exact Lib.cell?_alloc_some _ (by assumption) | exact Lib.cell?_alloc_some _ (Lib.cell?_alloc_some _ (by assumption)))) | go_keep)
            ((first
            | (go_at_call 38; refine (lheard1b (0) _ _ (by first | exact blk_new _ _ | exact blk_old (blk_new _ _) _ | (have h := blk_new (w14.alloc (.cells #[.int .i64 0, .slice none 0 0] 24)) (.cells #[.int .i64 0] 3); rwa [World.size_alloc] at h))).mono ?_; rintro e w10 ⟨rfl, hb10⟩; have B10 : Below w14.heap.size w14 w10 := below_push hb10 (by repeat (first | exact Below.refl _ _ | refine Below.drew ?_ | refine belN ?_ _ | refine Below.alloc ?_ (by simp) _)) (Nat.le_refl _); have y0 := (B10.cell (p := ⟨gt, 0, none⟩) hgt9).trans t0; have y1 := (B10.cell (p := ⟨gt, 1, none⟩) hgt9).trans t1; have hgt10 : gt < w10.heap.size := Nat.lt_of_lt_of_le hgt9 B10.size; first | (have Z0 : w10.heap[w14.heap.size]? = some (.cells #[.int .i64 0, .slice none 0 0] 24 (0, 0)) := (hb10.block _ (by first | (simp; done) | (simp; omega))).trans (blk_old (blk_new w14 _) _); have q0Z0 : w10.cell? ⟨w14.heap.size, 0, none⟩ = some (.int .i64 0) := blk_cell Z0 0 rfl; have q1Z0 : w10.cell? ⟨w14.heap.size, 1, none⟩ = some (.slice none 0 0) := blk_cell Z0 1 rfl; have q2Z0 := blk_froz Z0 0; have q3Z0 := blk_froz Z0 1) | (have Z1 : w10.heap[w14.heap.size + 1]? = some (.cells #[.int .i64 0, .slice none 0 0] 24 (0, 0)) := (hb10.block _ (by first | (simp; done) | (simp; omega))).trans (by have h := blk_new (w14.alloc (.cells #[.int .i64 0] 3)) (.cells #[.int .i64 0, .slice none 0 0] 24); rwa [World.size_alloc] at h); have q0Z1 : w10.cell? ⟨w14.heap.size + 1, 0, none⟩ = some (.int .i64 0) := blk_cell Z1 0 rfl; have q1Z1 : w10.cell? ⟨w14.heap.size + 1, 1, none⟩ = some (.slice none 0 0) := blk_cell Z1 1 rfl; have q2Z1 := blk_froz Z1 0; have q3Z1 := blk_froz Z1 1) | skip)
            | (go_at_call 13; refine (add_exG A cap _ (by first | exact T8.out.keep B10 | exact T8.out.keep B10.drew | exact (T8.out.keep B10).keep (bel1 w10 _) | exact (T8.out.keep B10).keep (bel1 w10 _).drew)).mono ?_; rintro e w11 ⟨A5, cap5, rfl, hT11, hb11⟩; have x0 := (Below.cell (p := ⟨gt, 0, none⟩) (below_push hb11 (by repeat (first | exact Below.refl _ _ | refine Below.drew ?_ | refine belN ?_ _ | refine Below.alloc ?_ (by simp) _)) (Nat.le_refl w10.heap.size)) hgt10).trans y0; have x1 := (Below.cell (p := ⟨gt, 1, none⟩) (below_push hb11 (by repeat (first | exact Below.refl _ _ | refine Below.drew ?_ | refine belN ?_ _ | refine Below.alloc ?_ (by simp) _)) (Nat.le_refl w10.heap.size)) hgt10).trans y1; have B11 : Below w14.heap.size w14 w11 := B10.trans (Below.mono (below_push hb11 (by repeat (first | exact Below.refl _ _ | refine Below.drew ?_ | refine belN ?_ _ | refine Below.alloc ?_ (by simp) _)) (Nat.le_refl w10.heap.size)) B10.size); first | (have Y2 : w11.heap[w10.heap.size]? = some (.cells #[.int .i64 0, .slice none 0 0] 24 (0, 0)) := (hb11.block _ (by first | (simp; done) | (simp; omega))).trans (blk_new w10 _); have q0Y2 : w11.cell? ⟨w10.heap.size, 0, none⟩ = some (.int .i64 0) := blk_cell Y2 0 rfl; have q1Y2 : w11.cell? ⟨w10.heap.size, 1, none⟩ = some (.slice none 0 0) := blk_cell Y2 1 rfl; have q2Y2 := blk_froz Y2 0; have q3Y2 := blk_froz Y2 1) | (have Y1 : w11.heap[w14.heap.size + 1]? = some (.cells #[.int .i64 0, .slice none 0 0] 24 (0, 0)) := (hb11.block _ (by have h := blk_lt Z1; first | exact h | (simp; omega))).trans Z1; have q0Y1 : w11.cell? ⟨w14.heap.size + 1, 0, none⟩ = some (.int .i64 0) := blk_cell Y1 0 rfl; have q1Y1 : w11.cell? ⟨w14.heap.size + 1, 1, none⟩ = some (.slice none 0 0) := blk_cell Y1 1 rfl; have q2Y1 := blk_froz Y1 0; have q3Y1 := blk_froz Y1 1) | (have Y0 : w11.heap[w14.heap.size]? = some (.cells #[.int .i64 0, .slice none 0 0] 24 (0, 0)) := (hb11.block _ (by have h := blk_lt Z0; first | exact h | (simp; omega))).trans Z0; have q0Y0 : w11.cell? ⟨w14.heap.size, 0, none⟩ = some (.int .i64 0) := blk_cell Y0 0 rfl; have q1Y0 : w11.cell? ⟨w14.heap.size, 1, none⟩ = some (.slice none 0 0) := blk_cell Y0 1 rfl; have q2Y0 := blk_froz Y0 0; have q3Y0 := blk_froz Y0 1) | skip)))
          all_goals
            go_wp2_with fail
            go_meet
            first
              | exact addcut_of rfl rfl hT11 (B11.alloc B11.size _) (bel1 _ _)
              | exact addcut_set rfl rfl hT11 B11 (Nat.le_refl _) Y0
              | exact addcut_set rfl rfl hT11 B11 (by omega) Y1
              | exact addcut_set rfl rfl hT11 B11 B10.size Y2
        case rest =>
          obtain ⟨g21, A7, cap7, rfl, rfl, rfl, k21, hT21, hb21⟩ := hcut
          obtain ⟨w15, hw15⟩ : ∃ w15, wc = w15 := ⟨_, rfl⟩
          rw [hw15] at hb21 ⊢
          clear t0 t1 hw15 k21 hT21
          have T9 : Hid (TArg w15 A cap exV) := T8.out.keep hb21
          have K9 : Hid (w15.heap[gt]? = some (.cells #[.int .i64 2, .slice A 4 cap] 24 (0, 0))) := (hb21.block gt (blk_lt K8.out)).trans K8.out
          have B9 : Hid (Below W1.heap.size W1 w15) := B8.out.trans (hb21.mono B8.out.size)
          have OL9 : Hid (Own w15 W1.heap.size vl [0, 1, 2]) := OL8.out.below hb21 (Nat.le_refl _)
          have OA9 : Hid (Own w15 W1.heap.size va [1, 0]) := OA8.out.below hb21 (Nat.le_refl _)
          have OB9 : Hid (Own w15 W1.heap.size vb [-1, 0]) := OB8.out.below hb21 (Nat.le_refl _)
          have OV9 : Hid (OwnV w15 w.heap.size (.slice A 4 cap) exV) := OV8.out.below hb21 (Nat.le_refl _)
          clear hb21
          obtain ⟨gA, rfl⟩ := own_form4 OV9.out
          have t1 : w15.cell? ⟨gt, 1, none⟩ = some (.slice (some ⟨gA, 0, none⟩) 4 cap) := blk_cell K9.out 1 rfl
          have hgtA := own_not OV9.out K9.out
          have hgt9 : gt < w15.heap.size := blk_lt K9.out
          have hbw15 : w.heap.size ≤ w15.heap.size := Nat.le_trans BW1.out.size B9.out.size
          go_upto_region 19 with fail
          go_cut [24] (fun s24 wx => TabCut w w15 s24 wx)
          case first =>
            rename_i hMet
            have hownA := OV9.out
            have hA1 : w.heap.size ≤ gA := (hownA.lt gA rfl).1
            have hA2 : gA < w15.heap.size := (hownA.lt gA rfl).2
            have hgtne : some gt ≠ some gA := fun e => hgtA e.symm
            have HOA := Lib.hid hownA
            clear hownA
            refine wp_region_dag (by kernel_rfl) (val19 gt gA cap) (J19 w15 w.heap.size gA cap) (by kernel_rfl) ⟨0, 0, 0, 0, 0⟩ (J19.start HOA.out _) ?_ ?_
            · refine ⟨?_, ?_, ?_, ?_, ?_, ?_, ?_, ?_, ?_, ?_, ?_, ?_, trivial⟩
              · intro l g W a hJ hli hdep hagr
                have e1 : (a.tmps[1]?).getD undef = .pointer (some ⟨gt, 0, none⟩) := hagr.oldD 1 rfl
                clear hagr hdep
                refine step_pos rfl fun K hK => ?_
                go_simp
                exact hK g _ _ rfl (fun _ _ => rfl) (hJ.idle (i := 0) (by decide) (fun e => absurd e (by decide)))
              · intro l g W a hJ hli hdep hagr
                have l0 := hdep ⟨0, .data⟩ (by simp) rfl
                have e119 := hagr.newD 0 119 rfl l0 (by show 119 < 166; decide)
                simp only [val19] at e119
                clear hagr hdep
                refine step_pos rfl fun K hK => ?_
                have c1 := grown_cell hJ.grow t1 (fun e => hgtne e.symm)
                go_simp
                exact hK g _ _ rfl (fun _ _ => rfl) (hJ.idle (i := 1) (by decide) (fun e => absurd e (by decide)))
              · intro l g W a hJ hli hdep hagr
                clear hagr hdep
                refine step_pos rfl fun K hK => ?_
                go_simp
                refine (lheard0 _).mono ?_
                rintro e w' ⟨rfl, hb⟩
                exact hK g _ _ rfl (fun _ _ => rfl) ((hJ.idle (i := 2) (by decide) (fun e => absurd e (by decide))).below hb)
              · intro l g W a hJ hli hdep hagr
                have l2 := hdep ⟨2, .data⟩ (by simp) rfl
                have e121 := hagr.newD 2 121 rfl l2 (by show 121 < 166; decide)
                simp only [val19] at e121
                clear hagr hdep
                refine step_pos rfl fun K hK => ?_
                go_simp
                exact hK g _ _ rfl (fun _ _ => rfl) (hJ.idle (i := 3) (by decide) (fun e => absurd e (by decide)))
              · intro l g W a hJ hli hdep hagr
                clear hagr hdep
                refine step_pos rfl fun K hK => ?_
                go_simp
                exact hK { g with gS := W.heap.size } _ _ rfl (val19_S _ hli) (hJ.pairs hli)
              · intro l g W a hJ hli hdep hagr
                have l4 := hdep ⟨4, .data⟩ (by simp) rfl
                have l2 := hdep ⟨2, .chain⟩ (by simp) rfl
                have e123 := hagr.newD 4 123 rfl l4 (by show 123 < 166; decide)
                simp only [val19] at e123
                clear hagr hdep
                refine step_pos rfl fun K hK => ?_
                have p1 := hJ.pair l4
                go_simp
                refine (lheard2b 4 1 _ _ p1).mono ?_
                rintro e w' ⟨rfl, hb⟩
                exact hK g _ _ rfl (fun _ _ => rfl) ((hJ.idle (i := 5) (by decide) (fun e => absurd e (by decide))).below hb)
              · intro l g W a hJ hli hdep hagr
                have l5 := hdep ⟨5, .data⟩ (by simp) rfl
                have e124 := hagr.newD 5 124 rfl l5 (by show 124 < 166; decide)
                simp only [val19] at e124
                clear hagr hdep
                refine step_pos rfl fun K hK => ?_
                go_simp
                exact hK g _ _ rfl (fun _ _ => rfl) (hJ.idle (i := 6) (by decide) (fun e => absurd e (by decide)))
              · intro l g W a hJ hli hdep hagr
                have l3 := hdep ⟨3, .data⟩ (by simp) rfl
                have l6 := hdep ⟨6, .data⟩ (by simp) rfl
                have e122 := hagr.newD 3 122 rfl l3 (by show 122 < 166; decide)
                have e125 := hagr.newD 6 125 rfl l6 (by show 125 < 166; decide)
                simp only [val19] at e122 e125
                clear hagr hdep
                refine step_pos rfl fun K hK => ?_
                go_simp
                exact hK { g with gV := W.heap.size } _ _ rfl (val19_V _ hli) (hJ.twos hli)
              · intro l g W a hJ hli hdep hagr
                have l1 := hdep ⟨1, .data⟩ (by simp) rfl
                have l7 := hdep ⟨7, .data⟩ (by simp) rfl
                have e120 := hagr.new 1 120 rfl l1 (by show 120 < 166; decide)
                have e126 := hagr.new 7 126 rfl l7 (by show 126 < 166; decide)
                simp only [val19] at e120 e126
                clear hagr hdep
                refine step_pos rfl fun K hK => ?_
                have o8 := hJ.old hli
                have v8 := hJ.two l7 hli
                refine wp_of_step (ops := #[]) rfl ?_
                with_reducible refine step_appvs ?_ (.tmp 120) (.tmp 126) ?_ w.heap.size (.slice (some ⟨gA, 0, none⟩) 4 cap) exV us19 ?_ ?_ ?_ ?_ ?_ ?_ ?_
                · rfl
                · rfl
                · exact e120
                · exact o8
                · decide
                · decide
                · exact ⟨g.gV, e126, v8⟩
                · exact Nat.le_trans hbw15 hJ.grow.size
                intro g' cap' w1 hown' hgrow hT
                exact hK { g with gC := g', cC := cap' } _ _ rfl (val19_C _ _ hli hJ.nine) (hJ.app hli hown' hgrow hT)
              · intro l g W a hJ hli hdep hagr
                have l8 := hdep ⟨8, .data⟩ (by simp) rfl
                have e127 := hagr.newD 8 127 rfl l8 (by show 127 < 166; decide)
                simp only [val19] at e127
                clear hagr hdep
                refine step_pos rfl fun K hK => ?_
                go_simp
                exact hK g _ _ rfl (fun _ _ => rfl) (hJ.idle (i := 9) (by decide) (fun _ => l8))
              · intro l g W a hJ hli hdep hagr
                clear hagr hdep
                refine step_pos rfl fun K hK => ?_
                go_simp
                exact hK { g with gT := W.heap.size } _ _ rfl (val19_T _ hli) (hJ.boxes hli)
              · intro l g W a hJ hli hdep hagr
                have l10 := hdep ⟨10, .data⟩ (by simp) rfl
                have l9 := hdep ⟨9, .data⟩ (by simp) rfl
                have e24 := hagr.newD 10 24 rfl l10 (by show 24 < 166; decide)
                have e128 := hagr.newD 9 128 rfl l9 (by show 128 < 166; decide)
                simp only [val19] at e24 e128
                clear hagr hdep
                refine step_pos rfl fun K hK => ?_
                have b11 := hJ.box l10
                rw [hli] at b11
                have c0 := blk_cell b11 0 rfl
                have c1 := blk_cell b11 1 rfl
                have f0 := blk_froz b11 0
                have f1 := blk_froz b11 1
                simp only [cond_false] at c0 c1
                go_simp
                exact hK g _ _ rfl (fun _ _ => rfl) (hJ.put l10 hli l9)
            · intro l g W hall hJ
              have hcut := hJ.cut hall (w0 := w) (BW1.out.trans (B9.out.mono BW1.out.size)) hA1 HOA.out
              rw [doneOn_putsL (D := [some 119, some 120, some 121, some 122, some 123, some 124, some 125, some 126, some 127, some 128, some 24, none]) rfl]
              simp only [putsL_cons, putsL_nil, val19]
              have HC := Lib.hid hcut
              clear hcut hall hJ
              go_simp
              refine hMet _ _ ?_
              go_meet
              exact HC.out
          case rest =>
            obtain ⟨g24, A6, cap6, rfl, k24, hT24, hb24, hsz24, how24⟩ := hcut
            obtain ⟨w16, hw16⟩ : ∃ w16, wc = w16 := ⟨_, rfl⟩
            rw [hw16] at k24 hT24 hb24 hsz24 how24 ⊢
            clear t1 hw16
            have K10 := Lib.hid k24
            have T10 := Lib.hid hT24
            have B10a := Lib.hid hb24
            have OL10 : Hid (Own w16 W1.heap.size vl [0, 1, 2]) := how24 _ _ _ OL9.out
            have OA10 : Hid (Own w16 W1.heap.size va [1, 0]) := how24 _ _ _ OA9.out
            have OB10 : Hid (Own w16 W1.heap.size vb [-1, 0]) := how24 _ _ _ OB9.out
            have t0 : w16.cell? ⟨g24, 0, none⟩ = some (.int .i64 2) := blk_cell k24 0 rfl
            have t1 : w16.cell? ⟨g24, 1, none⟩ = some (.slice A6 6 cap6) := blk_cell k24 1 rfl
            clear k24 hT24 hb24 hsz24 how24 hgtA hgt9 hbw15
            go_upto_region 20 with fail
            go_cut [25, 26, 27] (fun s25 s26 s27 wx => AddCut 0 [] 0 22 w16 s25 s26 s27 wx)
            case first =>
              have hgt9 : g24 < w16.heap.size := blk_lt K10.out
              go_region_held3 (fun w' => w'.cell? ⟨g24, 0, none⟩ = some (.int .i64 2) ∧ w'.cell? ⟨g24, 1, none⟩ = some (.slice A6 6 cap6))
                (first | exact ⟨t0, t1⟩ | exact ⟨y0, y1⟩ | exact ⟨x0, x1⟩ | exact ⟨set_far2 (by omega) x0, set_far2 (by omega) x1⟩ | (go_split_ands; refine ⟨?_, ?_⟩ <;> (first | assumption | exact Lib.cell?_alloc_some _ (by assumption) | exact Lib.cell?_alloc_some _ (Lib.cell?_alloc_some _ (by assumption)))) | go_keep)
                ((first
                | (go_at_call 38; refine (lheard2b (2) (5) _ _ (by first | exact blk_new _ _ | exact blk_old (blk_new _ _) _ | (have h := blk_new (w16.alloc (.cells #[.int .i64 0, .slice none 0 0] 24)) (.cells #[.int .i64 2, .int .i64 5] 3); rwa [World.size_alloc] at h))).mono ?_; rintro e w10 ⟨rfl, hb10⟩; have B10 : Below w16.heap.size w16 w10 := below_push hb10 (by repeat (first | exact Below.refl _ _ | refine Below.drew ?_ | refine belN ?_ _ | refine Below.alloc ?_ (by simp) _)) (Nat.le_refl _); have y0 := (B10.cell (p := ⟨g24, 0, none⟩) hgt9).trans t0; have y1 := (B10.cell (p := ⟨g24, 1, none⟩) hgt9).trans t1; have hgt10 : g24 < w10.heap.size := Nat.lt_of_lt_of_le hgt9 B10.size; first | (have Z0 : w10.heap[w16.heap.size]? = some (.cells #[.int .i64 0, .slice none 0 0] 24 (0, 0)) := (hb10.block _ (by first | (simp; done) | (simp; omega))).trans (blk_old (blk_new w16 _) _); have q0Z0 : w10.cell? ⟨w16.heap.size, 0, none⟩ = some (.int .i64 0) := blk_cell Z0 0 rfl; have q1Z0 : w10.cell? ⟨w16.heap.size, 1, none⟩ = some (.slice none 0 0) := blk_cell Z0 1 rfl; have q2Z0 := blk_froz Z0 0; have q3Z0 := blk_froz Z0 1) | (have Z1 : w10.heap[w16.heap.size + 1]? = some (.cells #[.int .i64 0, .slice none 0 0] 24 (0, 0)) := (hb10.block _ (by first | (simp; done) | (simp; omega))).trans (by have h := blk_new (w16.alloc (.cells #[.int .i64 2, .int .i64 5] 3)) (.cells #[.int .i64 0, .slice none 0 0] 24); rwa [World.size_alloc] at h); have q0Z1 : w10.cell? ⟨w16.heap.size + 1, 0, none⟩ = some (.int .i64 0) := blk_cell Z1 0 rfl; have q1Z1 : w10.cell? ⟨w16.heap.size + 1, 1, none⟩ = some (.slice none 0 0) := blk_cell Z1 1 rfl; have q2Z1 := blk_froz Z1 0; have q3Z1 := blk_froz Z1 1) | skip)
                | (go_at_call 13; refine (add_exB A6 cap6 _ (by first | exact T10.out.keep B10 | exact T10.out.keep B10.drew | exact (T10.out.keep B10).keep (bel1 w10 _) | exact (T10.out.keep B10).keep (bel1 w10 _).drew)).mono ?_; rintro e w11 ⟨A5, cap5, rfl, hT11, hb11⟩; have x0 := (Below.cell (p := ⟨g24, 0, none⟩) (below_push hb11 (by repeat (first | exact Below.refl _ _ | refine Below.drew ?_ | refine belN ?_ _ | refine Below.alloc ?_ (by simp) _)) (Nat.le_refl w10.heap.size)) hgt10).trans y0; have x1 := (Below.cell (p := ⟨g24, 1, none⟩) (below_push hb11 (by repeat (first | exact Below.refl _ _ | refine Below.drew ?_ | refine belN ?_ _ | refine Below.alloc ?_ (by simp) _)) (Nat.le_refl w10.heap.size)) hgt10).trans y1; have B11 : Below w16.heap.size w16 w11 := B10.trans (Below.mono (below_push hb11 (by repeat (first | exact Below.refl _ _ | refine Below.drew ?_ | refine belN ?_ _ | refine Below.alloc ?_ (by simp) _)) (Nat.le_refl w10.heap.size)) B10.size); first | (have Y2 : w11.heap[w10.heap.size]? = some (.cells #[.int .i64 0, .slice none 0 0] 24 (0, 0)) := (hb11.block _ (by first | (simp; done) | (simp; omega))).trans (blk_new w10 _); have q0Y2 : w11.cell? ⟨w10.heap.size, 0, none⟩ = some (.int .i64 0) := blk_cell Y2 0 rfl; have q1Y2 : w11.cell? ⟨w10.heap.size, 1, none⟩ = some (.slice none 0 0) := blk_cell Y2 1 rfl; have q2Y2 := blk_froz Y2 0; have q3Y2 := blk_froz Y2 1) | (have Y1 : w11.heap[w16.heap.size + 1]? = some (.cells #[.int .i64 0, .slice none 0 0] 24 (0, 0)) := (hb11.block _ (by have h := blk_lt Z1; first | exact h | (simp; omega))).trans Z1; have q0Y1 : w11.cell? ⟨w16.heap.size + 1, 0, none⟩ = some (.int .i64 0) := blk_cell Y1 0 rfl; have q1Y1 : w11.cell? ⟨w16.heap.size + 1, 1, none⟩ = some (.slice none 0 0) := blk_cell Y1 1 rfl; have q2Y1 := blk_froz Y1 0; have q3Y1 := blk_froz Y1 1) | (have Y0 : w11.heap[w16.heap.size]? = some (.cells #[.int .i64 0, .slice none 0 0] 24 (0, 0)) := (hb11.block _ (by have h := blk_lt Z0; first | exact h | (simp; omega))).trans Z0; have q0Y0 : w11.cell? ⟨w16.heap.size, 0, none⟩ = some (.int .i64 0) := blk_cell Y0 0 rfl; have q1Y0 : w11.cell? ⟨w16.heap.size, 1, none⟩ = some (.slice none 0 0) := blk_cell Y0 1 rfl; have q2Y0 := blk_froz Y0 0; have q3Y0 := blk_froz Y0 1) | skip)))
              all_goals
                go_wp2_with fail
                go_meet
                first
                  | exact addcut_of rfl rfl hT11 (B11.alloc B11.size _) (bel1 _ _)
                  | exact addcut_set rfl rfl hT11 B11 (Nat.le_refl _) Y0
                  | exact addcut_set rfl rfl hT11 B11 (by omega) Y1
                  | exact addcut_set rfl rfl hT11 B11 B10.size Y2
            case rest =>
              obtain ⟨g25, A8, cap8, rfl, rfl, rfl, k25, hT25, hb25⟩ := hcut
              obtain ⟨w17, hw17⟩ : ∃ w17, wc = w17 := ⟨_, rfl⟩
              rw [hw17] at hb25 ⊢
              clear t0 t1 hw17 k25 hT25
              have B11a : Hid (Below w.heap.size w w17) := B10a.out.trans (hb25.mono B10a.out.size)
              have OL11 : Hid (Own w17 W1.heap.size vl [0, 1, 2]) := OL10.out.below hb25 (Nat.le_refl _)
              have OA11 : Hid (Own w17 W1.heap.size va [1, 0]) := OA10.out.below hb25 (Nat.le_refl _)
              have OB11 : Hid (Own w17 W1.heap.size vb [-1, 0]) := OB10.out.below hb25 (Nat.le_refl _)
              clear hb25
              go_wp2_with fail
              refine (eq_ints3 0 1 2 w17 OL11.out).mono ?_
              rintro e w18 ⟨rfl, hb⟩
              have B12a : Hid (Below w.heap.size w w18) := B11a.out.trans (hb.mono B11a.out.size)
              have OA12 : Hid (Own w18 W1.heap.size va [1, 0]) := OA11.out.below hb (Nat.le_refl _)
              have OB12 : Hid (Own w18 W1.heap.size vb [-1, 0]) := OB11.out.below hb (Nat.le_refl _)
              clear hb
              go_wp2_with fail
              refine (eq_ints2 1 0 w18 OA12.out).mono ?_
              rintro e w19 ⟨rfl, hb⟩
              have B13a : Hid (Below w.heap.size w w19) := B12a.out.trans (hb.mono B12a.out.size)
              have OB13 : Hid (Own w19 W1.heap.size vb [-1, 0]) := OB12.out.below hb (Nat.le_refl _)
              clear hb
              go_wp2_with fail
              refine (eq_ints2 (-1) 0 w19 OB13.out).mono ?_
              rintro e w20 ⟨rfl, hb⟩
              have B14a : Hid (Below w.heap.size w w20) := B13a.out.trans (hb.mono B13a.out.size)
              clear hb
              go_wp2_with fail
              go_ret
              exact ⟨rfl, B14a.out⟩
end Go.Proofs.YtdfnmapmnmecnaaDoor
