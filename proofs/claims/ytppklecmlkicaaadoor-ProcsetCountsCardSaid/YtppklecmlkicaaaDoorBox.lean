/- A boxed slice of integers that grows inside ranges over functions; no function of the program in sight. -/
import Derived.Test.YtppklecmlkicaaaDoorProg
import Derived.Test.YtppklecmlkicaaaDoorApp
namespace Go.Proofs.YtppklecmlkicaaaDoor
open Go.RowKit Go.Shelf

structure Non (B : Nat) (w W : World) : Prop where
  below : Below B w W
  same : ∀ (k : Nat) (o : Obj), w.heap[k]? = some o → o.isCells = false → W.heap[k]? = some o
theorem Non.refl (B : Nat) (w : World) : Non B w w := ⟨Below.refl _ _, fun _ _ h _ => h⟩
theorem Non.trans {B : Nat} {w W X : World} (h : Non B w W) (k : Non B W X) : Non B w X := ⟨h.below.trans k.below, fun i o hi ho => k.same i o (h.same i o hi ho) ho⟩
theorem Non.of_grown {B : Nat} {w W : World} {row : Option Nat} (hg : w.grownBy W row) (hB : B ≤ w.heap.size) (hr : ∀ r, row = some r → B ≤ r ∧ ∀ o, w.heap[r]? = some o → o.isCells = true) : Non B w W :=
  ⟨(Below.refl B w).grown hg hB fun k hk => (hr k hk).1, fun k o hk ho => (hg.block k (Array.getElem?_eq_some_iff.1 hk).1 (fun e => by have := (hr k e.symm).2 o hk; rw [ho] at this; cases this)).trans hk⟩
theorem Non.turn {B : Nat} {w W X : World} {row : Option Nat} (h : Non B w W) (hg : W.grownBy X row) (hB : B ≤ w.heap.size) (hr : ∀ r, row = some r → w.heap.size ≤ r) : Non B w X :=
  ⟨h.below.grown hg (by have := h.below.size; omega) (fun k hk => by have := hr k hk; omega), fun k o hk ho => (hg.block k (Array.getElem?_eq_some_iff.1 (h.same k o hk ho)).1 (fun e => by have := hr k e.symm; have := (Array.getElem?_eq_some_iff.1 hk).1; omega)).trans (h.same k o hk ho)⟩
theorem Non.marks {B B' : Nat} {w W : World} {ds : List Deferred} (h : Marks B' ds w) (hn : Non B w W) : Marks B' ds W := by
  obtain ⟨rs, rfl, hd, hk⟩ := h
  exact ⟨rs, rfl, hd, fun r hr => ⟨(hk r hr).1, hn.same r _ (hk r hr).2 rfl⟩⟩
/-- A slice of integers may be clad: what the blocks of cells below B and the row of xs keep. -/
theorem own_type {w : World} {base : Nat} {v : Value} {xs : List Int} (h : Own w base v xs) {k : Nat} {cs : Array Value} {t : TypeId} (hk : w.heap[k]? = some (.cells cs t (0, 0))) (ht : t ≠ 3) : v.ownBlock ≠ some k := by
  intro e
  rcases h.2 with ⟨rfl, _⟩ | ⟨g, cap, cur, rfl, _, hg, _⟩
  · cases e
  · simp only [Value.ownBlock, Option.some.injEq] at e
    subst e
    rw [hk] at hg
    cases hg
    exact ht rfl
theorem own_cells {w : World} {base : Nat} {v : Value} {xs : List Int} (h : Own w base v xs) : ∀ r, v.ownBlock = some r → base ≤ r ∧ ∀ o, w.heap[r]? = some o → o.isCells = true := by
  intro r hr
  refine ⟨(h.lt r hr).1, fun o ho => ?_⟩
  rcases h.2 with ⟨rfl, _⟩ | ⟨g, cap, cur, rfl, _, hg, _⟩
  · cases hr
  · simp only [Value.ownBlock, Option.some.injEq] at hr
    subst hr
    rw [hg] at ho
    cases ho
    rfl

theorem set_box {w : World} {g : Nat} {v : Value} {t : TypeId} (h : w.heap[g]? = some (.cells #[v] t (0, 0))) (v' : Value) :
    (w.setCell ⟨g, 0, none⟩ v').heap[g]? = some (.cells #[v'] t (0, 0)) ∧ (w.setCell ⟨g, 0, none⟩ v').heap.size = w.heap.size ∧ ∀ k, k ≠ g → (w.setCell ⟨g, 0, none⟩ v').heap[k]? = w.heap[k]? := by
  have hg := (Array.getElem?_eq_some_iff.1 h).1
  refine ⟨?_, by simp [World.setCell], fun k hk => Below.heap_setCell w ⟨g, 0, none⟩ v' k hk⟩
  have hgg := (Array.getElem?_eq_some_iff.1 h).2
  rw [World.setCell, Array.getElem?_modify, if_pos rfl, h]
  rfl
theorem grown_set {w : World} {g : Nat} {v : Value} {t : TypeId} (_h : w.heap[g]? = some (.cells #[v] t (0, 0))) (v' : Value) : w.grownBy (w.setCell ⟨g, 0, none⟩ v') (some g) :=
  ⟨rfl, rfl, rfl, by simp [World.setCell], fun k _ hk => Below.heap_setCell w ⟨g, 0, none⟩ v' k (fun e => hk (by rw [e]))⟩
theorem Marks.keep {B : Nat} {w W : World} {ds : List Deferred} (h : Marks B ds w) (hk : ∀ k : Nat, w.heap[k]? = some (Obj.deferred (some [])) → W.heap[k]? = some (Obj.deferred (some []))) : Marks B ds W := by
  obtain ⟨rs, rfl, hd, hr⟩ := h
  exact ⟨rs, rfl, hd, fun r h => ⟨(hr r h).1, hk r (hr r h).2⟩⟩
/-- Inside a range over a function: box g holds the slice of integers xs of the call's own; what else lay when the range began lies. -/
structure BoxIn (B g : Nat) (xs : List Int) (w2 W : World) : Prop where
  box : ∃ P c, W.heap[g]? = some (.cells #[.slice P xs.length c] 22 (0, 0)) ∧ Own W B (.slice P xs.length c) xs
  non : Non B w2 W
  rest : ∀ (k : Nat) (cs : Array Value) (t : TypeId), w2.heap[k]? = some (.cells cs t (0, 0)) → t ≠ 3 → k ≠ g → W.heap[k]? = some (.cells cs t (0, 0))

theorem BoxIn.start {B g : Nat} {xs : List Int} {w2 : World} {P : Option Addr} {c : Nat} (hb : w2.heap[g]? = some (.cells #[.slice P xs.length c] 22 (0, 0))) (ho : Own w2 B (.slice P xs.length c) xs) : BoxIn B g xs w2 w2 :=
  ⟨⟨P, c, hb, ho⟩, Non.refl _ _, fun _ _ _ h _ _ => h⟩
theorem BoxIn.turn {B g : Nat} {xs : List Int} {w2 W W' : World} {row : Option Nat} (h : BoxIn B g xs w2 W) (hB : B ≤ w2.heap.size) (hg : W.grownBy W' row) (hr : ∀ r, row = some r → w2.heap.size ≤ r ∧ ∃ o : Obj, W.heap[r]? = some o ∧ o.isCells = false) : BoxIn B g xs w2 W' := by
  obtain ⟨⟨P, c, hb, ho⟩, hn, hrest⟩ := h
  refine ⟨⟨P, c, (grownBy_keeps_cells hg (fun r e => (hr r e).2) hb rfl).trans hb, ho.kept hg ?_⟩, hn.turn hg hB fun r e => (hr r e).1, fun k cs t hk ht hkg => (grownBy_keeps_cells hg (fun r e => (hr r e).2) (hrest k cs t hk ht hkg) rfl).trans (hrest k cs t hk ht hkg)⟩
  by_cases e : (Value.slice P xs.length c).ownBlock = none
  · exact .inl e
  · obtain ⟨r, e⟩ := Option.ne_none_iff_exists'.1 e
    right
    rw [e]
    intro e2
    obtain ⟨o, ho1, ho2⟩ := (hr r e2.symm).2
    have := (own_cells ho r e).2 o ho1
    rw [this] at ho2; cases ho2
theorem BoxIn.own {B g : Nat} (xs0 : List Int) {β : Type} {xs : List β} (f : β → Int) {w2 : World} (hB : B ≤ w2.heap.size) : OwnFrom w2.heap.size (fun (pre : List { x : β // x ∈ xs }) W => BoxIn B g (xs0 ++ pre.map fun x => f x.1) w2 W) :=
  fun _ _ _ _ h hg hr => h.turn hB hg hr
/-- An element more: appended, and the box written. -/
theorem BoxIn.push {B g : Nat} {xs : List Int} {w2 W w1 : World} {P : Option Addr} {c : Nat} {v' : Value} {u : Int} {K : Nat → Prop} (h : BoxIn B g xs w2 W) (hB : B ≤ g) (hK : ∀ k, K k → k < B) (hb : W.heap[g]? = some (.cells #[.slice P xs.length c] 22 (0, 0)))
    (ho : Own W B (.slice P xs.length c) xs) (ho1 : Own w1 B v' (xs ++ [u])) (hg : W.grownBy w1 (Value.slice P xs.length c).ownBlock) :
    KeepsFrom w2.heap.size W (w1.setCell ⟨g, 0, none⟩ v') ∧ KeepB K W (w1.setCell ⟨g, 0, none⟩ v') ∧ BoxIn B g (xs ++ [u]) w2 (w1.setCell ⟨g, 0, none⟩ v') := by
  have hBW : B ≤ W.heap.size := by have := (Array.getElem?_eq_some_iff.1 hb).1; omega
  have hw1b : w1.heap[g]? = some (.cells #[.slice P xs.length c] 22 (0, 0)) := (hg.block g (Array.getElem?_eq_some_iff.1 hb).1 (fun e => own_type ho hb (by decide) e.symm)).trans hb
  obtain ⟨x6, xs', xo⟩ := set_box hw1b v'
  have hgX := grown_set hw1b v'
  have n1 : Non B W w1 := Non.of_grown hg hBW (own_cells ho)
  have n2 : Non B w1 (w1.setCell ⟨g, 0, none⟩ v') := Non.of_grown hgX (by have := hg.size; omega) (fun r e => by cases e; exact ⟨hB, fun o ho => by rw [hw1b] at ho; cases ho; rfl⟩)
  have n3 := n1.trans n2
  have rest : ∀ (k : Nat) (cs : Array Value) (t : TypeId), w2.heap[k]? = some (.cells cs t (0, 0)) → t ≠ 3 → k ≠ g → (w1.setCell ⟨g, 0, none⟩ v').heap[k]? = some (.cells cs t (0, 0)) := fun k cs t hk ht hkg => by
    have h1 := h.rest k cs t hk ht hkg
    rw [xo k hkg]
    exact (hg.block k (Array.getElem?_eq_some_iff.1 h1).1 (fun e => own_type ho h1 ht e.symm)).trans h1
  refine ⟨⟨n3.below.size, fun k o _ hk ho => n3.same k o hk ho⟩, KeepB.of_below n3.below hK, ?_, h.non.trans n3, rest⟩
  have ho2 := ho1.kept hgX (.inr (own_type ho1 hw1b (by decide)))
  obtain ⟨A2, c2, rfl, h1, h2, _⟩ := ho2.form
  exact ⟨A2, c2, x6, ho2⟩
end Go.Proofs.YtppklecmlkicaaaDoor
