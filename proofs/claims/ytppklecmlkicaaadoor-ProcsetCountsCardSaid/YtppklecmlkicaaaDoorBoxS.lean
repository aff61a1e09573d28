/- A boxed slice of strings that grows inside ranges over functions; an append at a step of a region that draws its order, inside a fence. The definitions are XApp's and XBox's, turned from integers to strings by a program (wip/procset/boxs.py). -/
import Derived.Test.YtppklecmlkicaaaDoorProg
import Derived.Test.YtppklecmlkicaaaDoorBox
import Derived.Stop.RegionWithIn
namespace Go.Proofs.YtppklecmlkicaaaDoor
open Go.RowKit Go.Shelf

/-- The slice v owns the integers xs, in blocks from base on. -/
def OwnS (w : World) (base : Nat) (v : Value) (xs : List ByteArray) : Prop := w.ownsRow base 9 1 v xs.length (xs.map Value.string)

theorem OwnS.nil (w : World) (base : Nat) : OwnS w base (.slice none 0 0) [] := World.ownsRow_nil w base _ 1
theorem OwnS.drewN {w : World} {base : Nat} {v : Value} {xs : List ByteArray} (h : OwnS w base v xs) (n : Nat) : OwnS (w.drewN n) base v xs := h
theorem OwnS.drew {w : World} {base : Nat} {v : Value} {xs : List ByteArray} (h : OwnS w base v xs) : OwnS w.drew base v xs := h
theorem OwnS.kept {w w' : World} {base : Nat} {v : Value} {xs : List ByteArray} {row : Option Nat} (h : OwnS w base v xs) (hg : w.grownBy w' row) (hne : v.ownBlock = none ∨ v.ownBlock ≠ row) : OwnS w' base v xs := World.ownsRow.kept h hg hne
theorem OwnS.alloc {w : World} {base : Nat} {v : Value} {xs : List ByteArray} (h : OwnS w base v xs) (o : Obj) : OwnS (w.alloc o) base v xs := World.ownsRow.alloc h o
theorem OwnS.below {w w' : World} {base B : Nat} {v : Value} {xs : List ByteArray} (h : OwnS w base v xs) (hb : Below B w w') (hB : w.heap.size ≤ B) : OwnS w' base v xs :=
  World.ownsRow.kept (row := none) h ⟨hb.os, hb.tape, hb.output, hb.size, fun k hk _ => hb.block k (by omega)⟩ (by cases v.ownBlock <;> simp)
theorem OwnS.shut {w w' : World} {base B : Nat} {v : Value} {xs : List ByteArray} (h : OwnS w base v xs) (hs : Shut B w w') : OwnS w' base v xs := hs.own h
theorem OwnS.form {w : World} {base : Nat} {v : Value} {xs : List ByteArray} (h : OwnS w base v xs) : ∃ A cap, v = .slice A xs.length cap ∧ xs.length ≤ cap ∧ cap ≤ maxLen := by
  rcases h.2 with ⟨rfl, h0⟩ | ⟨g, cap, cur, rfl, _, _, hle, hcm, _⟩
  · have : xs = [] := List.eq_nil_of_length_eq_zero h0
    subst this
    exact ⟨none, 0, rfl, Nat.le_refl _, Nat.zero_le _⟩
  · exact ⟨_, _, rfl, hle, hcm⟩
theorem OwnS.low {w : World} {base base' : Nat} {v : Value} {xs : List ByteArray} (h : OwnS w base v xs) (hb : base' ≤ base) : OwnS w base' v xs := by
  refine ⟨h.1, ?_⟩
  rcases h.2 with h2 | ⟨g, cap, cur, hv, hg, r⟩
  · exact Or.inl h2
  · exact Or.inr ⟨g, cap, cur, hv, by omega, r⟩
theorem OwnS.lt {w : World} {base : Nat} {v : Value} {xs : List ByteArray} (h : OwnS w base v xs) : ∀ k, v.ownBlock = some k → base ≤ k ∧ k < w.heap.size := World.ownsRow.lt h

/-- A slice of integers may be clad: what the blocks of cells below B and the row of xs keep. -/
theorem ownS_type {w : World} {base : Nat} {v : Value} {xs : List ByteArray} (h : OwnS w base v xs) {k : Nat} {cs : Array Value} {t : TypeId} (hk : w.heap[k]? = some (.cells cs t (0, 0))) (ht : t ≠ 9) : v.ownBlock ≠ some k := by
  intro e
  rcases h.2 with ⟨rfl, _⟩ | ⟨g, cap, cur, rfl, _, hg, _⟩
  · cases e
  · simp only [Value.ownBlock, Option.some.injEq] at e
    subst e
    rw [hk] at hg
    cases hg
    exact ht rfl
theorem ownS_cells {w : World} {base : Nat} {v : Value} {xs : List ByteArray} (h : OwnS w base v xs) : ∀ r, v.ownBlock = some r → base ≤ r ∧ ∀ o, w.heap[r]? = some o → o.isCells = true := by
  intro r hr
  refine ⟨(h.lt r hr).1, fun o ho => ?_⟩
  rcases h.2 with ⟨rfl, _⟩ | ⟨g, cap, cur, rfl, _, hg, _⟩
  · cases hr
  · simp only [Value.ownBlock, Option.some.injEq] at hr
    subst hr
    rw [hg] at ho
    cases ho
    rfl

/-- Inside a range over a function: box g holds the slice of integers xs of the call's own; what else lay when the range began lies. -/
structure BoxInS (B g : Nat) (xs : List ByteArray) (w2 W : World) : Prop where
  box : ∃ P c, W.heap[g]? = some (.cells #[.slice P xs.length c] 54 (0, 0)) ∧ OwnS W B (.slice P xs.length c) xs
  non : Non B w2 W
  rest : ∀ (k : Nat) (cs : Array Value) (t : TypeId), w2.heap[k]? = some (.cells cs t (0, 0)) → t ≠ 9 → k ≠ g → W.heap[k]? = some (.cells cs t (0, 0))

theorem BoxInS.start {B g : Nat} {xs : List ByteArray} {w2 : World} {P : Option Addr} {c : Nat} (hb : w2.heap[g]? = some (.cells #[.slice P xs.length c] 54 (0, 0))) (ho : OwnS w2 B (.slice P xs.length c) xs) : BoxInS B g xs w2 w2 :=
  ⟨⟨P, c, hb, ho⟩, Non.refl _ _, fun _ _ _ h _ _ => h⟩
theorem BoxInS.turn {B g : Nat} {xs : List ByteArray} {w2 W W' : World} {row : Option Nat} (h : BoxInS B g xs w2 W) (hB : B ≤ w2.heap.size) (hg : W.grownBy W' row) (hr : ∀ r, row = some r → w2.heap.size ≤ r ∧ ∃ o : Obj, W.heap[r]? = some o ∧ o.isCells = false) : BoxInS B g xs w2 W' := by
  obtain ⟨⟨P, c, hb, ho⟩, hn, hrest⟩ := h
  refine ⟨⟨P, c, (grownBy_keeps_cells hg (fun r e => (hr r e).2) hb rfl).trans hb, ho.kept hg ?_⟩, hn.turn hg hB fun r e => (hr r e).1, fun k cs t hk ht hkg => (grownBy_keeps_cells hg (fun r e => (hr r e).2) (hrest k cs t hk ht hkg) rfl).trans (hrest k cs t hk ht hkg)⟩
  by_cases e : (Value.slice P xs.length c).ownBlock = none
  · exact .inl e
  · obtain ⟨r, e⟩ := Option.ne_none_iff_exists'.1 e
    right
    rw [e]
    intro e2
    obtain ⟨o, ho1, ho2⟩ := (hr r e2.symm).2
    have := (ownS_cells ho r e).2 o ho1
    rw [this] at ho2; cases ho2
theorem BoxInS.own {B g : Nat} (xs0 : List ByteArray) {β : Type} {xs : List β} (f : β → ByteArray) {w2 : World} (hB : B ≤ w2.heap.size) : OwnFrom w2.heap.size (fun (pre : List { x : β // x ∈ xs }) W => BoxInS B g (xs0 ++ pre.map fun x => f x.1) w2 W) :=
  fun _ _ _ _ h hg hr => h.turn hB hg hr
/-- An element more: appended, and the box written. -/
theorem BoxInS.push {B g : Nat} {xs : List ByteArray} {w2 W w1 : World} {P : Option Addr} {c : Nat} {v' : Value} {u : ByteArray} {K : Nat → Prop} (h : BoxInS B g xs w2 W) (hB : B ≤ g) (hK : ∀ k, K k → k < B) (hb : W.heap[g]? = some (.cells #[.slice P xs.length c] 54 (0, 0)))
    (ho : OwnS W B (.slice P xs.length c) xs) (ho1 : OwnS w1 B v' (xs ++ [u])) (hg : W.grownBy w1 (Value.slice P xs.length c).ownBlock) :
    KeepsFrom w2.heap.size W (w1.setCell ⟨g, 0, none⟩ v') ∧ KeepB K W (w1.setCell ⟨g, 0, none⟩ v') ∧ BoxInS B g (xs ++ [u]) w2 (w1.setCell ⟨g, 0, none⟩ v') := by
  have hBW : B ≤ W.heap.size := by have := (Array.getElem?_eq_some_iff.1 hb).1; omega
  have hw1b : w1.heap[g]? = some (.cells #[.slice P xs.length c] 54 (0, 0)) := (hg.block g (Array.getElem?_eq_some_iff.1 hb).1 (fun e => ownS_type ho hb (by decide) e.symm)).trans hb
  obtain ⟨x6, xs', xo⟩ := set_box hw1b v'
  have hgX := grown_set hw1b v'
  have n1 : Non B W w1 := Non.of_grown hg hBW (ownS_cells ho)
  have n2 : Non B w1 (w1.setCell ⟨g, 0, none⟩ v') := Non.of_grown hgX (by have := hg.size; omega) (fun r e => by cases e; exact ⟨hB, fun o ho => by rw [hw1b] at ho; cases ho; rfl⟩)
  have n3 := n1.trans n2
  have rest : ∀ (k : Nat) (cs : Array Value) (t : TypeId), w2.heap[k]? = some (.cells cs t (0, 0)) → t ≠ 9 → k ≠ g → (w1.setCell ⟨g, 0, none⟩ v').heap[k]? = some (.cells cs t (0, 0)) := fun k cs t hk ht hkg => by
    have h1 := h.rest k cs t hk ht hkg
    rw [xo k hkg]
    exact (hg.block k (Array.getElem?_eq_some_iff.1 h1).1 (fun e => ownS_type ho h1 ht e.symm)).trans h1
  refine ⟨⟨n3.below.size, fun k o _ hk ho => n3.same k o hk ho⟩, KeepB.of_below n3.below hK, ?_, h.non.trans n3, rest⟩
  have ho2 := ho1.kept hgX (.inr (ownS_type ho1 hw1b (by decide)))
  obtain ⟨A2, c2, rfl, h1, h2⟩ := ho2.form
  exact ⟨A2, c2, x6, ho2⟩

theorem info_str : (Tryd.prog.info? 9).map (fun i => (i.zero, i.size, i.bytes)) = some (some (.string ⟨#[]⟩), 1, 16) := by kernel_rfl

theorem OwnS.cells {w : World} {base : Nat} {v : Value} {xs : List ByteArray} (h : OwnS w base v xs) (h0 : xs ≠ []) : ∃ g cap, v = .slice (some ⟨g, 0, none⟩) xs.length cap ∧ xs.length ≤ cap ∧ g < w.heap.size ∧ ∀ (j : Nat) x, xs[j]? = some x → w.cell? ⟨g, 0 + j, none⟩ = some (.string x) := by
  rcases id h.2 with ⟨rfl, h1⟩ | ⟨g, cap, cur, rfl, hb, hg, hle, hcm, hcs, hcur⟩
  · exact absurd (List.eq_nil_of_length_eq_zero h1) h0
  · refine ⟨g, cap, rfl, hle, blk_lt hg, fun j x hx => ?_⟩
    have hj : j < xs.length := (List.getElem?_eq_some_iff.1 hx).1
    rw [Nat.zero_add]
    refine blk_cell hg j ?_
    have h2 := congrArg (fun l => l[j]?) hcur
    simp only [List.getElem?_take, Nat.mul_one, hj, if_true, List.getElem?_map, hx, Option.map_some] at h2
    simpa using h2

theorem stepIn_app1s {F : Fence} {n : Nat} {ops : Array Oper} {o : Oper} {a : Act} {K : Act → World → Prop} {Q : Exit → Act → World → Prop} {E : Prop} {W : World} (hgd : o.guard = none) (s x : Operand)
    (hop : o.op = .call { callee := .builtin .append, args := #[s, x], argTypes := #[54, 54] }) (base : Nat) (v : Value) (xs : List ByteArray) (u : ByteArray) (hs : a.eval s = v) (hown : OwnS W base v xs) (b : Nat)
    (hx : a.eval x = .slice (some ⟨b, 0, none⟩) 1 1) (hc : W.cell? ⟨b, 0, none⟩ = some (.string u)) (hlen : xs.length < 4398046511104) (hb : base ≤ W.heap.size)
    (h : ∀ v' w1, OwnS w1 base v' (xs ++ [u]) → W.grownBy w1 v.ownBlock → Below base W w1 → K (a.put o.dst v') w1) :
    if Region.wanted o (yielded ops a.tmps) = true then Oper.wpIn F n Tryd.prog o a W K Q else E := by
  have hw : Region.wanted o (yielded ops a.tmps) = true := by simp [Region.wanted, hgd]
  rw [if_pos hw]
  obtain ⟨i0, hi, hz0, hz1, hz2⟩ := info_parts info_str
  obtain ⟨v', w', hrun, r1, r2, r3⟩ := run_append_own (P := Tryd.prog) W base 54 o.type 9 i0 (.string ⟨#[]⟩) 1 16 Tryd.underlying54 hi hz0 hz1 hz2 rfl (by decide) v xs.length _ hown ⟨b, 0, none⟩ 1 1 [.string u] rfl
    (fun j y hj => by
      cases j with
      | zero => simp at hj; subst hj; exact hc
      | succ j => simp at hj) (by simp [Value.oneCell']) (by unfold maxLen; omega) (by omega) hb
  have hk := h v' w' (by unfold OwnS; rw [List.length_append, List.map_append]; exact r1) r2 ((Below.refl base W).grown r2 hb fun k hk => (hown.lt k hk).1)
  unfold Oper.wpIn
  refine ⟨?_, ?_⟩
  · simp [Oper.about, hop, resolve, Target.leads, Sem.run_pure]
  · rw [Oper.semAt_plain F _ _ (by rw [hop]; intro c hc'; cases hc')]
    simp [execOp, hop, resolve, invoke, builtin, hs, hx, hrun, Result.andThen]
    exact hk
end Go.Proofs.YtppklecmlkicaaaDoor
