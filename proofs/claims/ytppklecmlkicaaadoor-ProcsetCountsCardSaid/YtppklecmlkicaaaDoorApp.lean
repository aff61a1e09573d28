/- Appending integers to a slice of the call's own, in the walk's form, plain and inside a round. -/
import Derived.Test.YtppklecmlkicaaaDoorProg
import Derived.Test.YtppklecmlkicaaaDoorBase
import Derived.Test.YtppklecmlkicaaaDoorIter
import Derived.OwnWalk
import Derived.OwnWalkIn
import Derived.Maps.AppendAt
import Derived.Deep.AppendLies
namespace Go.Proofs.YtppklecmlkicaaaDoor
open Go.RowKit

/-- The slice v owns the integers xs, in blocks from base on. -/
def Own (w : World) (base : Nat) (v : Value) (xs : List Int) : Prop := w.ownsRow base 3 1 v xs.length (xs.map (Value.int .i64))

theorem Own.nil (w : World) (base : Nat) : Own w base (.slice none 0 0) [] := World.ownsRow_nil w base _ 1
theorem Own.drewN {w : World} {base : Nat} {v : Value} {xs : List Int} (h : Own w base v xs) (n : Nat) : Own (w.drewN n) base v xs := h
theorem Own.drew {w : World} {base : Nat} {v : Value} {xs : List Int} (h : Own w base v xs) : Own w.drew base v xs := h
theorem Own.kept {w w' : World} {base : Nat} {v : Value} {xs : List Int} {row : Option Nat} (h : Own w base v xs) (hg : w.grownBy w' row) (hne : v.ownBlock = none ∨ v.ownBlock ≠ row) : Own w' base v xs := World.ownsRow.kept h hg hne
theorem Own.alloc {w : World} {base : Nat} {v : Value} {xs : List Int} (h : Own w base v xs) (o : Obj) : Own (w.alloc o) base v xs := World.ownsRow.alloc h o
theorem Own.below {w w' : World} {base B : Nat} {v : Value} {xs : List Int} (h : Own w base v xs) (hb : Below B w w') (hB : w.heap.size ≤ B) : Own w' base v xs :=
  World.ownsRow.kept (row := none) h ⟨hb.os, hb.tape, hb.output, hb.size, fun k hk _ => hb.block k (by omega)⟩ (by cases v.ownBlock <;> simp)
theorem Own.shut {w w' : World} {base B : Nat} {v : Value} {xs : List Int} (h : Own w base v xs) (hs : Shut B w w') : Own w' base v xs := hs.own h
/-- What an owned slice looks like. -/
theorem Own.form {w : World} {base : Nat} {v : Value} {xs : List Int} (h : Own w base v xs) : ∃ A cap, v = .slice A xs.length cap ∧ xs.length ≤ cap ∧ cap ≤ maxLen ∧ IAt w w.heap.size A xs := by
  rcases h.2 with ⟨rfl, h0⟩ | ⟨g, cap, cur, rfl, _, _, hle, hcm, _⟩
  · have : xs = [] := List.eq_nil_of_length_eq_zero h0
    subst this
    exact ⟨none, 0, rfl, Nat.le_refl _, Nat.zero_le _, IAt.nil _ _ _⟩
  · exact ⟨_, _, rfl, hle, hcm, IAt.of_own h⟩
theorem Own.low {w : World} {base base' : Nat} {v : Value} {xs : List Int} (h : Own w base v xs) (hb : base' ≤ base) : Own w base' v xs := by
  refine ⟨h.1, ?_⟩
  rcases h.2 with h2 | ⟨g, cap, cur, hv, hg, r⟩
  · exact Or.inl h2
  · exact Or.inr ⟨g, cap, cur, hv, by omega, r⟩
theorem Own.lt {w : World} {base : Nat} {v : Value} {xs : List Int} (h : Own w base v xs) : ∀ k, v.ownBlock = some k → base ≤ k ∧ k < w.heap.size := World.ownsRow.lt h

theorem info_int : (Tryd.prog.info? 3).map (fun i => (i.zero, i.size, i.bytes)) = some (some (.int .i64 0), 1, 8) := by kernel_rfl

theorem grown_of_alloc {w w' : World} {o : Obj} {row : Option Nat} (h : (w.alloc o).grownBy w' row) : w.grownBy w' row :=
  ⟨h.os, h.tape, h.output, Nat.le_trans (by simp) h.size, fun k hk hne => (h.block k (by simp; omega) hne).trans (Below.heap_alloc w o k hk)⟩

theorem wpList_app1 {ops : Array Oper} {rest : List Oper} {o : Oper} {a : Act} {Q : Exit → Act → World → Prop} {W : World} (hgd : o.guard = none) (s x : Operand)
    (hop : o.op = .call { callee := .builtin .append, args := #[s, x], argTypes := #[22, 22] }) (base : Nat) (v : Value) (xs : List Int) (u : Int) (hs : a.eval s = v) (hown : Own W base v xs)
    (hx : a.eval x = .slice (some ⟨W.heap.size, 0, none⟩) 1 1) (hlen : xs.length < 8796093022208) (hb : base ≤ W.heap.size)
    (h : ∀ v' w1, Own w1 base v' (xs ++ [u]) → W.grownBy w1 v.ownBlock → Below base W w1 → wpList Tryd.prog ops Q rest (a.put o.dst v') w1) :
    wpList Tryd.prog ops Q (o :: rest) a (W.alloc (.cells #[.int .i64 u] 3)) := by
  obtain ⟨i0, hi, hz0, hz1, hz2⟩ := info_parts info_int
  refine wpList_append_own _ hgd s x 22 hop base 3 i0 (.int .i64 0) 1 8 Tryd.underlying22 hi hz0 hz1 hz2 rfl (by decide) v xs.length _ hs (World.ownsRow.alloc hown _) ⟨W.heap.size, 0, none⟩ 1 1 [.int .i64 u] hx rfl (cell_one_new _ _ _)
    (by simp [Value.oneCell']) (by unfold maxLen; omega) (by omega) (by simp; omega) ?_
  intro v' w1 hown1 hgrow _
  have hg := grown_of_alloc hgrow
  refine h v' w1 ?_ hg ((Below.refl base W).grown hg hb fun k hk => (hown.lt k hk).1)
  unfold Own
  rw [List.length_append, List.map_append]
  exact hown1

/-- The same, at a step of a region that draws its order. -/
theorem step_app1 {ops : Array Oper} {o : Oper} {a : Act} {K : Act → World → Prop} {Q : Exit → Act → World → Prop} {E : Prop} {W : World} (hgd : o.guard = none) (s x : Operand)
    (hop : o.op = .call { callee := .builtin .append, args := #[s, x], argTypes := #[22, 22] }) (base : Nat) (v : Value) (xs : List Int) (u : Int) (hs : a.eval s = v) (hown : Own W base v xs)
    (hx : a.eval x = .slice (some ⟨W.heap.size, 0, none⟩) 1 1) (hlen : xs.length < 8796093022208) (hb : base ≤ W.heap.size)
    (h : ∀ v' w1, Own w1 base v' (xs ++ [u]) → W.grownBy w1 v.ownBlock → Below base W w1 → K (a.put o.dst v') w1) :
    if Region.wanted o (yielded ops a.tmps) = true then Oper.wp Tryd.prog o a ((W.alloc (.cells #[.int .i64 u] 3)).drew) K Q else E := by
  have hw : Region.wanted o (yielded ops a.tmps) = true := by simp [Region.wanted, hgd]
  rw [if_pos hw]
  obtain ⟨i0, hi, hz0, hz1, hz2⟩ := info_parts info_int
  refine wp_append_own _ s x 22 hop base 3 i0 (.int .i64 0) 1 8 Tryd.underlying22 hi hz0 hz1 hz2 rfl (by decide) v xs.length _ hs (show ((W.alloc (.cells #[.int .i64 u] 3)).drew).ownsRow _ _ _ _ _ _ from World.ownsRow.alloc hown _) ⟨W.heap.size, 0, none⟩ 1 1 [.int .i64 u] hx rfl (fun j u hj => cell_one_new _ _ _ j u hj)
    (by simp [Value.oneCell']) (by unfold maxLen; omega) (by omega) (by simp; omega) ?_
  intro v' w1 hown1 hgrow _
  have hgrow' : (W.alloc (.cells #[.int .i64 u] 3)).grownBy w1 v.ownBlock := ⟨hgrow.os, hgrow.tape, hgrow.output, hgrow.size, hgrow.block⟩
  have hg := grown_of_alloc hgrow'
  refine h v' w1 ?_ hg ((Below.refl base W).grown hg hb fun k hk => (hown.lt k hk).1)
  unfold Own
  rw [List.length_append, List.map_append]
  exact hown1

/-- The same, at a step of a region that draws its order. -/
theorem step_app1n {ops : Array Oper} {o : Oper} {a : Act} {K : Act → World → Prop} {Q : Exit → Act → World → Prop} {E : Prop} {W : World} (hgd : o.guard = none) (s x : Operand)
    (hop : o.op = .call { callee := .builtin .append, args := #[s, x], argTypes := #[22, 22] }) (base : Nat) (v : Value) (xs : List Int) (u : Int) (hs : a.eval s = v) (hown : Own W base v xs)
    (hx : a.eval x = .slice (some ⟨W.heap.size, 0, none⟩) 1 1) (hlen : xs.length < 8796093022208) (hb : base ≤ W.heap.size)
    (h : ∀ v' w1, Own w1 base v' (xs ++ [u]) → W.grownBy w1 v.ownBlock → Below base W w1 → K (a.put o.dst v') w1) :
    if Region.wanted o (yielded ops a.tmps) = true then Oper.wp Tryd.prog o a (W.alloc (.cells #[.int .i64 u] 3)) K Q else E := by
  have hw : Region.wanted o (yielded ops a.tmps) = true := by simp [Region.wanted, hgd]
  rw [if_pos hw]
  obtain ⟨i0, hi, hz0, hz1, hz2⟩ := info_parts info_int
  refine wp_append_own _ s x 22 hop base 3 i0 (.int .i64 0) 1 8 Tryd.underlying22 hi hz0 hz1 hz2 rfl (by decide) v xs.length _ hs (World.ownsRow.alloc hown _) ⟨W.heap.size, 0, none⟩ 1 1 [.int .i64 u] hx rfl (cell_one_new _ _ _)
    (by simp [Value.oneCell']) (by unfold maxLen; omega) (by omega) (by simp; omega) ?_
  intro v' w1 hown1 hgrow _
  have hg := grown_of_alloc hgrow
  refine h v' w1 ?_ hg ((Below.refl base W).grown hg hb fun k hk => (hown.lt k hk).1)
  unfold Own
  rw [List.length_append, List.map_append]
  exact hown1

theorem wpListIn_app1 {F : Fence} {n : Nat} {ops : Array Oper} {rest : List Oper} {o : Oper} {a : Act} {Q : Exit → Act → World → Prop} {W : World} (hgd : o.guard = none) (s x : Operand)
    (hop : o.op = .call { callee := .builtin .append, args := #[s, x], argTypes := #[22, 22] }) (base : Nat) (v : Value) (xs : List Int) (u : Int) (hs : a.eval s = v) (hown : Own W base v xs)
    (hx : a.eval x = .slice (some ⟨W.heap.size, 0, none⟩) 1 1) (hlen : xs.length < 8796093022208) (hb : base ≤ W.heap.size)
    (h : ∀ v' w1, Own w1 base v' (xs ++ [u]) → W.grownBy w1 v.ownBlock → Below base W w1 → wpListIn F n Tryd.prog ops Q rest (a.put o.dst v') w1) :
    wpListIn F n Tryd.prog ops Q (o :: rest) a (W.alloc (.cells #[.int .i64 u] 3)) := by
  obtain ⟨i0, hi, hz0, hz1, hz2⟩ := info_parts info_int
  refine wpListIn_append_own _ hgd s x 22 hop base 3 i0 (.int .i64 0) 1 8 Tryd.underlying22 hi hz0 hz1 hz2 rfl (by decide) v xs.length _ hs (World.ownsRow.alloc hown _) ⟨W.heap.size, 0, none⟩ 1 1 [.int .i64 u] hx rfl (cell_one_new _ _ _)
    (by simp [Value.oneCell']) (by unfold maxLen; omega) (by omega) (by simp; omega) ?_
  intro v' w1 hown1 hgrow _
  have hg := grown_of_alloc hgrow
  refine h v' w1 ?_ hg ((Below.refl base W).grown hg hb fun k hk => (hown.lt k hk).1)
  unfold Own
  rw [List.length_append, List.map_append]
  exact hown1

/-- 'xs[1:]', without parting on the capacity. -/
theorem cut_one (A : Option Addr) (n cap : Nat) (hn : n + 1 ≤ cap) (_hm : cap ≤ maxLen) : ∃ A', (∀ X : World, (Instr.slice 22 (.slice A (n + 1) cap) (some (.int .i64 1)) none none).run Tryd.prog X = .ok (.slice A' n (cap - 1)) X) ∧
    ∀ (w : World) (B : Nat) (u : Int) (xs : List Int), xs.length = n → IAt w B A (u :: xs) → IAt w B A' xs := by
  refine ⟨if cap = 1 then A else A.map (·.add 1), fun X => ?_, fun w B u xs hl h h0 => ?_⟩
  · have hu : Tryd.prog.underlying 22 = some (.slice 3) := Tryd.underlying22
    have hs : (sizeOf 3).run Tryd.prog X = .ok 1 X := by kernel_rfl
    simp [Instr.slice, Instr.sliceBounds, run_underlying hu, go_sem]
    exact fun h => absurd h (by omega)
  · obtain ⟨b, off, rfl, hb, hc⟩ := h (by simp)
    have : cap ≠ 1 := by omega
    refine ⟨b, off + 1, by simp [this, Addr.add], hb, fun i hi => ?_⟩
    have := hc (i + 1) (by simp; omega)
    simpa [Nat.add_assoc, Nat.add_comm 1 i] using this

theorem IAt.up {w w' : World} {A : Option Addr} {xs : List Int} (h : IAt w w.heap.size A xs) (hb : Below w.heap.size w w') : IAt w' w'.heap.size A xs := (h.keep hb).more hb.size
theorem IAt.box (w : World) (x : Int) (t : TypeId) : IAt (w.alloc (.cells #[.int .i64 x] t)) (w.alloc (.cells #[.int .i64 x] t)).heap.size (some ⟨w.heap.size, 0, none⟩) [x] := fun _ =>
  ⟨w.heap.size, 0, rfl, by simp, fun i hi => by
    have : i = 0 := by simp at hi; omega
    subst this
    exact blk_cell (blk_new w _) 0 rfl⟩
/-- What a later call leaves, said from the beginning. -/
theorem own_push {w W w2 : World} {v : Value} {xs : List Int} (ho : Own w2 W.heap.size v xs) (hb : Below W.heap.size W w2) (h : Below w.heap.size w W) : Own w2 w.heap.size v xs ∧ Below w.heap.size w w2 :=
  ⟨ho.low h.size, h.trans (hb.mono h.size)⟩

/-- A call that returns a slice of integers of its own. -/
def RetInts (xs : List Int) (w : World) (e : Ending) (w' : World) : Prop := ∃ v, e = .returned v ∧ Own w' w.heap.size v xs ∧ Below w.heap.size w w'
end Go.Proofs.YtppklecmlkicaaaDoor
