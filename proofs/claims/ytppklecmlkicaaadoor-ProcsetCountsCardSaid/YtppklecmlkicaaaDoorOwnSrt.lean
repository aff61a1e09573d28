/- slices.Sort at a slice of integers of the call's own; append of a slice of integers to such a one. -/
import Derived.Test.YtppklecmlkicaaaDoorProg
import Derived.Test.YtppklecmlkicaaaDoorOwnRev
namespace Go.Proofs.YtppklecmlkicaaaDoor
open Go.RowKit

theorem sort_own {w : World} {base : Nat} {v : Value} {xs : List Int} (h : Own w base v xs) (hne : 0 < xs.length) (hl : xs.length ≤ 1000000) :
    Calls Tryd.prog 35 #[v] w fun e w' => e = .returned (.tuple #[]) ∧ Own w' base v (xs.mergeSort fun x y => decide (x ≤ y)) ∧ w.grownBy w' v.ownBlock := by
  obtain ⟨g, cap, cur, rfl, hb, hg, h1, h2, h3, h4⟩ := own_partsR h hne
  refine (Tryd.slices_Sort_int g 0 cap xs w (holds_of_blockI hg h4) (blk_lt hg) (by omega)).mono ?_
  rintro e w' ⟨rfl, n, os, rfl⟩
  refine ⟨rfl, ?_, grownBy_sortedI _⟩
  have := ownsRow_sortedI (w := w) (base := base) (n := n) (os := os) (ss := xs) (ts := xs.mergeSort fun x y => decide (x ≤ y)) (List.length_mergeSort _) hb hg h1 h2 h3
  unfold Own
  rw [List.length_mergeSort]
  exact this

theorem wpList_appn {ops : Array Oper} {rest : List Oper} {o : Oper} {a : Act} {Q : Exit → Act → World → Prop} {W : World} (hgd : o.guard = none) (s x : Operand)
    (hop : o.op = .call { callee := .builtin .append, args := #[s, x], argTypes := #[22, 22] }) (base : Nat) (v : Value) (xs us : List Int) (hs : a.eval s = v) (hown : Own W base v xs)
    (A : Option Addr) (cap : Nat) (hx : a.eval x = .slice A us.length cap) (hA : IAt W W.heap.size A us) (hu : 0 < us.length) (hlen : xs.length + us.length ≤ 1000000) (hb : base ≤ W.heap.size)
    (h : ∀ v' w1, Own w1 base v' (xs ++ us) → W.grownBy w1 v.ownBlock → Below base W w1 → wpList Tryd.prog ops Q rest (a.put o.dst v') w1) :
    wpList Tryd.prog ops Q (o :: rest) a W := by
  obtain ⟨i0, hi, hz0, hz1, hz2⟩ := info_parts info_int
  obtain ⟨b, off, rfl, hbW, hc⟩ := hA hu
  refine wpList_append_own _ hgd s x 22 hop base 3 i0 (.int .i64 0) 1 8 Tryd.underlying22 hi hz0 hz1 hz2 rfl (by decide) v xs.length _ hs hown ⟨b, off, none⟩ us.length cap (us.map (Value.int .i64)) hx (by simp)
    (fun j u hj => ?_) (by simp [Value.oneCell']) (by unfold maxLen; omega) (by omega) hb ?_
  · have hj' : j < us.length := by
      have := (List.getElem?_eq_some_iff.1 hj).1
      simpa using this
    have e : u = .int .i64 us[j] := by simpa [hj'] using hj.symm
    subst e
    have hadd : (⟨b, off, none⟩ : Addr).add j = ⟨b, off + j, none⟩ := by unfold Addr.add; split <;> simp_all
    rw [hadd]
    exact hc j hj'
  · intro v' w1 hown1 hgrow _
    refine h v' w1 ?_ hgrow ((Below.refl base W).grown hgrow hb fun k hk => (hown.lt k hk).1)
    unfold Own
    rw [List.length_append, List.map_append]
    exact hown1
end Go.Proofs.YtppklecmlkicaaaDoor
