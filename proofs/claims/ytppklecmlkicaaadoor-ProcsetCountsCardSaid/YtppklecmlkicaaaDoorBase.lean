/- The plain words for tables of views: a view as eight integers, a table's rows in memory. No program in sight. -/
import Derived.WalkKit
import Derived.WalkSpells
import Derived.WalkLawsBesides
import Derived.Outline
import Derived.Below
import Derived.Laws.OwnMore
import Derived.Lib.Hide
import Derived.Deep.Draws
import Derived.Deep.AppendLies
namespace Go.Proofs.YtppklecmlkicaaaDoor
open Go.RowKit

theorem dec_eq {p q : Prop} [Decidable p] [Decidable q] (h : p ↔ q) : decide p = decide q := by simp [h]
theorem ret_bool {a b : Bool} (h : a = b) : Ending.returned (.bool a) = .returned (.bool b) := by rw [h]
theorem ret_int {k : IntKind} {a b : Int} (h : a = b) : Ending.returned (.int k a) = .returned (.int k b) := by rw [h]

/-- A view: process, round, input, and what it heard. -/
structure Vw where
  p : Int
  r : Int
  i : Int
  h0 : Int
  h1 : Int
  h2 : Int
  h3 : Int
  h4 : Int
deriving DecidableEq, Inhabited

def Vw.h (v : Vw) : Nat → Int
  | 0 => v.h0
  | 1 => v.h1
  | 2 => v.h2
  | 3 => v.h3
  | _ => v.h4

def Vw.cells (v : Vw) : Array Value := #[.int .i64 v.p, .int .i64 v.r, .int .i64 v.i, .int .i64 v.h0, .int .i64 v.h1, .int .i64 v.h2, .int .i64 v.h3, .int .i64 v.h4]

theorem Vw.cells_h (v : Vw) (q : Nat) (hq : q < 5) : v.cells[3 + q]? = some (.int .i64 (v.h q)) := by
  match q, hq with
  | 0, _ => rfl
  | 1, _ => rfl
  | 2, _ => rfl
  | 3, _ => rfl
  | 4, _ => rfl

/-- The rows of a slice of views lie below block B of w. -/
def VAt (w : World) (B : Nat) (A : Option Addr) (vs : List Vw) : Prop :=
  0 < vs.length → ∃ b off, A = some ⟨b, off, none⟩ ∧ b < B ∧ ∀ (i : Nat) (hi : i < vs.length) (k : Nat) (u : Value), vs[i].cells[k]? = some u → w.cell? ⟨b, off + i * 8 + k, none⟩ = some u

theorem VAt.keep {w w' : World} {B : Nat} {A : Option Addr} {vs : List Vw} (h : VAt w B A vs) (hb : Below B w w') : VAt w' B A vs := fun h0 => by
  obtain ⟨b, off, e, hlt, hc⟩ := h h0
  exact ⟨b, off, e, hlt, fun i hi k u hk => (hb.cell (p := ⟨b, _, none⟩) hlt).trans (hc i hi k u hk)⟩
theorem VAt.more {w : World} {B B' : Nat} {A : Option Addr} {vs : List Vw} (h : VAt w B A vs) (hB : B ≤ B') : VAt w B' A vs := fun h0 => by
  obtain ⟨b, off, e, hlt, hc⟩ := h h0
  exact ⟨b, off, e, by omega, hc⟩
theorem VAt.take {w : World} {B : Nat} {A : Option Addr} {vs : List Vw} (h : VAt w B A vs) (n : Nat) : VAt w B A (vs.take n) := fun h0 => by
  obtain ⟨b, off, e, hlt, hc⟩ := h (by simp at h0; omega)
  exact ⟨b, off, e, hlt, fun i hi k u hk => hc i (by simp at hi; omega) k u (by simpa using hk)⟩

/-- The eight cells of one row. -/
theorem VAt.row {w : World} {B : Nat} {A : Option Addr} {vs : List Vw} (h : VAt w B A vs) (k : Nat) (hk : k < vs.length) :
    ∃ b off, A = some ⟨b, off, none⟩ ∧ b < B ∧ w.cell? ⟨b, off + k * 8, none⟩ = some (.int .i64 vs[k].p) ∧ w.cell? ⟨b, off + k * 8 + 1, none⟩ = some (.int .i64 vs[k].r) ∧
      w.cell? ⟨b, off + k * 8 + 2, none⟩ = some (.int .i64 vs[k].i) ∧ w.cell? ⟨b, off + k * 8 + 3, none⟩ = some (.int .i64 vs[k].h0) ∧ w.cell? ⟨b, off + k * 8 + 4, none⟩ = some (.int .i64 vs[k].h1) ∧
      w.cell? ⟨b, off + k * 8 + 5, none⟩ = some (.int .i64 vs[k].h2) ∧ w.cell? ⟨b, off + k * 8 + 6, none⟩ = some (.int .i64 vs[k].h3) ∧ w.cell? ⟨b, off + k * 8 + 7, none⟩ = some (.int .i64 vs[k].h4) := by
  obtain ⟨b, off, e, hlt, hc⟩ := h (by omega)
  exact ⟨b, off, e, hlt, hc k hk 0 _ rfl, hc k hk 1 _ rfl, hc k hk 2 _ rfl, hc k hk 3 _ rfl, hc k hk 4 _ rfl, hc k hk 5 _ rfl, hc k hk 6 _ rfl, hc k hk 7 _ rfl⟩

/-- What a view heard: process and index, by process. -/
def heardTo (v : Vw) (k : Nat) : List (Int × Int) := if 0 < v.r then (List.range k).filterMap fun q => if 0 ≤ v.h q then some ((q : Int), v.h q) else none else []
def heardL (v : Vw) : List (Int × Int) := heardTo v 5

theorem heardTo_yes {v : Vw} {k : Nat} (hr : 0 < v.r) (hq : 0 ≤ v.h k) : heardTo v (k + 1) = heardTo v k ++ [((k : Int), v.h k)] := by
  simp [heardTo, hr, List.range_succ, List.filterMap_append, hq]
theorem heardTo_no {v : Vw} {k : Nat} (hq : ¬ (0 < v.r ∧ 0 ≤ v.h k)) : heardTo v (k + 1) = heardTo v k := by
  unfold heardTo
  by_cases hr : 0 < v.r
  · have : ¬ 0 ≤ v.h k := fun h => hq ⟨hr, h⟩
    simp [hr, List.range_succ, List.filterMap_append, this]
  · simp [hr]
theorem heardTo_le {v : Vw} {k m : Nat} (h : k ≤ m) : heardTo v k <+: heardTo v m := by
  induction m with
  | zero => obtain rfl : k = 0 := by omega
            exact List.prefix_refl _
  | succ m ih =>
    by_cases e : k = m + 1
    · subst e; exact List.prefix_refl _
    · refine (ih (by omega)).trans ?_
      by_cases hq : 0 < v.r ∧ 0 ≤ v.h m
      · rw [heardTo_yes hq.1 hq.2]; exact List.prefix_append _ _
      · rw [heardTo_no hq]; exact List.prefix_refl _
theorem mem_heardL {v : Vw} {x : Int × Int} : x ∈ heardL v ↔ 0 < v.r ∧ ∃ q : Nat, q < 5 ∧ x = ((q : Int), v.h q) ∧ 0 ≤ v.h q := by
  unfold heardL heardTo
  split
  · rename_i hr
    simp only [List.mem_filterMap, List.mem_range, hr, true_and]
    constructor
    · rintro ⟨q, hq, h⟩
      split at h
      · rename_i h0
        cases h
        exact ⟨q, hq, rfl, h0⟩
      · cases h
    · rintro ⟨q, hq, rfl, h0⟩
      exact ⟨q, hq, by rw [if_pos h0]⟩
  · rename_i hr
    simp [hr]

/-- A slice of integers, below block B. -/
def IAt (w : World) (B : Nat) (A : Option Addr) (xs : List Int) : Prop :=
  0 < xs.length → ∃ b off, A = some ⟨b, off, none⟩ ∧ b < B ∧ ∀ (i : Nat) (hi : i < xs.length), w.cell? ⟨b, off + i, none⟩ = some (.int .i64 xs[i])
theorem IAt.keep {w w' : World} {B : Nat} {A : Option Addr} {xs : List Int} (h : IAt w B A xs) (hb : Below B w w') : IAt w' B A xs := fun h0 => by
  obtain ⟨b, off, e, hlt, hc⟩ := h h0
  exact ⟨b, off, e, hlt, fun i hi => (hb.cell (p := ⟨b, _, none⟩) hlt).trans (hc i hi)⟩
theorem IAt.more {w : World} {B B' : Nat} {A : Option Addr} {xs : List Int} (h : IAt w B A xs) (hB : B ≤ B') : IAt w B' A xs := fun h0 => by
  obtain ⟨b, off, e, hlt, hc⟩ := h h0
  exact ⟨b, off, e, by omega, hc⟩
theorem IAt.at_ {w : World} {B : Nat} {A : Option Addr} {xs : List Int} (h : IAt w B A xs) (k : Nat) (hk : k < xs.length) : ∃ b off, A = some ⟨b, off, none⟩ ∧ b < B ∧ w.cell? ⟨b, off + k, none⟩ = some (.int .i64 xs[k]) := by
  obtain ⟨b, off, e, hlt, hc⟩ := h (by omega)
  exact ⟨b, off, e, hlt, hc k hk⟩
theorem IAt.nil (w : World) (B : Nat) (A : Option Addr) : IAt w B A [] := fun h => absurd h (by simp)
theorem IAt.of_own {w : World} {base : Nat} {e : TypeId} {A : Option Addr} {n c : Nat} {xs : List Int} (h : w.ownsRow base e 1 (.slice A n c) n (xs.map (Value.int .i64))) : IAt w w.heap.size A xs := fun h0 => by
  have hn : xs.length = n := by simpa using h.1
  obtain ⟨g, cap, hv, _, hlt⟩ := h.form (by omega)
  have hA : A = some ⟨g, 0, none⟩ := by injection hv
  subst hA
  refine ⟨g, 0, rfl, hlt, fun i hi => ?_⟩
  have := h.cells (g := g) rfl i (.int .i64 xs[i]) (by simp [hi])
  rw [show (⟨g, 0, none⟩ : Addr).add i = ⟨g, 0 + i, none⟩ from by unfold Addr.add; split <;> simp_all] at this
  exact this

theorem blk_cell {w : World} {g : Nat} {t : TypeId} {cs : Array Value} (h : w.heap[g]? = some (.cells cs t (0, 0))) (i : Nat) {u : Value} (hu : cs[i]? = some u) : w.cell? ⟨g, i, none⟩ = some u := by
  rw [cell_of_row w g i cs t (0, 0) h]; exact hu
theorem blk_froz {w : World} {g : Nat} {t : TypeId} {cs : Array Value} (h : w.heap[g]? = some (.cells cs t (0, 0))) (i : Nat) : w.frozen? ⟨g, i, none⟩ = false := by
  simp [World.frozen?, h]
theorem blk_lt {w : World} {g : Nat} {o : Obj} (h : w.heap[g]? = some o) : g < w.heap.size := (Array.getElem?_eq_some_iff.1 h).1
theorem blk_new (w : World) (o : Obj) : (w.alloc o).heap[w.heap.size]? = some o := heap_alloc_new w o
theorem blk_old {w : World} {g : Nat} {o : Obj} (h : w.heap[g]? = some o) (o' : Obj) : (w.alloc o').heap[g]? = some o := (Below.heap_alloc w o' g (blk_lt h)).trans h
theorem blk_below {w w' : World} {g B : Nat} {o : Obj} (h : w.heap[g]? = some o) (hb : Below B w w') (hg : g < B) : w'.heap[g]? = some o := (hb.block g hg).trans h

theorem bel1 (w : World) (a : Obj) : Below w.heap.size w (w.alloc a) := (Below.refl _ _).alloc (Nat.le_refl _) _
theorem bel2 (w : World) (a b : Obj) : Below w.heap.size w ((w.alloc a).alloc b) := (bel1 w a).alloc (by simp) _
theorem bel3 (w : World) (a b c : Obj) : Below w.heap.size w (((w.alloc a).alloc b).alloc c) := (bel2 w a b).alloc (by simp; omega) _
theorem wp_one {P : Program} {c : Code} {Q : Exit → Act → World → Prop} {a : Act} {w : World} {c1 : Array Value} {t1 : TypeId}
    (h : ∀ W0 : World, W0.heap[w.heap.size]? = some (.cells c1 t1) → W0.heap.size = w.heap.size + 1 → Below w.heap.size w W0 → c.wp P Q a W0) : c.wp P Q a (w.alloc (.cells c1 t1)) :=
  h _ (blk_new _ _) (by simp) (bel1 w _)
theorem wp_oned {P : Program} {c : Code} {Q : Exit → Act → World → Prop} {a : Act} {w : World} {c1 : Array Value} {t1 : TypeId}
    (h : ∀ W0 : World, W0.heap[w.heap.size]? = some (.cells c1 t1) → W0.heap.size = w.heap.size + 1 → Below w.heap.size w W0 → c.wp P Q a W0) : c.wp P Q a ((w.alloc (.cells c1 t1)).drew) :=
  h _ (blk_new _ _) (by show (w.alloc _).heap.size = _; simp) (bel1 w _).drew
theorem wp_two {P : Program} {c : Code} {Q : Exit → Act → World → Prop} {a : Act} {w : World} {c1 c2 : Array Value} {t1 t2 : TypeId}
    (h : ∀ W0 : World, W0.heap[w.heap.size]? = some (.cells c1 t1) → W0.heap[w.heap.size + 1]? = some (.cells c2 t2) → W0.heap.size = w.heap.size + 2 → Below w.heap.size w W0 → c.wp P Q a W0) :
    c.wp P Q a ((w.alloc (.cells c1 t1)).alloc (.cells c2 t2)) :=
  h _ (blk_old (blk_new _ _) _) (by have := blk_new (w.alloc (.cells c1 t1)) (.cells c2 t2); rwa [World.size_alloc] at this) (by simp) (bel2 w _ _)
theorem wp_three {P : Program} {c : Code} {Q : Exit → Act → World → Prop} {a : Act} {w : World} {c1 c2 c3 : Array Value} {t1 t2 t3 : TypeId}
    (h : ∀ W0 : World, W0.heap[w.heap.size]? = some (.cells c1 t1) → W0.heap[w.heap.size + 1]? = some (.cells c2 t2) → W0.heap[w.heap.size + 2]? = some (.cells c3 t3) → W0.heap.size = w.heap.size + 3 → Below w.heap.size w W0 → c.wp P Q a W0) :
    c.wp P Q a (((w.alloc (.cells c1 t1)).alloc (.cells c2 t2)).alloc (.cells c3 t3)) :=
  h _ (blk_old (blk_old (blk_new _ _) _) _) (blk_old (by have := blk_new (w.alloc (.cells c1 t1)) (.cells c2 t2); rwa [World.size_alloc] at this) _)
    (by have := blk_new ((w.alloc (.cells c1 t1)).alloc (.cells c2 t2)) (.cells c3 t3); rwa [World.size_alloc, World.size_alloc] at this) (by simp) (bel3 w _ _ _)
theorem one_kept {w w1 : World} {c1 : Array Value} {t1 : TypeId} (hb : Below (w.alloc (.cells c1 t1)).heap.size (w.alloc (.cells c1 t1)) w1) :
    w1.heap[w.heap.size]? = some (.cells c1 t1) ∧ w.heap.size + 1 ≤ w1.heap.size ∧ Below w.heap.size w w1 :=
  ⟨(hb.block _ (by simp)).trans (blk_new _ _), by have := hb.size; simpa using this, (bel1 w _).trans (hb.mono (by simp))⟩
theorem two_kept {w w1 : World} {c1 c2 : Array Value} {t1 t2 : TypeId} (hb : Below ((w.alloc (.cells c1 t1)).alloc (.cells c2 t2)).heap.size ((w.alloc (.cells c1 t1)).alloc (.cells c2 t2)) w1) :
    w1.heap[w.heap.size]? = some (.cells c1 t1) ∧ w1.heap[w.heap.size + 1]? = some (.cells c2 t2) ∧ w.heap.size + 2 ≤ w1.heap.size ∧ Below w.heap.size w w1 :=
  ⟨(hb.block _ (by simp; omega)).trans (blk_old (blk_new _ _) _), (hb.block _ (by simp)).trans (by have := blk_new (w.alloc (.cells c1 t1)) (.cells c2 t2); rwa [World.size_alloc] at this),
    by have := hb.size; simpa using this, (bel2 w _ _).trans (hb.mono (by simp; omega))⟩
theorem belU {B : Nat} {w w' : World} (h : Below B w.drew w') : Below B w w' := ⟨h.os, h.tape, h.output, h.size, h.block⟩
theorem belD {B : Nat} {w w' : World} {n : Nat} (h : Below B (w.drewN n) w') : Below B w w' := ⟨h.os, h.tape, h.output, h.size, h.block⟩
theorem belN {B : Nat} {a w : World} (h : Below B a w) (n : Nat) : Below B a (w.drewN n) := ⟨h.os, h.tape, h.output, h.size, h.block⟩

end Go.Proofs.YtppklecmlkicaaaDoor
