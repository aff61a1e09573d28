/- Part Base. Part Spec. Part Iter. Part App. Part RefD. What each part says stands at its head; no part has a condition beyond its own statements. -/
import Derived.WalkKit
import Derived.WalkSpells
import Derived.WalkLawsBesides
import Derived.Outline
import Derived.Below
import Derived.Laws.OwnMore
import Derived.Lib.Hide
import Derived.Deep.Draws
import Derived.Deep.AppendLies
import Derived.RangeFuncNested
import Derived.RangeFuncBound
import Derived.RangeFuncCalls
import Derived.RangeFuncLeaves
import Derived.Shelf.Abstract
import Derived.Shelf.RegionOpen
import Derived.OwnWalkIn
import Derived.TacticsInMore
import Derived.LoopNIn
import Derived.LoopIn
import Derived.Test.YtdfnmapmnmecnaaDoorProg
import Derived.OwnWalk
import Derived.Maps.AppendAt
import Derived.Deep.QuietTactic
import Derived.BigQuiet
import Derived.BigRegion
import Derived.Deep.DeepCutAuto

/- The plain words for tables of views: a view as eight integers, a table's rows in memory. No program in sight. -/
namespace Go.Proofs.YtdfnmapmnmecnaaDoor
open Go.RowKit

theorem dec_eq {p q : Prop} [Decidable p] [Decidable q] (h : p ↔ q) : decide p = decide q := by simp [h]
theorem ret_bool {a b : Bool} (h : a = b) : Ending.returned (.bool a) = .returned (.bool b) := by rw [h]
theorem ret_int {k : IntKind} {a b : Int} (h : a = b) : Ending.returned (.int k a) = .returned (.int k b) := by rw [h]

/-- A view: process, round, input, and what it heard. -/
structure Vw where
  p : Int
  r : Int
  i : Int
  h0 : Int
  h1 : Int
  h2 : Int
  h3 : Int
  h4 : Int
deriving DecidableEq, Inhabited

def Vw.h (v : Vw) : Nat → Int
  | 0 => v.h0
  | 1 => v.h1
  | 2 => v.h2
  | 3 => v.h3
  | _ => v.h4

def Vw.cells (v : Vw) : Array Value := #[.int .i64 v.p, .int .i64 v.r, .int .i64 v.i, .int .i64 v.h0, .int .i64 v.h1, .int .i64 v.h2, .int .i64 v.h3, .int .i64 v.h4]

theorem Vw.cells_h (v : Vw) (q : Nat) (hq : q < 5) : v.cells[3 + q]? = some (.int .i64 (v.h q)) := by
  match q, hq with
  | 0, _ => rfl
  | 1, _ => rfl
  | 2, _ => rfl
  | 3, _ => rfl
  | 4, _ => rfl

/-- The rows of a slice of views lie below block B of w. -/
def VAt (w : World) (B : Nat) (A : Option Addr) (vs : List Vw) : Prop :=
  0 < vs.length → ∃ b off, A = some ⟨b, off, none⟩ ∧ b < B ∧ ∀ (i : Nat) (hi : i < vs.length) (k : Nat) (u : Value), vs[i].cells[k]? = some u → w.cell? ⟨b, off + i * 8 + k, none⟩ = some u

theorem VAt.keep {w w' : World} {B : Nat} {A : Option Addr} {vs : List Vw} (h : VAt w B A vs) (hb : Below B w w') : VAt w' B A vs := fun h0 => by
  obtain ⟨b, off, e, hlt, hc⟩ := h h0
  exact ⟨b, off, e, hlt, fun i hi k u hk => (hb.cell (p := ⟨b, _, none⟩) hlt).trans (hc i hi k u hk)⟩
theorem VAt.more {w : World} {B B' : Nat} {A : Option Addr} {vs : List Vw} (h : VAt w B A vs) (hB : B ≤ B') : VAt w B' A vs := fun h0 => by
  obtain ⟨b, off, e, hlt, hc⟩ := h h0
  exact ⟨b, off, e, by omega, hc⟩
theorem VAt.take {w : World} {B : Nat} {A : Option Addr} {vs : List Vw} (h : VAt w B A vs) (n : Nat) : VAt w B A (vs.take n) := fun h0 => by
  obtain ⟨b, off, e, hlt, hc⟩ := h (by simp at h0; omega)
  exact ⟨b, off, e, hlt, fun i hi k u hk => hc i (by simp at hi; omega) k u (by simpa using hk)⟩

/-- The eight cells of one row. -/
theorem VAt.row {w : World} {B : Nat} {A : Option Addr} {vs : List Vw} (h : VAt w B A vs) (k : Nat) (hk : k < vs.length) :
    ∃ b off, A = some ⟨b, off, none⟩ ∧ b < B ∧ w.cell? ⟨b, off + k * 8, none⟩ = some (.int .i64 vs[k].p) ∧ w.cell? ⟨b, off + k * 8 + 1, none⟩ = some (.int .i64 vs[k].r) ∧
      w.cell? ⟨b, off + k * 8 + 2, none⟩ = some (.int .i64 vs[k].i) ∧ w.cell? ⟨b, off + k * 8 + 3, none⟩ = some (.int .i64 vs[k].h0) ∧ w.cell? ⟨b, off + k * 8 + 4, none⟩ = some (.int .i64 vs[k].h1) ∧
      w.cell? ⟨b, off + k * 8 + 5, none⟩ = some (.int .i64 vs[k].h2) ∧ w.cell? ⟨b, off + k * 8 + 6, none⟩ = some (.int .i64 vs[k].h3) ∧ w.cell? ⟨b, off + k * 8 + 7, none⟩ = some (.int .i64 vs[k].h4) := by
  obtain ⟨b, off, e, hlt, hc⟩ := h (by omega)
  exact ⟨b, off, e, hlt, hc k hk 0 _ rfl, hc k hk 1 _ rfl, hc k hk 2 _ rfl, hc k hk 3 _ rfl, hc k hk 4 _ rfl, hc k hk 5 _ rfl, hc k hk 6 _ rfl, hc k hk 7 _ rfl⟩

/-- What a view heard: process and index, by process. -/
def heardTo (v : Vw) (k : Nat) : List (Int × Int) := if 0 < v.r then (List.range k).filterMap fun q => if 0 ≤ v.h q then some ((q : Int), v.h q) else none else []
def heardL (v : Vw) : List (Int × Int) := heardTo v 5

theorem heardTo_yes {v : Vw} {k : Nat} (hr : 0 < v.r) (hq : 0 ≤ v.h k) : heardTo v (k + 1) = heardTo v k ++ [((k : Int), v.h k)] := by
  simp [heardTo, hr, List.range_succ, List.filterMap_append, hq]
theorem heardTo_no {v : Vw} {k : Nat} (hq : ¬ (0 < v.r ∧ 0 ≤ v.h k)) : heardTo v (k + 1) = heardTo v k := by
  unfold heardTo
  by_cases hr : 0 < v.r
  · have : ¬ 0 ≤ v.h k := fun h => hq ⟨hr, h⟩
    simp [hr, List.range_succ, List.filterMap_append, this]
  · simp [hr]
theorem heardTo_le {v : Vw} {k m : Nat} (h : k ≤ m) : heardTo v k <+: heardTo v m := by
  induction m with
  | zero => obtain rfl : k = 0 := by omega
            exact List.prefix_refl _
  | succ m ih =>
    by_cases e : k = m + 1
    · subst e; exact List.prefix_refl _
    · refine (ih (by omega)).trans ?_
      by_cases hq : 0 < v.r ∧ 0 ≤ v.h m
      · rw [heardTo_yes hq.1 hq.2]; exact List.prefix_append _ _
      · rw [heardTo_no hq]; exact List.prefix_refl _
theorem mem_heardL {v : Vw} {x : Int × Int} : x ∈ heardL v ↔ 0 < v.r ∧ ∃ q : Nat, q < 5 ∧ x = ((q : Int), v.h q) ∧ 0 ≤ v.h q := by
  unfold heardL heardTo
  split
  · rename_i hr
    simp only [List.mem_filterMap, List.mem_range, hr, true_and]
    constructor
    · rintro ⟨q, hq, h⟩
      split at h
      · rename_i h0
        cases h
        exact ⟨q, hq, rfl, h0⟩
      · cases h
    · rintro ⟨q, hq, rfl, h0⟩
      exact ⟨q, hq, by rw [if_pos h0]⟩
  · rename_i hr
    simp [hr]

/-- A slice of integers, below block B. -/
def IAt (w : World) (B : Nat) (A : Option Addr) (xs : List Int) : Prop :=
  0 < xs.length → ∃ b off, A = some ⟨b, off, none⟩ ∧ b < B ∧ ∀ (i : Nat) (hi : i < xs.length), w.cell? ⟨b, off + i, none⟩ = some (.int .i64 xs[i])
theorem IAt.keep {w w' : World} {B : Nat} {A : Option Addr} {xs : List Int} (h : IAt w B A xs) (hb : Below B w w') : IAt w' B A xs := fun h0 => by
  obtain ⟨b, off, e, hlt, hc⟩ := h h0
  exact ⟨b, off, e, hlt, fun i hi => (hb.cell (p := ⟨b, _, none⟩) hlt).trans (hc i hi)⟩
theorem IAt.more {w : World} {B B' : Nat} {A : Option Addr} {xs : List Int} (h : IAt w B A xs) (hB : B ≤ B') : IAt w B' A xs := fun h0 => by
  obtain ⟨b, off, e, hlt, hc⟩ := h h0
  exact ⟨b, off, e, by omega, hc⟩
theorem IAt.at_ {w : World} {B : Nat} {A : Option Addr} {xs : List Int} (h : IAt w B A xs) (k : Nat) (hk : k < xs.length) : ∃ b off, A = some ⟨b, off, none⟩ ∧ b < B ∧ w.cell? ⟨b, off + k, none⟩ = some (.int .i64 xs[k]) := by
  obtain ⟨b, off, e, hlt, hc⟩ := h (by omega)
  exact ⟨b, off, e, hlt, hc k hk⟩
theorem IAt.nil (w : World) (B : Nat) (A : Option Addr) : IAt w B A [] := fun h => absurd h (by simp)
theorem IAt.of_own {w : World} {base : Nat} {e : TypeId} {A : Option Addr} {n c : Nat} {xs : List Int} (h : w.ownsRow base e 1 (.slice A n c) n (xs.map (Value.int .i64))) : IAt w w.heap.size A xs := fun h0 => by
  have hn : xs.length = n := by simpa using h.1
  obtain ⟨g, cap, hv, _, hlt⟩ := h.form (by omega)
  have hA : A = some ⟨g, 0, none⟩ := by injection hv
  subst hA
  refine ⟨g, 0, rfl, hlt, fun i hi => ?_⟩
  have := h.cells (g := g) rfl i (.int .i64 xs[i]) (by simp [hi])
  rw [show (⟨g, 0, none⟩ : Addr).add i = ⟨g, 0 + i, none⟩ from by unfold Addr.add; split <;> simp_all] at this
  exact this

theorem blk_cell {w : World} {g : Nat} {t : TypeId} {cs : Array Value} (h : w.heap[g]? = some (.cells cs t (0, 0))) (i : Nat) {u : Value} (hu : cs[i]? = some u) : w.cell? ⟨g, i, none⟩ = some u := by
  rw [cell_of_row w g i cs t (0, 0) h]; exact hu
theorem blk_froz {w : World} {g : Nat} {t : TypeId} {cs : Array Value} (h : w.heap[g]? = some (.cells cs t (0, 0))) (i : Nat) : w.frozen? ⟨g, i, none⟩ = false := by
  simp [World.frozen?, h]
theorem blk_lt {w : World} {g : Nat} {o : Obj} (h : w.heap[g]? = some o) : g < w.heap.size := (Array.getElem?_eq_some_iff.1 h).1
theorem blk_new (w : World) (o : Obj) : (w.alloc o).heap[w.heap.size]? = some o := heap_alloc_new w o
theorem blk_old {w : World} {g : Nat} {o : Obj} (h : w.heap[g]? = some o) (o' : Obj) : (w.alloc o').heap[g]? = some o := (Below.heap_alloc w o' g (blk_lt h)).trans h
theorem blk_below {w w' : World} {g B : Nat} {o : Obj} (h : w.heap[g]? = some o) (hb : Below B w w') (hg : g < B) : w'.heap[g]? = some o := (hb.block g hg).trans h

theorem bel1 (w : World) (a : Obj) : Below w.heap.size w (w.alloc a) := (Below.refl _ _).alloc (Nat.le_refl _) _
theorem bel2 (w : World) (a b : Obj) : Below w.heap.size w ((w.alloc a).alloc b) := (bel1 w a).alloc (by simp) _
theorem bel3 (w : World) (a b c : Obj) : Below w.heap.size w (((w.alloc a).alloc b).alloc c) := (bel2 w a b).alloc (by simp; omega) _
theorem wp_one {P : Program} {c : Code} {Q : Exit → Act → World → Prop} {a : Act} {w : World} {c1 : Array Value} {t1 : TypeId}
    (h : ∀ W0 : World, W0.heap[w.heap.size]? = some (.cells c1 t1) → W0.heap.size = w.heap.size + 1 → Below w.heap.size w W0 → c.wp P Q a W0) : c.wp P Q a (w.alloc (.cells c1 t1)) :=
  h _ (blk_new _ _) (by simp) (bel1 w _)
theorem wp_oned {P : Program} {c : Code} {Q : Exit → Act → World → Prop} {a : Act} {w : World} {c1 : Array Value} {t1 : TypeId}
    (h : ∀ W0 : World, W0.heap[w.heap.size]? = some (.cells c1 t1) → W0.heap.size = w.heap.size + 1 → Below w.heap.size w W0 → c.wp P Q a W0) : c.wp P Q a ((w.alloc (.cells c1 t1)).drew) :=
  h _ (blk_new _ _) (by show (w.alloc _).heap.size = _; simp) (bel1 w _).drew
theorem wp_two {P : Program} {c : Code} {Q : Exit → Act → World → Prop} {a : Act} {w : World} {c1 c2 : Array Value} {t1 t2 : TypeId}
    (h : ∀ W0 : World, W0.heap[w.heap.size]? = some (.cells c1 t1) → W0.heap[w.heap.size + 1]? = some (.cells c2 t2) → W0.heap.size = w.heap.size + 2 → Below w.heap.size w W0 → c.wp P Q a W0) :
    c.wp P Q a ((w.alloc (.cells c1 t1)).alloc (.cells c2 t2)) :=
  h _ (blk_old (blk_new _ _) _) (by have := blk_new (w.alloc (.cells c1 t1)) (.cells c2 t2); rwa [World.size_alloc] at this) (by simp) (bel2 w _ _)
theorem wp_three {P : Program} {c : Code} {Q : Exit → Act → World → Prop} {a : Act} {w : World} {c1 c2 c3 : Array Value} {t1 t2 t3 : TypeId}
    (h : ∀ W0 : World, W0.heap[w.heap.size]? = some (.cells c1 t1) → W0.heap[w.heap.size + 1]? = some (.cells c2 t2) → W0.heap[w.heap.size + 2]? = some (.cells c3 t3) → W0.heap.size = w.heap.size + 3 → Below w.heap.size w W0 → c.wp P Q a W0) :
    c.wp P Q a (((w.alloc (.cells c1 t1)).alloc (.cells c2 t2)).alloc (.cells c3 t3)) :=
  h _ (blk_old (blk_old (blk_new _ _) _) _) (blk_old (by have := blk_new (w.alloc (.cells c1 t1)) (.cells c2 t2); rwa [World.size_alloc] at this) _)
    (by have := blk_new ((w.alloc (.cells c1 t1)).alloc (.cells c2 t2)) (.cells c3 t3); rwa [World.size_alloc, World.size_alloc] at this) (by simp) (bel3 w _ _ _)
theorem one_kept {w w1 : World} {c1 : Array Value} {t1 : TypeId} (hb : Below (w.alloc (.cells c1 t1)).heap.size (w.alloc (.cells c1 t1)) w1) :
    w1.heap[w.heap.size]? = some (.cells c1 t1) ∧ w.heap.size + 1 ≤ w1.heap.size ∧ Below w.heap.size w w1 :=
  ⟨(hb.block _ (by simp)).trans (blk_new _ _), by have := hb.size; simpa using this, (bel1 w _).trans (hb.mono (by simp))⟩
theorem two_kept {w w1 : World} {c1 c2 : Array Value} {t1 t2 : TypeId} (hb : Below ((w.alloc (.cells c1 t1)).alloc (.cells c2 t2)).heap.size ((w.alloc (.cells c1 t1)).alloc (.cells c2 t2)) w1) :
    w1.heap[w.heap.size]? = some (.cells c1 t1) ∧ w1.heap[w.heap.size + 1]? = some (.cells c2 t2) ∧ w.heap.size + 2 ≤ w1.heap.size ∧ Below w.heap.size w w1 :=
  ⟨(hb.block _ (by simp; omega)).trans (blk_old (blk_new _ _) _), (hb.block _ (by simp)).trans (by have := blk_new (w.alloc (.cells c1 t1)) (.cells c2 t2); rwa [World.size_alloc] at this),
    by have := hb.size; simpa using this, (bel2 w _ _).trans (hb.mono (by simp; omega))⟩
theorem belU {B : Nat} {w w' : World} (h : Below B w.drew w') : Below B w w' := ⟨h.os, h.tape, h.output, h.size, h.block⟩
theorem belD {B : Nat} {w w' : World} {n : Nat} (h : Below B (w.drewN n) w') : Below B w w' := ⟨h.os, h.tape, h.output, h.size, h.block⟩
theorem belN {B : Nat} {a w : World} (h : Below B a w) (n : Nat) : Below B a (w.drewN n) := ⟨h.os, h.tape, h.output, h.size, h.block⟩

end Go.Proofs.YtdfnmapmnmecnaaDoor

/- What the functions on tables of views compute, in plain Lean: errors, pasts, texts. No program in sight. -/
namespace Go.Proofs.YtdfnmapmnmecnaaDoor

/-- The first code among f 0, .., f (k - 1) that is not 0. -/
def fstE (f : Nat → Int) : Nat → Int
  | 0 => 0
  | k + 1 => if fstE f k = 0 then f k else fstE f k

theorem fstE_step {f : Nat → Int} {k : Nat} (h : fstE f k = 0) : fstE f (k + 1) = f k := by simp [fstE, h]
theorem fstE_stay {f : Nat → Int} {k : Nat} (h : fstE f k ≠ 0) : ∀ m, k ≤ m → fstE f m = fstE f k := by
  intro m hm
  induction m with
  | zero => obtain rfl : k = 0 := by omega
            rfl
  | succ m ih =>
    by_cases e : k = m + 1
    · subst e; rfl
    · have := ih (by omega)
      simp only [fstE]
      rw [if_neg (by rw [this]; exact h), this]
theorem fstE_hit {f : Nat → Int} {k m : Nat} (h : fstE f k = 0) (hf : f k ≠ 0) (hm : k < m) : fstE f m = f k := by
  have h1 := fstE_step h
  rw [fstE_stay (k := k + 1) (by rw [h1]; exact hf) m (by omega), h1]
theorem fstE_zero {f : Nat → Int} : ∀ {m : Nat}, fstE f m = 0 ↔ ∀ k, k < m → f k = 0
  | 0 => by simp [fstE]
  | m + 1 => by
    have ih := fstE_zero (f := f) (m := m)
    simp only [fstE]
    constructor
    · intro h k hk
      by_cases e : fstE f m = 0
      · rw [if_pos e] at h
        by_cases ek : k = m
        · subst ek; exact h
        · exact ih.1 e k (by omega)
      · rw [if_neg e] at h; exact absurd h e
    · intro h
      have e : fstE f m = 0 := ih.2 fun k hk => h k (by omega)
      rw [if_pos e]; exact h m (by omega)
theorem fstE_congr {f g : Nat → Int} : ∀ {m : Nat}, (∀ k, k < m → f k = g k) → fstE f m = fstE g m
  | 0, _ => rfl
  | m + 1, h => by
    simp only [fstE]
    rw [fstE_congr (m := m) fun k hk => h k (by omega), h m (by omega)]

def getV (vs : List Vw) (i : Nat) : Vw := vs.getD i default
theorem getV_eq {vs : List Vw} {i : Nat} (h : i < vs.length) : getV vs i = vs[i] := by simp [getV, h]
theorem getV_take {vs : List Vw} {i k : Nat} (h : i < k) : getV (vs.take k) i = getV vs i := by
  unfold getV
  rw [List.getD_eq_getElem?_getD, List.getD_eq_getElem?_getD, List.getElem?_take, if_pos h]

def begBad (n : Int) (v : Vw) (q : Nat) : Bool := decide (v.h q ≠ -1 ∧ (v.r = 0 ∨ n ≤ (q : Int)))
def begOut (n : Int) (v : Vw) : Bool := decide (v.p < 0 ∨ n ≤ v.p ∨ v.r < 0 ∨ 6 < v.r ∨ (v.r = 0 ∧ (v.i < 0 ∨ 8 ≤ v.i)))
/-- The error of the parts of a view that refer to no other one. -/
def begE (n : Int) (v : Vw) : Int :=
  if begOut n v = true then 2 else if 0 < v.r ∧ v.i ≠ 0 then 3 else if (List.range 5).any (begBad n v) = true then 3 else 0

def linkE (vs : List Vw) (v : Vw) (q : Nat) : Int :=
  if v.h q = -1 then 0 else if v.h q < 0 ∨ (vs.length : Int) ≤ v.h q then 6
  else if (getV vs (v.h q).toNat).p ≠ (q : Int) ∨ (getV vs (v.h q).toNat).r ≠ v.r - 1 then 22 else 0

/-- The views that a view heard, by their indices. -/
def kids (v : Vw) : List Nat := (heardL v).map fun x => x.2.toNat
theorem mem_kids {v : Vw} {c : Nat} : c ∈ kids v ↔ 0 < v.r ∧ ∃ q : Nat, q < 5 ∧ 0 ≤ v.h q ∧ c = (v.h q).toNat := by
  unfold kids
  rw [List.mem_map]
  constructor
  · rintro ⟨x, hx, rfl⟩
    obtain ⟨hr, q, hq, rfl, h0⟩ := mem_heardL.1 hx
    exact ⟨hr, q, hq, h0, rfl⟩
  · rintro ⟨hr, q, hq, h0, rfl⟩
    exact ⟨_, mem_heardL.2 ⟨hr, q, hq, rfl, h0⟩, rfl⟩

/-- Is x among the past of view i? (the fuel bounds the depth) -/
def reachB (vs : List Vw) : Nat → Nat → Nat → Bool
  | 0, i, x => x == i
  | f + 1, i, x => x == i || (kids (getV vs i)).any fun c => reachB vs f c x
def reach (vs : List Vw) (i x : Nat) : Bool := reachB vs vs.length i x
def pastL (vs : List Vw) (l : List Nat) : List Nat := (List.range vs.length).filter fun x => l.any fun c => reach vs c x

def clash (vs : List Vw) (a b : Nat) : Bool := decide ((getV vs a).p = (getV vs b).p ∧ (getV vs a).r = (getV vs b).r)
def consB (vs : List Vw) : List Nat → Bool
  | [] => true
  | a :: l => (l.all fun b => !clash vs a b) && consB vs l

/-- The error of a view behind the views of a table. -/
def checkE (n : Int) (vs : List Vw) (v : Vw) : Int :=
  if begE n v ≠ 0 ∨ v.r = 0 then begE n v
  else if fstE (linkE vs v) 5 ≠ 0 then fstE (linkE vs v) 5
  else if v.h v.p.toNat = -1 then 20
  else if consB vs (pastL vs (kids v)) = true then 0 else 22

def rowE (n : Int) (vs : List Vw) (k : Nat) : Int :=
  if checkE n (vs.take k) (getV vs k) ≠ 0 then checkE n (vs.take k) (getV vs k) else if getV vs k ∈ vs.take k then 7 else 0
def CheckE (n : Int) (vs : List Vw) : Int := if n < 1 ∨ 5 < n then 1 else if 8192 < vs.length then 5 else fstE (rowE n vs) vs.length

/-- The views that a view heard lie before it. -/
def Acyc (vs : List Vw) : Prop := ∀ i, i < vs.length → ∀ c, c ∈ kids (getV vs i) → c < i
/-- The rows checked so far have no error. -/
def Wf (n : Int) (vs : List Vw) : Prop := 1 ≤ n ∧ n ≤ 5 ∧ ∀ k, k < vs.length → rowE n vs k = 0

theorem begE_ok {n : Int} {v : Vw} (h : begE n v = 0) : 0 ≤ v.p ∧ v.p < n ∧ 0 ≤ v.r ∧ v.r ≤ 6 ∧ (v.r = 0 → 0 ≤ v.i ∧ v.i < 8) ∧ (0 < v.r → v.i = 0) ∧ ∀ q, q < 5 → v.h q ≠ -1 → v.r ≠ 0 ∧ (q : Int) < n := by
  unfold begE at h
  split at h
  · cases h
  rename_i h1
  split at h
  · cases h
  rename_i h2
  split at h
  · cases h
  rename_i h3
  simp only [begOut, decide_eq_true_eq] at h1
  simp only [List.any_eq_true, List.mem_range, begBad, decide_eq_true_eq, not_exists] at h3
  refine ⟨by omega, by omega, by omega, by omega, fun e => by omega, fun e => by omega, fun q hq hh => ?_⟩
  have := h3 q
  constructor
  · intro e; exact this ⟨hq, hh, .inl e⟩
  · have h4 : ¬ n ≤ (q : Int) := fun e => this ⟨hq, hh, .inr e⟩
    omega

theorem checkE_ok {n : Int} {vs : List Vw} {v : Vw} (h : checkE n vs v = 0) : begE n v = 0 ∧ (v.r ≠ 0 → (∀ q, q < 5 → linkE vs v q = 0) ∧ v.h v.p.toNat ≠ -1 ∧ consB vs (pastL vs (kids v)) = true) := by
  unfold checkE at h
  split at h
  · rename_i h1
    refine ⟨h, fun hr => ?_⟩
    rcases h1 with h1 | h1
    · exact absurd h h1
    · exact absurd h1 hr
  rename_i h1
  split at h
  · rename_i h2; exact absurd h h2
  rename_i h2
  split at h
  · cases h
  rename_i h3
  split at h
  · rename_i h4
    exact ⟨by omega, fun _ => ⟨fstE_zero.1 (by omega), h3, h4⟩⟩
  · cases h

theorem linkE_ok {vs : List Vw} {v : Vw} {q : Nat} (h : linkE vs v q = 0) (h1 : v.h q ≠ -1) : 0 ≤ v.h q ∧ (v.h q).toNat < vs.length ∧ (getV vs (v.h q).toNat).p = (q : Int) ∧ (getV vs (v.h q).toNat).r = v.r - 1 := by
  unfold linkE at h
  rw [if_neg h1] at h
  split at h
  · cases h
  split at h
  · cases h
  omega

theorem rowE_ok {n : Int} {vs : List Vw} {k : Nat} (h : rowE n vs k = 0) : checkE n (vs.take k) (getV vs k) = 0 ∧ getV vs k ∉ vs.take k := by
  unfold rowE at h
  split at h
  · rename_i h1; exact absurd h h1
  rename_i h1
  split at h
  · cases h
  rename_i h2
  exact ⟨by omega, h2⟩

/-- What a well-formed row says of what it heard. -/
theorem kid_ok {n : Int} {vs : List Vw} {v : Vw} {c : Nat} (h : checkE n vs v = 0) (hc : c ∈ kids v) : c < vs.length ∧ (getV vs c).r = v.r - 1 := by
  obtain ⟨hr, q, hq, h0, rfl⟩ := mem_kids.1 hc
  obtain ⟨_, h2⟩ := checkE_ok h
  have := linkE_ok ((h2 (by omega)).1 q hq) (by omega)
  exact ⟨this.2.1, this.2.2.2⟩

theorem Wf.acyc {n : Int} {vs : List Vw} (h : Wf n vs) : Acyc vs := fun i hi c hc => by
  have := (kid_ok (rowE_ok (h.2.2 i hi)).1 hc).1
  simp at this
  omega
theorem Acyc.take {vs : List Vw} (h : Acyc vs) (k : Nat) : Acyc (vs.take k) := fun i hi c hc => by
  simp at hi
  rw [getV_take (by omega)] at hc
  exact h i (by omega) c hc

theorem rowE_take {n : Int} {vs : List Vw} {k m : Nat} (h : k < m) : rowE n (vs.take m) k = rowE n vs k := by
  unfold rowE
  rw [getV_take h, List.take_take, show min k m = k from by omega]
theorem Wf.take {n : Int} {vs : List Vw} (h : Wf n vs) (m : Nat) : Wf n (vs.take m) :=
  ⟨h.1, h.2.1, fun k hk => by simp at hk; rw [rowE_take (by omega)]; exact h.2.2 k (by omega)⟩
theorem Wf.of_CheckE {n : Int} {vs : List Vw} (h : CheckE n vs = 0) : Wf n vs ∧ vs.length ≤ 8192 := by
  unfold CheckE at h
  split at h
  · cases h
  split at h
  · cases h
  exact ⟨⟨by omega, by omega, fstE_zero.1 h⟩, by omega⟩

/-! ### Reaching -/
theorem reachB_fuel {vs : List Vw} (ha : Acyc vs) : ∀ (i f g x : Nat), i < vs.length → i ≤ f → i ≤ g → reachB vs f i x = reachB vs g i x := by
  intro i
  induction i using Nat.strongRecOn with
  | _ i ih =>
    intro f g x hi hf hg
    have key : ∀ f, i ≤ f → reachB vs f i x = (x == i || (kids (getV vs i)).any fun c => reachB vs c c x) := by
      intro f hf
      cases f with
      | zero =>
        have hk : kids (getV vs i) = [] := by
          rw [List.eq_nil_iff_forall_not_mem]
          intro c hc
          have := ha i hi c hc
          omega
        simp [reachB, hk]
      | succ f =>
        simp only [reachB]
        congr 1
        rw [Bool.eq_iff_iff, List.any_eq_true, List.any_eq_true]
        constructor
        · rintro ⟨c, hc, h⟩
          have := ha i hi c hc
          exact ⟨c, hc, by rw [ih c this c f x (by omega) (by omega) (by omega)]; exact h⟩
        · rintro ⟨c, hc, h⟩
          have := ha i hi c hc
          exact ⟨c, hc, by rw [ih c this f c x (by omega) (by omega) (by omega)]; exact h⟩
    rw [key f hf, key g hg]

theorem reach_iff {vs : List Vw} (ha : Acyc vs) {i x : Nat} (hi : i < vs.length) : reach vs i x = true ↔ x = i ∨ ∃ c, c ∈ kids (getV vs i) ∧ reach vs c x = true := by
  have h1 : reach vs i x = reachB vs (vs.length + 1) i x := reachB_fuel ha i _ _ x hi (by omega) (by omega)
  rw [h1]
  simp only [reachB, Bool.or_eq_true, beq_iff_eq, List.any_eq_true]
  rfl
theorem reach_self (vs : List Vw) (i : Nat) : reach vs i i = true := by
  unfold reach
  cases vs.length <;> simp [reachB]
theorem reach_lt {vs : List Vw} (ha : Acyc vs) : ∀ {i x : Nat}, i < vs.length → reach vs i x = true → x ≤ i := by
  intro i
  induction i using Nat.strongRecOn with
  | _ i ih =>
    intro x hi h
    rcases (reach_iff ha hi).1 h with rfl | ⟨c, hc, h'⟩
    · exact Nat.le_refl _
    · have := ha i hi c hc
      have := ih c this (by omega) h'
      omega
/-- The last step of a way. -/
theorem reach_step {vs : List Vw} (ha : Acyc vs) : ∀ {i x c : Nat}, i < vs.length → reach vs i x = true → c ∈ kids (getV vs x) → reach vs i c = true := by
  intro i
  induction i using Nat.strongRecOn with
  | _ i ih =>
    intro x c hi h hc
    rcases (reach_iff ha hi).1 h with rfl | ⟨d, hd, h'⟩
    · exact (reach_iff ha hi).2 (.inr ⟨c, hc, reach_self vs c⟩)
    · have := ha i hi d hd
      exact (reach_iff ha hi).2 (.inr ⟨d, hd, ih d this (by omega) h' hc⟩)
/-- What is closed under hearing and holds i holds all that i reaches. -/
theorem reach_closed {vs : List Vw} (ha : Acyc vs) {S : Nat → Prop} (hS : ∀ i, i < vs.length → S i → ∀ c, c ∈ kids (getV vs i) → S c) : ∀ {i x : Nat}, i < vs.length → S i → reach vs i x = true → S x := by
  intro i
  induction i using Nat.strongRecOn with
  | _ i ih =>
    intro x hi hs h
    rcases (reach_iff ha hi).1 h with rfl | ⟨d, hd, h'⟩
    · exact hs
    · have := ha i hi d hd
      exact ih d this (by omega) (hS i hi hs d hd) h'

theorem mem_pastL {vs : List Vw} {l : List Nat} {x : Nat} : x ∈ pastL vs l ↔ x < vs.length ∧ ∃ c, c ∈ l ∧ reach vs c x = true := by
  simp [pastL]
end Go.Proofs.YtdfnmapmnmecnaaDoor

/- Ranges over functions, over any program: what an iterator promises that reads some blocks and hands out a known list; the law at the statement, in the plain walk's form; a function's return behind such statements. No program in sight. -/
namespace Go.Proofs.YtdfnmapmnmecnaaDoor
open Go.RowKit Go.Shelf

/-- The blocks that K names lie as they lay; no block has gone. -/
structure KeepB (K : Nat → Prop) (W W' : World) : Prop where
  size : W.heap.size ≤ W'.heap.size
  same : ∀ k, K k → k < W.heap.size → W'.heap[k]? = W.heap[k]?

theorem KeepB.refl (K : Nat → Prop) (W : World) : KeepB K W W := ⟨Nat.le_refl _, fun _ _ _ => rfl⟩
theorem KeepB.trans {K : Nat → Prop} {A B C : World} (h : KeepB K A B) (k : KeepB K B C) : KeepB K A C :=
  ⟨Nat.le_trans h.size k.size, fun i hi hl => (k.same i hi (Nat.lt_of_lt_of_le hl h.size)).trans (h.same i hi hl)⟩
theorem KeepB.drew (K : Nat → Prop) (W : World) : KeepB K W W.drew := ⟨Nat.le_refl _, fun _ _ _ => rfl⟩
theorem KeepB.drewN (K : Nat → Prop) (W : World) (n : Nat) : KeepB K W (W.drewN n) := ⟨Nat.le_refl _, fun _ _ _ => rfl⟩
theorem KeepB.alloc (K : Nat → Prop) (W : World) (o : Obj) : KeepB K W (W.alloc o) := ⟨by simp, fun k _ hk => Below.heap_alloc W o k hk⟩
theorem KeepB.setCell {K : Nat → Prop} {W : World} {a : Addr} (h : ¬ K a.block) (v : Value) : KeepB K W (W.setCell a v) :=
  ⟨by simp [World.setCell], fun k hk _ => Below.heap_setCell W a v k (fun e => h (e ▸ hk))⟩
theorem KeepB.of_below {K : Nat → Prop} {W W' : World} {B : Nat} (h : Below B W W') (hK : ∀ k, K k → k < B) : KeepB K W W' :=
  ⟨h.size, fun k hk _ => h.block k (hK k hk)⟩
theorem KeepB.of_grown {K : Nat → Prop} {W W' : World} {row : Option Nat} (h : W.grownBy W' row) (hK : ∀ k, row = some k → ¬ K k) : KeepB K W W' :=
  ⟨h.size, fun k hk hl => h.block k hl (fun e => hK k e.symm hk)⟩
theorem KeepB.mono {K K' : Nat → Prop} {W W' : World} (h : KeepB K W W') (hK : ∀ k, K' k → K k) : KeepB K' W W' := ⟨h.size, fun k hk => h.same k (hK k hk)⟩

theorem KeepB.putObj {K : Nat → Prop} {W : World} {l : Nat} (h : ¬ K l) (o : Obj) : KeepB K W (W.putObj l o) :=
  ⟨by simp, fun k hk _ => World.putObj_heap_other (fun e => h (e ▸ hk))⟩

/-- An iterator value (function g with what it has captured) that hands out the list xs, whatever the rounds do that keep the blocks that K names. -/
def Iter {β : Type} (P : Program) (g : Nat) (lb : Array Value) (encs : β → Array Value) (K : Nat → Prop) (xs : List β) (w : World) : Prop :=
  ∀ n, 1 ≤ n → SeqStopsK Fence.wide n P g lb (fun x : { x : β // x ∈ xs } => encs x.1) (KeepB K) (fun ys => ys.map (·.1) = xs) (fun pre => pre.map (·.1) <+: xs) xs.length w

section
variable {P : Program}

/-- The law at the statement 'for .. := range seq', for the plain walk. -/
theorem wp_range {β : Type} {g : Operand} {ps : Array Tmp} {assign body : Code} {Q : Exit → Act → World → Prop} {a : Act} {w : World}
    {gf : Nat} {lb : Array Value} (hg : a.eval g = .func (.func gf) #[] lb) (eg : Enters P gf)
    {encs : β → Array Value} {K : Nat → Prop} {xs : List β} (hseq : Iter P gf lb encs K xs w) (hK : ∀ k, K k → k < w.heap.size) (hps : ∀ x, (encs x).size = ps.size)
    (I : List { x : β // x ∈ xs } → World → Prop) (Ix : Code → List { x : β // x ∈ xs } → World → Prop) (hI : OwnFrom w.heap.size I) (hIx : ∀ c, OwnFrom w.heap.size (Ix c)) (h0 : I [] w) (a₁ : { x : β // x ∈ xs } → Act)
    (hassign : ∀ (l : Nat) (x : { x : β // x ∈ xs }) (W : World) (K : Act → World → Prop), K (a₁ x) W →
      assign.wpIn (Fence.wide.inRound l) 7 P (Exit.then K (fun _ _ _ => False)) { tmps := (ps.zip (encs x.1)).foldl (fun t (p, v) => t.setIfInBounds p v) a.tmps, defers := [] } W)
    (hbody : ∀ (l : Nat) (pre : List { x : β // x ∈ xs }) (x : { x : β // x ∈ xs }) (W : World), I pre W → pre.length < xs.length → body.wpIn (Fence.wide.inRound l) 7 P (ownPostG w.heap.size (KeepB K) I Ix (pre ++ [x]) W) (a₁ x) W)
    (hdone : ∀ (D : Nat) (ys : List { x : β // x ∈ xs }) (W : World), w.heap.size ≤ D → ys.map (·.1) = xs → I ys W → W.heap[D]? = some (.deferred (some [])) → Q .normal { a with defers := { target := .collected D, args := #[] } :: a.defers } W)
    (hstop : ∀ (D : Nat) (c : Code) (pre : List { x : β // x ∈ xs }) (W : World), w.heap.size ≤ D → pre.map (·.1) <+: xs → Ix c pre W → W.heap[D]? = some (.deferred (some [])) → c.wp P Q { a with defers := { target := .collected D, args := #[] } :: a.defers } W) :
    (Code.rangeFunc g ps assign body).wp P Q a w :=
  (wpIn_wide (n := 9)).1 (wpIn_rangeFunc_ownG (F := Fence.wide) (n := 9) rfl (by omega) hg trivial eg (hseq 8 (by omega)) KeepB.trans
    (fun W l o o' hl _ _ _ => KeepB.putObj (fun hk => by have := hK l hk; omega) o') (Below.refl _ _) (fun x => hps x.1) I Ix hI hIx h0 a₁ hassign hbody hdone
    (fun D c pre W hD hS hc hk => wpIn_wide.2 (hstop D c pre W hD hS hc hk)))

/-- The marks that ranges over functions leave among an activation's deferred calls: blocks from B on, each of its own. -/
def Marks (B : Nat) (ds : List Deferred) (w : World) : Prop :=
  ∃ rs : List Nat, ds = rs.map (fun r => { target := .collected r, args := #[] }) ∧ rs.Nodup ∧ ∀ r ∈ rs, B ≤ r ∧ w.heap[r]? = some (.deferred (some []))

theorem Marks.nil (B : Nat) (w : World) : Marks B [] w := ⟨[], rfl, List.nodup_nil, fun _ h => by cases h⟩

/-- What shutting the marks' blocks leaves: all else, and every block of cells. -/
structure Shut (B : Nat) (w w' : World) : Prop where
  below : Below B w w'
  same : ∀ (k : Nat) (o : Obj), w.heap[k]? = some o → o.isCells = true → w'.heap[k]? = some o

theorem Shut.refl (B : Nat) (w : World) : Shut B w w := ⟨Below.refl _ _, fun _ _ h _ => h⟩
theorem Shut.own {B : Nat} {w w' : World} (h : Shut B w w') {base : Nat} {e : TypeId} {size : Nat} {v : Value} {k : Nat} {xs : List Value} (hr : w.ownsRow base e size v k xs) : w'.ownsRow base e size v k xs := by
  refine ⟨hr.1, ?_⟩
  rcases hr.2 with hn | ⟨g, cap, cur, hv, hb, hg, rest⟩
  · exact .inl hn
  · exact .inr ⟨g, cap, cur, hv, hb, h.same g _ hg rfl, rest⟩
theorem Shut.cell {B : Nat} {w w' : World} (h : Shut B w w') {a : Addr} {v : Value} (hc : w.cell? a = some v) : w'.cell? a = some v := by
  obtain ⟨o, ho, hcells⟩ := cells_of_cell hc
  rw [World.cell?_of_block ((h.same _ _ ho hcells).trans ho.symm)]
  exact hc

theorem leaves_marks {fn : Func} {tmps : Array Value} {R : Ending → World → Prop} {B n : Nat} {v : Value} (hres : ∀ W, (results fn tmps).run P W = .ok v W) :
    ∀ (rs : List Nat) (w : World), rs.Nodup → (∀ r ∈ rs, B ≤ r ∧ w.heap[r]? = some (.deferred (some []))) → (∀ W, Shut B w W → R (.returned v) W) →
      LeavesInM Fence.wide n P fn tmps R (rs.map (fun r => { target := .collected r, args := #[] })) .returning w
  | [], w, _, _, hR => ⟨v, hres w, hR w (Shut.refl _ _)⟩
  | r :: rs, w, hn, hm, hR => by
    obtain ⟨hr, hn'⟩ := List.nodup_cons.1 hn
    obtain ⟨hB, hk⟩ := hm r (by simp)
    refine ⟨by simp, .inl ⟨r, _, rfl, run_takeDeferred hk, ?_⟩⟩
    refine leaves_marks hres rs _ hn' (fun r' hr' => ⟨(hm r' (by simp [hr'])).1, ?_⟩) (fun W hW => hR W ?_)
    · rw [World.putObj_heap_other (by rintro rfl; exact hr hr')]
      exact (hm r' (by simp [hr'])).2
    · refine ⟨((Below.refl B w).grown (grownBy_putObj' w r (.deferred none)) (by have := (Array.getElem?_eq_some_iff.1 hk).1; omega) (fun k e => by cases e; exact hB)).trans hW.below, fun k o ho hc => ?_⟩
      refine hW.same k o ?_ hc
      by_cases e : k = r
      · subst e; rw [hk] at ho; cases ho; cases hc
      · exact (World.putObj_heap_other e).trans ho

/-- A function's contract from its body, where the body may hold ranges over functions. -/
theorem calls_of_marks {f : FuncId} {fn : Func} {c : Code} {args : Array Value} {w : World} {R : Ending → World → Prop}
    (hf : P.funcs[f]? = some fn) (hb : fn.body = some c)
    (h : c.wp P (bodyPostM Fence.wide 9 P fn R) { tmps := args ++ Array.replicate (fn.ntmps - args.size) undef, defers := [] } w) : Calls P f args w R :=
  (callsIn_wide (n := 9)).1 (callsIn_of_wp_marks hf hb trivial (wpIn_wide.2 h))

theorem ret_marks {fn : Func} {R : Ending → World → Prop} {a : Act} {w : World} {B : Nat} {v : Value} (hm : Marks B a.defers w) (hres : ∀ W, (results fn a.tmps).run P W = .ok v W)
    (hR : ∀ W, Shut B w W → R (.returned v) W) : bodyPostM Fence.wide 9 P fn R .ret a w := by
  obtain ⟨rs, hd, hn, hk⟩ := hm
  show LeavesInM Fence.wide 9 P fn a.tmps R a.defers .returning w
  rw [hd]
  exact leaves_marks hres rs w hn hk hR
theorem end_marks {fn : Func} {R : Ending → World → Prop} {a : Act} {w : World} {B : Nat} {v : Value} (hm : Marks B a.defers w) (hres : ∀ W, (results fn a.tmps).run P W = .ok v W)
    (hR : ∀ W, Shut B w W → R (.returned v) W) : bodyPostM Fence.wide 9 P fn R .normal a w := by
  obtain ⟨rs, hd, hn, hk⟩ := hm
  show LeavesInM Fence.wide 9 P fn a.tmps R a.defers .returning w
  rw [hd]
  exact leaves_marks hres rs w hn hk hR

/-- One mark more. -/
theorem Marks.cons {B D : Nat} {ds : List Deferred} {w w' : World} (h : Marks B ds w) (hs : ∀ (k : Nat), w.heap[k]? = some (Obj.deferred (some [])) → w'.heap[k]? = some (Obj.deferred (some [])))
    (hB : B ≤ w.heap.size) (hD : w.heap.size ≤ D) (hk : w'.heap[D]? = some (.deferred (some []))) : Marks B ({ target := .collected D, args := #[] } :: ds) w' := by
  obtain ⟨rs, rfl, hn, hr⟩ := h
  refine ⟨D :: rs, rfl, List.nodup_cons.2 ⟨fun hD' => ?_, hn⟩, fun r hr' => ?_⟩
  · have := (Array.getElem?_eq_some_iff.1 (hr D hD').2).1; omega
  · rcases List.mem_cons.1 hr' with rfl | hr'
    · exact ⟨by omega, hk⟩
    · exact ⟨(hr r hr').1, hs r (hr r hr').2⟩

end
end Go.Proofs.YtdfnmapmnmecnaaDoor

/- Appending integers to a slice of the call's own, in the walk's form, plain and inside a round. -/
namespace Go.Proofs.YtdfnmapmnmecnaaDoor
open Go.RowKit

/-- The slice v owns the integers xs, in blocks from base on. -/
def Own (w : World) (base : Nat) (v : Value) (xs : List Int) : Prop := w.ownsRow base 3 1 v xs.length (xs.map (Value.int .i64))

theorem Own.nil (w : World) (base : Nat) : Own w base (.slice none 0 0) [] := World.ownsRow_nil w base _ 1
theorem Own.drewN {w : World} {base : Nat} {v : Value} {xs : List Int} (h : Own w base v xs) (n : Nat) : Own (w.drewN n) base v xs := h
theorem Own.drew {w : World} {base : Nat} {v : Value} {xs : List Int} (h : Own w base v xs) : Own w.drew base v xs := h
theorem Own.kept {w w' : World} {base : Nat} {v : Value} {xs : List Int} {row : Option Nat} (h : Own w base v xs) (hg : w.grownBy w' row) (hne : v.ownBlock = none ∨ v.ownBlock ≠ row) : Own w' base v xs := World.ownsRow.kept h hg hne
theorem Own.alloc {w : World} {base : Nat} {v : Value} {xs : List Int} (h : Own w base v xs) (o : Obj) : Own (w.alloc o) base v xs := World.ownsRow.alloc h o
theorem Own.below {w w' : World} {base B : Nat} {v : Value} {xs : List Int} (h : Own w base v xs) (hb : Below B w w') (hB : w.heap.size ≤ B) : Own w' base v xs :=
  World.ownsRow.kept (row := none) h ⟨hb.os, hb.tape, hb.output, hb.size, fun k hk _ => hb.block k (by omega)⟩ (by cases v.ownBlock <;> simp)
theorem Own.shut {w w' : World} {base B : Nat} {v : Value} {xs : List Int} (h : Own w base v xs) (hs : Shut B w w') : Own w' base v xs := hs.own h
/-- What an owned slice looks like. -/
theorem Own.form {w : World} {base : Nat} {v : Value} {xs : List Int} (h : Own w base v xs) : ∃ A cap, v = .slice A xs.length cap ∧ xs.length ≤ cap ∧ cap ≤ maxLen ∧ IAt w w.heap.size A xs := by
  rcases h.2 with ⟨rfl, h0⟩ | ⟨g, cap, cur, rfl, _, _, hle, hcm, _⟩
  · have : xs = [] := List.eq_nil_of_length_eq_zero h0
    subst this
    exact ⟨none, 0, rfl, Nat.le_refl _, Nat.zero_le _, IAt.nil _ _ _⟩
  · exact ⟨_, _, rfl, hle, hcm, IAt.of_own h⟩
theorem Own.low {w : World} {base base' : Nat} {v : Value} {xs : List Int} (h : Own w base v xs) (hb : base' ≤ base) : Own w base' v xs := by
  refine ⟨h.1, ?_⟩
  rcases h.2 with h2 | ⟨g, cap, cur, hv, hg, r⟩
  · exact Or.inl h2
  · exact Or.inr ⟨g, cap, cur, hv, by omega, r⟩
theorem Own.lt {w : World} {base : Nat} {v : Value} {xs : List Int} (h : Own w base v xs) : ∀ k, v.ownBlock = some k → base ≤ k ∧ k < w.heap.size := World.ownsRow.lt h

theorem info_int : (Tryd.prog.info? 3).map (fun i => (i.zero, i.size, i.bytes)) = some (some (.int .i64 0), 1, 8) := by kernel_rfl

theorem grown_of_alloc {w w' : World} {o : Obj} {row : Option Nat} (h : (w.alloc o).grownBy w' row) : w.grownBy w' row :=
  ⟨h.os, h.tape, h.output, Nat.le_trans (by simp) h.size, fun k hk hne => (h.block k (by simp; omega) hne).trans (Below.heap_alloc w o k hk)⟩

theorem wpList_app1 {ops : Array Oper} {rest : List Oper} {o : Oper} {a : Act} {Q : Exit → Act → World → Prop} {W : World} (hgd : o.guard = none) (s x : Operand)
    (hop : o.op = .call { callee := .builtin .append, args := #[s, x], argTypes := #[37, 37] }) (base : Nat) (v : Value) (xs : List Int) (u : Int) (hs : a.eval s = v) (hown : Own W base v xs)
    (hx : a.eval x = .slice (some ⟨W.heap.size, 0, none⟩) 1 1) (hlen : xs.length < 8796093022208) (hb : base ≤ W.heap.size)
    (h : ∀ v' w1, Own w1 base v' (xs ++ [u]) → W.grownBy w1 v.ownBlock → Below base W w1 → wpList Tryd.prog ops Q rest (a.put o.dst v') w1) :
    wpList Tryd.prog ops Q (o :: rest) a (W.alloc (.cells #[.int .i64 u] 3)) := by
  obtain ⟨i0, hi, hz0, hz1, hz2⟩ := info_parts info_int
  refine wpList_append_own _ hgd s x 37 hop base 3 i0 (.int .i64 0) 1 8 Tryd.underlying37 hi hz0 hz1 hz2 rfl (by decide) v xs.length _ hs (World.ownsRow.alloc hown _) ⟨W.heap.size, 0, none⟩ 1 1 [.int .i64 u] hx rfl (cell_one_new _ _ _)
    (by simp [Value.oneCell']) (by unfold maxLen; omega) (by omega) (by simp; omega) ?_
  intro v' w1 hown1 hgrow _
  have hg := grown_of_alloc hgrow
  refine h v' w1 ?_ hg ((Below.refl base W).grown hg hb fun k hk => (hown.lt k hk).1)
  unfold Own
  rw [List.length_append, List.map_append]
  exact hown1

/-- The same, at a step of a region that draws its order. -/
theorem step_app1 {ops : Array Oper} {o : Oper} {a : Act} {K : Act → World → Prop} {Q : Exit → Act → World → Prop} {E : Prop} {W : World} (hgd : o.guard = none) (s x : Operand)
    (hop : o.op = .call { callee := .builtin .append, args := #[s, x], argTypes := #[37, 37] }) (base : Nat) (v : Value) (xs : List Int) (u : Int) (hs : a.eval s = v) (hown : Own W base v xs)
    (hx : a.eval x = .slice (some ⟨W.heap.size, 0, none⟩) 1 1) (hlen : xs.length < 8796093022208) (hb : base ≤ W.heap.size)
    (h : ∀ v' w1, Own w1 base v' (xs ++ [u]) → W.grownBy w1 v.ownBlock → Below base W w1 → K (a.put o.dst v') w1) :
    if Region.wanted o (yielded ops a.tmps) = true then Oper.wp Tryd.prog o a ((W.alloc (.cells #[.int .i64 u] 3)).drew) K Q else E := by
  have hw : Region.wanted o (yielded ops a.tmps) = true := by simp [Region.wanted, hgd]
  rw [if_pos hw]
  obtain ⟨i0, hi, hz0, hz1, hz2⟩ := info_parts info_int
  refine wp_append_own _ s x 37 hop base 3 i0 (.int .i64 0) 1 8 Tryd.underlying37 hi hz0 hz1 hz2 rfl (by decide) v xs.length _ hs (show ((W.alloc (.cells #[.int .i64 u] 3)).drew).ownsRow _ _ _ _ _ _ from World.ownsRow.alloc hown _) ⟨W.heap.size, 0, none⟩ 1 1 [.int .i64 u] hx rfl (fun j u hj => cell_one_new _ _ _ j u hj)
    (by simp [Value.oneCell']) (by unfold maxLen; omega) (by omega) (by simp; omega) ?_
  intro v' w1 hown1 hgrow _
  have hgrow' : (W.alloc (.cells #[.int .i64 u] 3)).grownBy w1 v.ownBlock := ⟨hgrow.os, hgrow.tape, hgrow.output, hgrow.size, hgrow.block⟩
  have hg := grown_of_alloc hgrow'
  refine h v' w1 ?_ hg ((Below.refl base W).grown hg hb fun k hk => (hown.lt k hk).1)
  unfold Own
  rw [List.length_append, List.map_append]
  exact hown1

/-- The same, at a step of a region that draws its order. -/
theorem step_app1n {ops : Array Oper} {o : Oper} {a : Act} {K : Act → World → Prop} {Q : Exit → Act → World → Prop} {E : Prop} {W : World} (hgd : o.guard = none) (s x : Operand)
    (hop : o.op = .call { callee := .builtin .append, args := #[s, x], argTypes := #[37, 37] }) (base : Nat) (v : Value) (xs : List Int) (u : Int) (hs : a.eval s = v) (hown : Own W base v xs)
    (hx : a.eval x = .slice (some ⟨W.heap.size, 0, none⟩) 1 1) (hlen : xs.length < 8796093022208) (hb : base ≤ W.heap.size)
    (h : ∀ v' w1, Own w1 base v' (xs ++ [u]) → W.grownBy w1 v.ownBlock → Below base W w1 → K (a.put o.dst v') w1) :
    if Region.wanted o (yielded ops a.tmps) = true then Oper.wp Tryd.prog o a (W.alloc (.cells #[.int .i64 u] 3)) K Q else E := by
  have hw : Region.wanted o (yielded ops a.tmps) = true := by simp [Region.wanted, hgd]
  rw [if_pos hw]
  obtain ⟨i0, hi, hz0, hz1, hz2⟩ := info_parts info_int
  refine wp_append_own _ s x 37 hop base 3 i0 (.int .i64 0) 1 8 Tryd.underlying37 hi hz0 hz1 hz2 rfl (by decide) v xs.length _ hs (World.ownsRow.alloc hown _) ⟨W.heap.size, 0, none⟩ 1 1 [.int .i64 u] hx rfl (cell_one_new _ _ _)
    (by simp [Value.oneCell']) (by unfold maxLen; omega) (by omega) (by simp; omega) ?_
  intro v' w1 hown1 hgrow _
  have hg := grown_of_alloc hgrow
  refine h v' w1 ?_ hg ((Below.refl base W).grown hg hb fun k hk => (hown.lt k hk).1)
  unfold Own
  rw [List.length_append, List.map_append]
  exact hown1

theorem wpListIn_app1 {F : Fence} {n : Nat} {ops : Array Oper} {rest : List Oper} {o : Oper} {a : Act} {Q : Exit → Act → World → Prop} {W : World} (hgd : o.guard = none) (s x : Operand)
    (hop : o.op = .call { callee := .builtin .append, args := #[s, x], argTypes := #[37, 37] }) (base : Nat) (v : Value) (xs : List Int) (u : Int) (hs : a.eval s = v) (hown : Own W base v xs)
    (hx : a.eval x = .slice (some ⟨W.heap.size, 0, none⟩) 1 1) (hlen : xs.length < 8796093022208) (hb : base ≤ W.heap.size)
    (h : ∀ v' w1, Own w1 base v' (xs ++ [u]) → W.grownBy w1 v.ownBlock → Below base W w1 → wpListIn F n Tryd.prog ops Q rest (a.put o.dst v') w1) :
    wpListIn F n Tryd.prog ops Q (o :: rest) a (W.alloc (.cells #[.int .i64 u] 3)) := by
  obtain ⟨i0, hi, hz0, hz1, hz2⟩ := info_parts info_int
  refine wpListIn_append_own _ hgd s x 37 hop base 3 i0 (.int .i64 0) 1 8 Tryd.underlying37 hi hz0 hz1 hz2 rfl (by decide) v xs.length _ hs (World.ownsRow.alloc hown _) ⟨W.heap.size, 0, none⟩ 1 1 [.int .i64 u] hx rfl (cell_one_new _ _ _)
    (by simp [Value.oneCell']) (by unfold maxLen; omega) (by omega) (by simp; omega) ?_
  intro v' w1 hown1 hgrow _
  have hg := grown_of_alloc hgrow
  refine h v' w1 ?_ hg ((Below.refl base W).grown hg hb fun k hk => (hown.lt k hk).1)
  unfold Own
  rw [List.length_append, List.map_append]
  exact hown1

/-- 'xs[1:]', without parting on the capacity. -/
theorem cut_one (A : Option Addr) (n cap : Nat) (hn : n + 1 ≤ cap) (_hm : cap ≤ maxLen) : ∃ A', (∀ X : World, (Instr.slice 37 (.slice A (n + 1) cap) (some (.int .i64 1)) none none).run Tryd.prog X = .ok (.slice A' n (cap - 1)) X) ∧
    ∀ (w : World) (B : Nat) (u : Int) (xs : List Int), xs.length = n → IAt w B A (u :: xs) → IAt w B A' xs := by
  refine ⟨if cap = 1 then A else A.map (·.add 1), fun X => ?_, fun w B u xs hl h h0 => ?_⟩
  · have hu : Tryd.prog.underlying 37 = some (.slice 3) := Tryd.underlying37
    have hs : (sizeOf 3).run Tryd.prog X = .ok 1 X := by kernel_rfl
    simp [Instr.slice, Instr.sliceBounds, run_underlying hu, go_sem]
    exact fun h => absurd h (by omega)
  · obtain ⟨b, off, rfl, hb, hc⟩ := h (by simp)
    have : cap ≠ 1 := by omega
    refine ⟨b, off + 1, by simp [this, Addr.add], hb, fun i hi => ?_⟩
    have := hc (i + 1) (by simp; omega)
    simpa [Nat.add_assoc, Nat.add_comm 1 i] using this

theorem IAt.up {w w' : World} {A : Option Addr} {xs : List Int} (h : IAt w w.heap.size A xs) (hb : Below w.heap.size w w') : IAt w' w'.heap.size A xs := (h.keep hb).more hb.size
theorem IAt.box (w : World) (x : Int) (t : TypeId) : IAt (w.alloc (.cells #[.int .i64 x] t)) (w.alloc (.cells #[.int .i64 x] t)).heap.size (some ⟨w.heap.size, 0, none⟩) [x] := fun _ =>
  ⟨w.heap.size, 0, rfl, by simp, fun i hi => by
    have : i = 0 := by simp at hi; omega
    subst this
    exact blk_cell (blk_new w _) 0 rfl⟩
/-- What a later call leaves, said from the beginning. -/
theorem own_push {w W w2 : World} {v : Value} {xs : List Int} (ho : Own w2 W.heap.size v xs) (hb : Below W.heap.size W w2) (h : Below w.heap.size w W) : Own w2 w.heap.size v xs ∧ Below w.heap.size w w2 :=
  ⟨ho.low h.size, h.trans (hb.mono h.size)⟩

/-- A call that returns a slice of integers of its own. -/
def RetInts (xs : List Int) (w : World) (e : Ending) (w' : World) : Prop := ∃ v, e = .returned v ∧ Own w' w.heap.size v xs ∧ Below w.heap.size w w'
end Go.Proofs.YtdfnmapmnmecnaaDoor

/- ref22.consistent. -/
namespace Go.Proofs.YtdfnmapmnmecnaaDoor
open Go.RowKit

/-- Pairs before (i, k): none clashes. -/
def noClash (vs : List Vw) (l : List Nat) (i k : Nat) : Prop := ∀ a b, b < a → a < l.length → (a < i ∨ (a = i ∧ b < k)) → clash vs (l.getD b 0) (l.getD a 0) = false

theorem consB_iff {vs : List Vw} : ∀ {l : List Nat}, consB vs l = true ↔ ∀ a b, b < a → a < l.length → clash vs (l.getD b 0) (l.getD a 0) = false
  | [] => by simp [consB]
  | x :: l => by
    have ih := consB_iff (vs := vs) (l := l)
    simp only [consB, Bool.and_eq_true, List.all_eq_true, Bool.not_eq_true', ih]
    constructor
    · rintro ⟨h1, h2⟩ a b hb ha
      cases a with
      | zero => omega
      | succ a =>
        simp at ha
        cases b with
        | zero =>
          simp only [List.getD_cons_zero, List.getD_cons_succ]
          refine h1 _ ?_
          rw [List.getD_eq_getElem?_getD, List.getElem?_eq_getElem ha]
          exact List.getElem_mem ha
        | succ b =>
          simp only [List.getD_cons_succ]
          exact h2 a b (by omega) ha
    · intro h
      refine ⟨fun y hy => ?_, fun a b hb ha => ?_⟩
      · obtain ⟨j, hj, rfl⟩ := List.mem_iff_getElem.1 hy
        have := h (j + 1) 0 (by omega) (by simp; omega)
        simpa [hj] using this
      · have := h (a + 1) (b + 1) (by omega) (by simp; omega)
        simpa using this

theorem noClash_step {vs : List Vw} {l : List Nat} {i k : Nat} (h : noClash vs l i k) (hc : clash vs (l.getD k 0) (l.getD i 0) = false) : noClash vs l i (k + 1) := fun a b h1 h2 h3 => by
  by_cases e : a = i ∧ b = k
  · obtain ⟨rfl, rfl⟩ := e; exact hc
  · exact h a b h1 h2 (by omega)
theorem noClash_row {vs : List Vw} {l : List Nat} {i : Nat} (h : noClash vs l i i) : noClash vs l (i + 1) 0 := fun a b h1 h2 h3 => h a b h1 h2 (by omega)

set_option maxRecDepth 100000 in
set_option maxHeartbeats 4000000 in
theorem consistent_any (n : Int) (A L : Option Addr) (cap lc : Nat) (vs : List Vw) (l : List Nat) (w : World) (B : Nat) (hB : B ≤ w.heap.size) (hA : VAt w B A vs) (hL : IAt w B L (l.map (fun k : Nat => (k : Int)))) (hlt : ∀ x, x ∈ l → x < vs.length) (_hv : vs.length ≤ 100000) (hl : l.length ≤ 1000000) :
    Calls Tryd.prog 67 #[.agg #[.int .i64 n, .slice A vs.length cap], .slice L l.length lc] w fun e w' => e = .returned (.bool (consB vs l)) ∧ Below w.heap.size w w' := by
  go_enter Tryd.func67, Tryd.ntmps67
  go_wp2
  refine wp_one ?_
  intro W0 b0 hsz hB0
  have hA0 := Lib.hid (hA.keep (hB0.mono hB))
  have hL0 := Lib.hid (hL.keep (hB0.mono hB))
  clear hA hL
  go_loopw [5] (fun i wr => ∃ k : Nat, k ≤ l.length ∧ i = .int .i64 k ∧ Hid (noClash vs l k 0) ∧ Below W0.heap.size W0 wr) (fun i _ => l.length - (intOf i).toNat)
  case atStart => exact ⟨0, by omega, rfl, fun a b h1 h2 h3 => by omega, Below.refl _ _⟩
  case round =>
    obtain ⟨i, hi, rfl, hno, hbl⟩ := hrel
    have d0 := blk_below b0 hbl (by omega)
    have t1 := blk_cell d0 1 rfl
    by_cases hil : i < l.length
    · go_wp2
      go_loopw [6] (fun j ws => ∃ k : Nat, k ≤ i ∧ j = .int .i64 k ∧ Hid (noClash vs l i k) ∧ Below W0.heap.size W0 ws) (fun j _ => i - (intOf j).toNat)
      case atStart => exact ⟨0, by omega, rfl, hno, hbl⟩
      case round =>
        clear t1 d0 hbl hno
        obtain ⟨k, hk, rfl, hno, hbl⟩ := hrel
        have d0 := blk_below b0 hbl (by omega)
        have t1 := blk_cell d0 1 rfl
        by_cases hki : k < i
        · have hx : l.getD i 0 < vs.length := by
            rw [List.getD_eq_getElem?_getD, List.getElem?_eq_getElem hil]; exact hlt _ (List.getElem_mem hil)
          have hy : l.getD k 0 < vs.length := by
            rw [List.getD_eq_getElem?_getD, List.getElem?_eq_getElem (by omega)]; exact hlt _ (List.getElem_mem (by omega))
          obtain ⟨bl, ol, rfl, hb1, li⟩ := (hL0.out.keep (hbl.mono (by omega))).at_ i (by simpa using hil)
          obtain ⟨bl', ol', e', _, lk⟩ := (hL0.out.keep (hbl.mono (by omega))).at_ k (by simp; omega)
          cases e'
          simp only [List.getElem_map] at li lk
          obtain ⟨x, hxe⟩ : ∃ x, x = l.getD i 0 := ⟨_, rfl⟩
          obtain ⟨y, hye⟩ : ∃ y, y = l.getD k 0 := ⟨_, rfl⟩
          have hxi : l[i] = x := by rw [hxe]; simp [hil]
          have hyi : l[k] = y := by rw [hye]; simp [show k < l.length from by omega]
          rw [hxi] at li
          rw [hyi] at lk
          rw [← hxe] at hx
          rw [← hye] at hy
          have hAr := hA0.out.keep (hbl.mono (by omega))
          obtain ⟨b, off, rfl, hb2, c0, c1, c2, c3, c4, c5, c6, c7⟩ := hAr.row x hx
          obtain ⟨b', off', e', _, f0, f1, f2, f3, f4, f5, f6, f7⟩ := hAr.row y hy
          cases e'
          have HX := Lib.hid hxe
          have HY := Lib.hid hye
          clear hxe hye hxi hyi hAr
          have hbw : bl < wr.heap.size := by have := hbl.size; omega
          have hbw2 : b < wr.heap.size := by have := hbl.size; omega
          have hbw3 : w.heap.size < wr.heap.size := by have := hbl.size; omega
          have hs0 : (0 : Int) ≤ (x : Int) := by omega
          have hs1 : (x : Int) < (vs.length : Int) := by omega
          have hs2 : (0 : Int) ≤ (y : Int) := by omega
          have hs3 : (y : Int) < (vs.length : Int) := by omega
          have hk0 : (0 : Int) ≤ (k : Int) := by omega
          have hk1 : (k : Int) < (l.length : Int) := by omega
          have hi0 : (0 : Int) ≤ (i : Int) := by omega
          have hi1 : (i : Int) < (l.length : Int) := by omega
          go_upto_region 7 with fail
          go_cut [7, 8] (fun s7 s8 wx => ∃ g g' : Nat, s7 = .pointer (some ⟨g, 0, none⟩) ∧ s8 = .pointer (some ⟨g', 0, none⟩) ∧ wx.cell? ⟨g, 0, none⟩ = some (.int .i64 vs[x].p) ∧ wx.cell? ⟨g, 1, none⟩ = some (.int .i64 vs[x].r) ∧
            wx.cell? ⟨g', 0, none⟩ = some (.int .i64 vs[y].p) ∧ wx.cell? ⟨g', 1, none⟩ = some (.int .i64 vs[y].r) ∧ Below wr.heap.size wr wx)
          case first =>
            go_region
            all_goals
              go_wp2_with fail
              go_meet
            · exact ⟨wr.heap.size, wr.heap.size + 1, rfl, rfl, by simp [go_sem], by simp [go_sem], by simp [go_sem], by simp [go_sem], belN (bel2 wr _ _) 1⟩
            · exact ⟨wr.heap.size + 1, wr.heap.size, rfl, rfl, by simp [go_sem], by simp [go_sem], by simp [go_sem], by simp [go_sem], belN (bel2 wr _ _) 1⟩
          case rest =>
            clear c0 c1 c2 c3 c4 c5 c6 c7 f0 f1 f2 f3 f4 f5 f6 f7 li lk t1 d0
            obtain ⟨g, g', rfl, rfl, x0, x1, y0, y1, hbx⟩ := hcut
            have hbz := hbl.trans (hbx.mono hbl.size)
            have HZ := Lib.hid hbz
            have hcl : clash vs (l.getD k 0) (l.getD i 0) = decide (vs[y].p = vs[x].p ∧ vs[y].r = vs[x].r) := by
              rw [← HX.out, ← HY.out]; unfold clash; rw [getV_eq hx, getV_eq hy]
            by_cases hp : vs[x].p = vs[y].p
            · have e1 : (vs[x].p == vs[y].p) = true := by simp [hp]
              by_cases hr : vs[x].r = vs[y].r
              · have e2 : (vs[x].r == vs[y].r) = true := by simp [hr]
                have hz : Hid (consB vs l = false) := by
                  show consB vs l = false
                  rw [Bool.eq_false_iff]
                  intro h
                  have := consB_iff.1 h i k hki hil
                  rw [hcl, hp, hr] at this
                  simp at this
                clear hp hr hcl hbz hbx hno
                go_wp2
                go_ret
                exact ⟨ret_bool hz.out.symm, hB0.trans (HZ.out.mono (by omega))⟩
              · have e2 : (vs[x].r == vs[y].r) = false := by simp [hr]
                have hz : Hid (noClash vs l i (k + 1)) := noClash_step hno.out (by rw [hcl]; simp; intro _ h; exact hr h.symm)
                clear hp hr hcl hbz hbx hno
                go_wp2
                go_roundw
                case rel => exact ⟨k + 1, by omega, by go_num, hz, HZ.out⟩
                case measure => simp [intOf]; omega
            · have e1 : (vs[x].p == vs[y].p) = false := by simp [hp]
              have hz : Hid (noClash vs l i (k + 1)) := noClash_step hno.out (by rw [hcl]; simp; intro h; exact absurd h.symm hp)
              clear hp hcl hbz hbx hno
              go_wp2
              go_roundw
              case rel => exact ⟨k + 1, by omega, by go_num, hz, HZ.out⟩
              case measure => simp [intOf]; omega
        · obtain rfl : k = i := by omega
          go_wp2
          go_roundw
          case rel => exact ⟨k + 1, by omega, by go_num, noClash_row hno.out, hbl⟩
          case measure => simp [intOf]; omega
    · obtain rfl : i = l.length := by omega
      have hz : Hid (consB vs l = true) := consB_iff.2 fun a b h1 h2 => hno.out a b h1 h2 (.inl h2)
      go_wp2
      go_ret
      exact ⟨ret_bool hz.out.symm, hB0.trans (hbl.mono (by omega))⟩
end Go.Proofs.YtdfnmapmnmecnaaDoor
