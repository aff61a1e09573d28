/- Ranges over functions, over any program: what an iterator promises that reads some blocks and hands out a known list; the law at the statement, in the plain walk's form; a function's return behind such statements. No program in sight. -/
import Derived.RangeFuncNested
import Derived.RangeFuncBound
import Derived.RangeFuncCalls
import Derived.RangeFuncLeaves
import Derived.Shelf.Abstract
import Derived.Shelf.RegionOpen
import Derived.WalkKit
import Derived.OwnWalkIn
import Derived.TacticsInMore
import Derived.LoopNIn
import Derived.LoopIn
namespace Go.Proofs.YtppklecmlkicaaaDoor
open Go.RowKit Go.Shelf

/-- The blocks that K names lie as they lay; no block has gone. -/
structure KeepB (K : Nat → Prop) (W W' : World) : Prop where
  size : W.heap.size ≤ W'.heap.size
  same : ∀ k, K k → k < W.heap.size → W'.heap[k]? = W.heap[k]?

theorem KeepB.refl (K : Nat → Prop) (W : World) : KeepB K W W := ⟨Nat.le_refl _, fun _ _ _ => rfl⟩
theorem KeepB.trans {K : Nat → Prop} {A B C : World} (h : KeepB K A B) (k : KeepB K B C) : KeepB K A C :=
  ⟨Nat.le_trans h.size k.size, fun i hi hl => (k.same i hi (Nat.lt_of_lt_of_le hl h.size)).trans (h.same i hi hl)⟩
theorem KeepB.drew (K : Nat → Prop) (W : World) : KeepB K W W.drew := ⟨Nat.le_refl _, fun _ _ _ => rfl⟩
theorem KeepB.drewN (K : Nat → Prop) (W : World) (n : Nat) : KeepB K W (W.drewN n) := ⟨Nat.le_refl _, fun _ _ _ => rfl⟩
theorem KeepB.alloc (K : Nat → Prop) (W : World) (o : Obj) : KeepB K W (W.alloc o) := ⟨by simp, fun k _ hk => Below.heap_alloc W o k hk⟩
theorem KeepB.setCell {K : Nat → Prop} {W : World} {a : Addr} (h : ¬ K a.block) (v : Value) : KeepB K W (W.setCell a v) :=
  ⟨by simp [World.setCell], fun k hk _ => Below.heap_setCell W a v k (fun e => h (e ▸ hk))⟩
theorem KeepB.of_below {K : Nat → Prop} {W W' : World} {B : Nat} (h : Below B W W') (hK : ∀ k, K k → k < B) : KeepB K W W' :=
  ⟨h.size, fun k hk _ => h.block k (hK k hk)⟩
theorem KeepB.of_grown {K : Nat → Prop} {W W' : World} {row : Option Nat} (h : W.grownBy W' row) (hK : ∀ k, row = some k → ¬ K k) : KeepB K W W' :=
  ⟨h.size, fun k hk hl => h.block k hl (fun e => hK k e.symm hk)⟩
theorem KeepB.mono {K K' : Nat → Prop} {W W' : World} (h : KeepB K W W') (hK : ∀ k, K' k → K k) : KeepB K' W W' := ⟨h.size, fun k hk => h.same k (hK k hk)⟩

theorem KeepB.putObj {K : Nat → Prop} {W : World} {l : Nat} (h : ¬ K l) (o : Obj) : KeepB K W (W.putObj l o) :=
  ⟨by simp, fun k hk _ => World.putObj_heap_other (fun e => h (e ▸ hk))⟩

/-- An iterator value (function g with what it has captured) that hands out the list xs, whatever the rounds do that keep the blocks that K names. -/
def Iter {β : Type} (P : Program) (g : Nat) (lb : Array Value) (encs : β → Array Value) (K : Nat → Prop) (xs : List β) (w : World) : Prop :=
  ∀ n, 1 ≤ n → SeqStopsK Fence.wide n P g lb (fun x : { x : β // x ∈ xs } => encs x.1) (KeepB K) (fun ys => ys.map (·.1) = xs) (fun pre => pre.map (·.1) <+: xs) xs.length w

section
variable {P : Program}

/-- The law at the statement 'for .. := range seq', for the plain walk. -/
theorem wp_range {β : Type} {g : Operand} {ps : Array Tmp} {assign body : Code} {Q : Exit → Act → World → Prop} {a : Act} {w : World}
    {gf : Nat} {lb : Array Value} (hg : a.eval g = .func (.func gf) #[] lb) (eg : Enters P gf)
    {encs : β → Array Value} {K : Nat → Prop} {xs : List β} (hseq : Iter P gf lb encs K xs w) (hK : ∀ k, K k → k < w.heap.size) (hps : ∀ x, (encs x).size = ps.size)
    (I : List { x : β // x ∈ xs } → World → Prop) (Ix : Code → List { x : β // x ∈ xs } → World → Prop) (hI : OwnFrom w.heap.size I) (hIx : ∀ c, OwnFrom w.heap.size (Ix c)) (h0 : I [] w) (a₁ : { x : β // x ∈ xs } → Act)
    (hassign : ∀ (l : Nat) (x : { x : β // x ∈ xs }) (W : World) (K : Act → World → Prop), K (a₁ x) W →
      assign.wpIn (Fence.wide.inRound l) 7 P (Exit.then K (fun _ _ _ => False)) { tmps := (ps.zip (encs x.1)).foldl (fun t (p, v) => t.setIfInBounds p v) a.tmps, defers := [] } W)
    (hbody : ∀ (l : Nat) (pre : List { x : β // x ∈ xs }) (x : { x : β // x ∈ xs }) (W : World), I pre W → pre.length < xs.length → body.wpIn (Fence.wide.inRound l) 7 P (ownPostG w.heap.size (KeepB K) I Ix (pre ++ [x]) W) (a₁ x) W)
    (hdone : ∀ (D : Nat) (ys : List { x : β // x ∈ xs }) (W : World), w.heap.size ≤ D → ys.map (·.1) = xs → I ys W → W.heap[D]? = some (.deferred (some [])) → Q .normal { a with defers := { target := .collected D, args := #[] } :: a.defers } W)
    (hstop : ∀ (D : Nat) (c : Code) (pre : List { x : β // x ∈ xs }) (W : World), w.heap.size ≤ D → pre.map (·.1) <+: xs → Ix c pre W → W.heap[D]? = some (.deferred (some [])) → c.wp P Q { a with defers := { target := .collected D, args := #[] } :: a.defers } W) :
    (Code.rangeFunc g ps assign body).wp P Q a w :=
  (wpIn_wide (n := 9)).1 (wpIn_rangeFunc_ownG (F := Fence.wide) (n := 9) rfl (by omega) hg trivial eg (hseq 8 (by omega)) KeepB.trans
    (fun W l o o' hl _ _ _ => KeepB.putObj (fun hk => by have := hK l hk; omega) o') (Below.refl _ _) (fun x => hps x.1) I Ix hI hIx h0 a₁ hassign hbody hdone
    (fun D c pre W hD hS hc hk => wpIn_wide.2 (hstop D c pre W hD hS hc hk)))

/-- The marks that ranges over functions leave among an activation's deferred calls: blocks from B on, each of its own. -/
def Marks (B : Nat) (ds : List Deferred) (w : World) : Prop :=
  ∃ rs : List Nat, ds = rs.map (fun r => { target := .collected r, args := #[] }) ∧ rs.Nodup ∧ ∀ r ∈ rs, B ≤ r ∧ w.heap[r]? = some (.deferred (some []))

theorem Marks.nil (B : Nat) (w : World) : Marks B [] w := ⟨[], rfl, List.nodup_nil, fun _ h => by cases h⟩

/-- What shutting the marks' blocks leaves: all else, and every block of cells. -/
structure Shut (B : Nat) (w w' : World) : Prop where
  below : Below B w w'
  same : ∀ (k : Nat) (o : Obj), w.heap[k]? = some o → o.isCells = true → w'.heap[k]? = some o

theorem Shut.refl (B : Nat) (w : World) : Shut B w w := ⟨Below.refl _ _, fun _ _ h _ => h⟩
theorem Shut.own {B : Nat} {w w' : World} (h : Shut B w w') {base : Nat} {e : TypeId} {size : Nat} {v : Value} {k : Nat} {xs : List Value} (hr : w.ownsRow base e size v k xs) : w'.ownsRow base e size v k xs := by
  refine ⟨hr.1, ?_⟩
  rcases hr.2 with hn | ⟨g, cap, cur, hv, hb, hg, rest⟩
  · exact .inl hn
  · exact .inr ⟨g, cap, cur, hv, hb, h.same g _ hg rfl, rest⟩
theorem Shut.cell {B : Nat} {w w' : World} (h : Shut B w w') {a : Addr} {v : Value} (hc : w.cell? a = some v) : w'.cell? a = some v := by
  obtain ⟨o, ho, hcells⟩ := cells_of_cell hc
  rw [World.cell?_of_block ((h.same _ _ ho hcells).trans ho.symm)]
  exact hc

theorem leaves_marks {fn : Func} {tmps : Array Value} {R : Ending → World → Prop} {B n : Nat} {v : Value} (hres : ∀ W, (results fn tmps).run P W = .ok v W) :
    ∀ (rs : List Nat) (w : World), rs.Nodup → (∀ r ∈ rs, B ≤ r ∧ w.heap[r]? = some (.deferred (some []))) → (∀ W, Shut B w W → R (.returned v) W) →
      LeavesInM Fence.wide n P fn tmps R (rs.map (fun r => { target := .collected r, args := #[] })) .returning w
  | [], w, _, _, hR => ⟨v, hres w, hR w (Shut.refl _ _)⟩
  | r :: rs, w, hn, hm, hR => by
    obtain ⟨hr, hn'⟩ := List.nodup_cons.1 hn
    obtain ⟨hB, hk⟩ := hm r (by simp)
    refine ⟨by simp, .inl ⟨r, _, rfl, run_takeDeferred hk, ?_⟩⟩
    refine leaves_marks hres rs _ hn' (fun r' hr' => ⟨(hm r' (by simp [hr'])).1, ?_⟩) (fun W hW => hR W ?_)
    · rw [World.putObj_heap_other (by rintro rfl; exact hr hr')]
      exact (hm r' (by simp [hr'])).2
    · refine ⟨((Below.refl B w).grown (grownBy_putObj' w r (.deferred none)) (by have := (Array.getElem?_eq_some_iff.1 hk).1; omega) (fun k e => by cases e; exact hB)).trans hW.below, fun k o ho hc => ?_⟩
      refine hW.same k o ?_ hc
      by_cases e : k = r
      · subst e; rw [hk] at ho; cases ho; cases hc
      · exact (World.putObj_heap_other e).trans ho

/-- A function's contract from its body, where the body may hold ranges over functions. -/
theorem calls_of_marks {f : FuncId} {fn : Func} {c : Code} {args : Array Value} {w : World} {R : Ending → World → Prop}
    (hf : P.funcs[f]? = some fn) (hb : fn.body = some c)
    (h : c.wp P (bodyPostM Fence.wide 9 P fn R) { tmps := args ++ Array.replicate (fn.ntmps - args.size) undef, defers := [] } w) : Calls P f args w R :=
  (callsIn_wide (n := 9)).1 (callsIn_of_wp_marks hf hb trivial (wpIn_wide.2 h))

theorem ret_marks {fn : Func} {R : Ending → World → Prop} {a : Act} {w : World} {B : Nat} {v : Value} (hm : Marks B a.defers w) (hres : ∀ W, (results fn a.tmps).run P W = .ok v W)
    (hR : ∀ W, Shut B w W → R (.returned v) W) : bodyPostM Fence.wide 9 P fn R .ret a w := by
  obtain ⟨rs, hd, hn, hk⟩ := hm
  show LeavesInM Fence.wide 9 P fn a.tmps R a.defers .returning w
  rw [hd]
  exact leaves_marks hres rs w hn hk hR
theorem end_marks {fn : Func} {R : Ending → World → Prop} {a : Act} {w : World} {B : Nat} {v : Value} (hm : Marks B a.defers w) (hres : ∀ W, (results fn a.tmps).run P W = .ok v W)
    (hR : ∀ W, Shut B w W → R (.returned v) W) : bodyPostM Fence.wide 9 P fn R .normal a w := by
  obtain ⟨rs, hd, hn, hk⟩ := hm
  show LeavesInM Fence.wide 9 P fn a.tmps R a.defers .returning w
  rw [hd]
  exact leaves_marks hres rs w hn hk hR

/-- One mark more. -/
theorem Marks.cons {B D : Nat} {ds : List Deferred} {w w' : World} (h : Marks B ds w) (hs : ∀ (k : Nat), w.heap[k]? = some (Obj.deferred (some [])) → w'.heap[k]? = some (Obj.deferred (some [])))
    (hB : B ≤ w.heap.size) (hD : w.heap.size ≤ D) (hk : w'.heap[D]? = some (.deferred (some []))) : Marks B ({ target := .collected D, args := #[] } :: ds) w' := by
  obtain ⟨rs, rfl, hn, hr⟩ := h
  refine ⟨D :: rs, rfl, List.nodup_cons.2 ⟨fun hD' => ?_, hn⟩, fun r hr' => ?_⟩
  · have := (Array.getElem?_eq_some_iff.1 (hr D hD').2).1; omega
  · rcases List.mem_cons.1 hr' with rfl | hr'
    · exact ⟨by omega, hk⟩
    · exact ⟨(hr r hr').1, hs r (hr r hr').2⟩

end
end Go.Proofs.YtppklecmlkicaaaDoor
