/- Parts BtB EqL EqF NumR NumR3 FewQ Ver Fin BtC RBld RVer Hav Rel CmnS OpenC OpenK LabP BfsP NbrP RfP. -/
import Derived.Test.YtdkmpccfnnpnbaaGreatKd
import Derived.Test.YtdkmpccfnnpnbaaGreatKc
import Derived.Test.YtdkmpccfnnpnbaaGreatProg
import Derived.Test.YtdkmpccfnnpnbaaGreatKa
import Derived.Test.YtdkmpccfnnpnbaaGreatKb
import Derived.StillTailTactics
import Derived.Deep.RegionHeld3
import Derived.Deep.QuietTactic
import Derived.BigQuiet
import Derived.Laws.MakeOwn
import Derived.ChangeArms

namespace Go.Proofs.YtdkmpccfnnpnbaaGreat
set_option maxHeartbeats 8000000
section
open Go.RowKit Go.Shelf
def stQ (vs : List Vw) (N : Nat) (inp : List Int) (word : List Rd) : Nat → List Vw × List (List Int)
 | 0 => (vs, [])
 | k + 1 => zl vs N inp word k
def fQ (inp : List Int) (word : List Rd) (views : List (List Int)) : Nat → Nat → Vw
 | 0 => f0 inp
 | k + 1 => fk word k (views.getD k [])
theorem stQ_succ (vs : List Vw) (N : Nat) (inp : List Int) (word : List Rd) (k : Nat) :
  stQ vs N inp word (k + 1) = ((zV (fQ inp word (stQ vs N inp word k).2 k) (stQ vs N inp word k).1 N).1, (stQ vs N inp word k).2 ++ [(zV (fQ inp word (stQ vs N inp word k).2 k) (stQ vs N inp word k).1 N).2]) := by
 cases k <;> rfl
theorem stQ_len (vs : List Vw) (N : Nat) (inp : List Int) (word : List Rd) (k : Nat) : (stQ vs N inp word k).2.length = k := by
 cases k
 · rfl
 · exact yg _ _ _ _ _
theorem Je (vs : List Vw) (N : Nat) (inp : List Int) (word : List Rd) (k : Nat) : (stQ vs N inp word k).1.length ≤ vs.length + k * N := by
 cases k
 · simp [stQ]
 · exact kd _ _ _ _ _
theorem stQ_row (vs : List Vw) (N : Nat) (inp : List Int) (word : List Rd) (k j : Nat) (hj : j < (stQ vs N inp word k).2.length) : ((stQ vs N inp word k).2[j]).length = N := by
 cases k with
 | zero => exact absurd hj (by simp [stQ])
 | succ k => exact qz _ _ _ _ k _ (List.getElem_mem hj)
def pcs (words : List (List Rd)) (c : Nat) : List (Nat × List Rd) := (List.range c).flatMap fun i => words.map fun w => (i, w)
theorem Xh (words : List (List Rd)) (c : Nat) : pcs words (c + 1) = pcs words c ++ words.map fun w => (c, w) := by
 unfold pcs; rw [List.range_succ, List.flatMap_append]; simp
theorem Yg (p : Pb) : zn p = pcs (zy p.a p.k.toNat 0) p.t.cases.length := rfl
def pcw (words : List (List Rd)) (c j : Nat) : List (Nat × List Rd) := pcs words c ++ (words.take j).map fun w => (c, w)
theorem Xg (words : List (List Rd)) (c : Nat) : pcw words c 0 = pcs words c := by simp [pcw]
theorem pcw_succ (words : List (List Rd)) (c j : Nat) (hj : j < words.length) : pcw words c (j + 1) = pcw words c j ++ [(c, words[j])] := by
 unfold pcw; rw [List.take_succ_eq_append_getElem hj, List.map_append, List.map_singleton, List.append_assoc]
theorem pcw_end (words : List (List Rd)) (c : Nat) : pcw words c words.length = pcs words (c + 1) := by
 unfold pcw; rw [List.take_length, Xh]
theorem wi (words : List (List Rd)) : ∀ c, (pcs words c).length = c * words.length
 | 0 => by simp [pcs]
 | c + 1 => by rw [Xh, List.length_append, wi words c, List.length_map, Nat.add_mul]; omega
theorem Jp (words : List (List Rd)) (c j : Nat) (hj : j ≤ words.length) : (pcw words c j).length = c * words.length + j := by
 unfold pcw; rw [List.length_append, wi, List.length_map, List.length_take, Nat.min_eq_left hj]
theorem pcw_mem (words : List (List Rd)) (c j : Nat) : ∀ x ∈ pcw words c j, x.2 ∈ words := fun x hx => by
 unfold pcw at hx
 rcases List.mem_append.1 hx with hx | hx
 · unfold pcs at hx
   obtain ⟨_, _, hx⟩ := List.mem_flatMap.1 hx
   obtain ⟨_, h, rfl⟩ := List.mem_map.1 hx
   exact h
 · obtain ⟨_, h, rfl⟩ := List.mem_map.1 hx
   exact List.mem_of_mem_take h
theorem ZB (p : Pb) (words : List (List Rd)) (hn : p.t.n.toNat ≤ 5) (hw : ∀ w ∈ words, w.length ≤ 6) (c j : Nat) (hj : j ≤ words.length) (h60 : c * words.length + j ≤ 60) : (zu p (pcw words c j)).1.length ≤ 2100 ∧ (zu p (pcw words c j)).2.length = c * words.length + j := by
 have h1 := wS p hn (pcw words c j) fun x hx => hw _ (pcw_mem words c j x hx)
 rw [Jp words c j hj] at h1
 refine ⟨by omega, ?_⟩
 rw [xE, Jp words c j hj]
theorem wR (p : Pb) (words : List (List Rd)) (hn : p.t.n.toNat ≤ 5) (hw : ∀ w ∈ words, w.length ≤ 6) (c : Nat) (h60 : c * words.length ≤ 60) : (zu p (pcs words c)).1.length ≤ 2100 := by
 have := (ZB p words hn hw c 0 (Nat.zero_le _) (by omega)).1
 rwa [Xg] at this
theorem put_out {n : Int} {AV : Option Addr} {kv : Nat} {vs : List Vw} {v : Vw} {W w' : World} {e : Ending} {D : Nat} (h : RetPut n AV kv vs v W e w') (hO : OwnV W D (.slice AV vs.length kv) vs) (hD : D ≤ W.heap.size) :
  ∃ A3 k3, e = .returned (.tuple #[.agg #[.int .i64 n, .slice A3 (xV vs v).1.length k3], .int .i64 (xV vs v).2]) ∧ OwnV w' D (.slice A3 (xV vs v).1.length k3) (xV vs v).1 ∧
   (∀ k, (Value.slice A3 (xV vs v).1.length k3).ownBlock = some k → (Value.slice AV vs.length kv).ownBlock = some k ∨ W.heap.size ≤ k) ∧ Below W.heap.size W w' := by
 obtain ⟨hb, h1, h2⟩ := h
 by_cases hm : v ∈ vs
 · rw [Xb hm]
   exact ⟨AV, kv, h1 hm, hO.of_same fun k hk => hb.block k (hO.lt' k hk).2, fun k hk => .inl hk, hb⟩
 · rw [Jl hm]
   obtain ⟨A3, k3, e3, ho⟩ := h2 hm
   have hl : (vs ++ [v]).length = vs.length + 1 := by simp
   dsimp only
   rw [hl]
   exact ⟨A3, k3, e3, ho.low hD, fun k hk => .inr (ho.lt' k hk).1, hb⟩
theorem qI {w X : World} {g B : Nat} {a0 a1 a2 a3 a4 a5 a6 a7 a8 a9 : Value} (v0 v1 v2 v3 v4 v5 v6 v7 v8 v9 : Value) (hg : X.heap[g]? = some (.cells #[a0, a1, a2, a3, a4, a5, a6, a7, a8, a9] 35 (0, 0))) (hB : Below B w X) (h1 : B ≤ g) :
  ((((((((((X.setCell ⟨g, 0, none⟩ v0).setCell ⟨g, 1, none⟩ v1).setCell ⟨g, 2, none⟩ v2).setCell ⟨g, 3, none⟩ v3).setCell ⟨g, 4, none⟩ v4).setCell ⟨g, 5, none⟩ v5).setCell ⟨g, 6, none⟩ v6).setCell ⟨g, 7, none⟩ v7).setCell ⟨g, 8, none⟩ v8).setCell ⟨g, 9, none⟩ v9).heap[g]? = some (.cells #[v0, v1, v2, v3, v4, v5, v6, v7, v8, v9] 35 (0, 0)) ∧ Below B w ((((((((((X.setCell ⟨g, 0, none⟩ v0).setCell ⟨g, 1, none⟩ v1).setCell ⟨g, 2, none⟩ v2).setCell ⟨g, 3, none⟩ v3).setCell ⟨g, 4, none⟩ v4).setCell ⟨g, 5, none⟩ v5).setCell ⟨g, 6, none⟩ v6).setCell ⟨g, 7, none⟩ v7).setCell ⟨g, 8, none⟩ v8).setCell ⟨g, 9, none⟩ v9) ∧ Below g X ((((((((((X.setCell ⟨g, 0, none⟩ v0).setCell ⟨g, 1, none⟩ v1).setCell ⟨g, 2, none⟩ v2).setCell ⟨g, 3, none⟩ v3).setCell ⟨g, 4, none⟩ v4).setCell ⟨g, 5, none⟩ v5).setCell ⟨g, 6, none⟩ v6).setCell ⟨g, 7, none⟩ v7).setCell ⟨g, 8, none⟩ v8).setCell ⟨g, 9, none⟩ v9) ∧ (∀ k, k ≠ g → ((((((((((X.setCell ⟨g, 0, none⟩ v0).setCell ⟨g, 1, none⟩ v1).setCell ⟨g, 2, none⟩ v2).setCell ⟨g, 3, none⟩ v3).setCell ⟨g, 4, none⟩ v4).setCell ⟨g, 5, none⟩ v5).setCell ⟨g, 6, none⟩ v6).setCell ⟨g, 7, none⟩ v7).setCell ⟨g, 8, none⟩ v8).setCell ⟨g, 9, none⟩ v9).heap[k]? = X.heap[k]?) ∧ ((((((((((X.setCell ⟨g, 0, none⟩ v0).setCell ⟨g, 1, none⟩ v1).setCell ⟨g, 2, none⟩ v2).setCell ⟨g, 3, none⟩ v3).setCell ⟨g, 4, none⟩ v4).setCell ⟨g, 5, none⟩ v5).setCell ⟨g, 6, none⟩ v6).setCell ⟨g, 7, none⟩ v7).setCell ⟨g, 8, none⟩ v8).setCell ⟨g, 9, none⟩ v9).heap.size = X.heap.size := by
 have k0 : (X.setCell ⟨g, 0, none⟩ v0).heap[g]? = some (.cells #[v0, a1, a2, a3, a4, a5, a6, a7, a8, a9] 35 (0, 0)) := heap_setCell_same _ g 0 _ _ v0 hg
 have k1 : ((X.setCell ⟨g, 0, none⟩ v0).setCell ⟨g, 1, none⟩ v1).heap[g]? = some (.cells #[v0, v1, a2, a3, a4, a5, a6, a7, a8, a9] 35 (0, 0)) := heap_setCell_same _ g 1 _ _ v1 k0
 have k2 : (((X.setCell ⟨g, 0, none⟩ v0).setCell ⟨g, 1, none⟩ v1).setCell ⟨g, 2, none⟩ v2).heap[g]? = some (.cells #[v0, v1, v2, a3, a4, a5, a6, a7, a8, a9] 35 (0, 0)) := heap_setCell_same _ g 2 _ _ v2 k1
 have k3 : ((((X.setCell ⟨g, 0, none⟩ v0).setCell ⟨g, 1, none⟩ v1).setCell ⟨g, 2, none⟩ v2).setCell ⟨g, 3, none⟩ v3).heap[g]? = some (.cells #[v0, v1, v2, v3, a4, a5, a6, a7, a8, a9] 35 (0, 0)) := heap_setCell_same _ g 3 _ _ v3 k2
 have k4 : (((((X.setCell ⟨g, 0, none⟩ v0).setCell ⟨g, 1, none⟩ v1).setCell ⟨g, 2, none⟩ v2).setCell ⟨g, 3, none⟩ v3).setCell ⟨g, 4, none⟩ v4).heap[g]? = some (.cells #[v0, v1, v2, v3, v4, a5, a6, a7, a8, a9] 35 (0, 0)) := heap_setCell_same _ g 4 _ _ v4 k3
 have k5 : ((((((X.setCell ⟨g, 0, none⟩ v0).setCell ⟨g, 1, none⟩ v1).setCell ⟨g, 2, none⟩ v2).setCell ⟨g, 3, none⟩ v3).setCell ⟨g, 4, none⟩ v4).setCell ⟨g, 5, none⟩ v5).heap[g]? = some (.cells #[v0, v1, v2, v3, v4, v5, a6, a7, a8, a9] 35 (0, 0)) := heap_setCell_same _ g 5 _ _ v5 k4
 have k6 : (((((((X.setCell ⟨g, 0, none⟩ v0).setCell ⟨g, 1, none⟩ v1).setCell ⟨g, 2, none⟩ v2).setCell ⟨g, 3, none⟩ v3).setCell ⟨g, 4, none⟩ v4).setCell ⟨g, 5, none⟩ v5).setCell ⟨g, 6, none⟩ v6).heap[g]? = some (.cells #[v0, v1, v2, v3, v4, v5, v6, a7, a8, a9] 35 (0, 0)) := heap_setCell_same _ g 6 _ _ v6 k5
 have k7 : ((((((((X.setCell ⟨g, 0, none⟩ v0).setCell ⟨g, 1, none⟩ v1).setCell ⟨g, 2, none⟩ v2).setCell ⟨g, 3, none⟩ v3).setCell ⟨g, 4, none⟩ v4).setCell ⟨g, 5, none⟩ v5).setCell ⟨g, 6, none⟩ v6).setCell ⟨g, 7, none⟩ v7).heap[g]? = some (.cells #[v0, v1, v2, v3, v4, v5, v6, v7, a8, a9] 35 (0, 0)) := heap_setCell_same _ g 7 _ _ v7 k6
 have k8 : (((((((((X.setCell ⟨g, 0, none⟩ v0).setCell ⟨g, 1, none⟩ v1).setCell ⟨g, 2, none⟩ v2).setCell ⟨g, 3, none⟩ v3).setCell ⟨g, 4, none⟩ v4).setCell ⟨g, 5, none⟩ v5).setCell ⟨g, 6, none⟩ v6).setCell ⟨g, 7, none⟩ v7).setCell ⟨g, 8, none⟩ v8).heap[g]? = some (.cells #[v0, v1, v2, v3, v4, v5, v6, v7, v8, a9] 35 (0, 0)) := heap_setCell_same _ g 8 _ _ v8 k7
 have k9 : ((((((((((X.setCell ⟨g, 0, none⟩ v0).setCell ⟨g, 1, none⟩ v1).setCell ⟨g, 2, none⟩ v2).setCell ⟨g, 3, none⟩ v3).setCell ⟨g, 4, none⟩ v4).setCell ⟨g, 5, none⟩ v5).setCell ⟨g, 6, none⟩ v6).setCell ⟨g, 7, none⟩ v7).setCell ⟨g, 8, none⟩ v8).setCell ⟨g, 9, none⟩ v9).heap[g]? = some (.cells #[v0, v1, v2, v3, v4, v5, v6, v7, v8, v9] 35 (0, 0)) := heap_setCell_same _ g 9 _ _ v9 k8
 refine ⟨k9, ?_, ?_, fun k hk => ?_, by simp⟩
 · refine Below.setCell (p := ⟨g, 9, none⟩) ?_ h1 _
   refine Below.setCell (p := ⟨g, 8, none⟩) ?_ h1 _
   refine Below.setCell (p := ⟨g, 7, none⟩) ?_ h1 _
   refine Below.setCell (p := ⟨g, 6, none⟩) ?_ h1 _
   refine Below.setCell (p := ⟨g, 5, none⟩) ?_ h1 _
   refine Below.setCell (p := ⟨g, 4, none⟩) ?_ h1 _
   refine Below.setCell (p := ⟨g, 3, none⟩) ?_ h1 _
   refine Below.setCell (p := ⟨g, 2, none⟩) ?_ h1 _
   refine Below.setCell (p := ⟨g, 1, none⟩) ?_ h1 _
   refine Below.setCell (p := ⟨g, 0, none⟩) ?_ h1 _
   exact hB
 · refine Below.setCell (p := ⟨g, 9, none⟩) ?_ (Nat.le_refl _) _
   refine Below.setCell (p := ⟨g, 8, none⟩) ?_ (Nat.le_refl _) _
   refine Below.setCell (p := ⟨g, 7, none⟩) ?_ (Nat.le_refl _) _
   refine Below.setCell (p := ⟨g, 6, none⟩) ?_ (Nat.le_refl _) _
   refine Below.setCell (p := ⟨g, 5, none⟩) ?_ (Nat.le_refl _) _
   refine Below.setCell (p := ⟨g, 4, none⟩) ?_ (Nat.le_refl _) _
   refine Below.setCell (p := ⟨g, 3, none⟩) ?_ (Nat.le_refl _) _
   refine Below.setCell (p := ⟨g, 2, none⟩) ?_ (Nat.le_refl _) _
   refine Below.setCell (p := ⟨g, 1, none⟩) ?_ (Nat.le_refl _) _
   refine Below.setCell (p := ⟨g, 0, none⟩) ?_ (Nat.le_refl _) _
   exact Below.refl _ _
 · exact ((Below.heap_setCell _ ⟨g, 9, none⟩ v9 k hk).trans ((Below.heap_setCell _ ⟨g, 8, none⟩ v8 k hk).trans ((Below.heap_setCell _ ⟨g, 7, none⟩ v7 k hk).trans ((Below.heap_setCell _ ⟨g, 6, none⟩ v6 k hk).trans ((Below.heap_setCell _ ⟨g, 5, none⟩ v5 k hk).trans ((Below.heap_setCell _ ⟨g, 4, none⟩ v4 k hk).trans ((Below.heap_setCell _ ⟨g, 3, none⟩ v3 k hk).trans ((Below.heap_setCell _ ⟨g, 2, none⟩ v2 k hk).trans ((Below.heap_setCell _ ⟨g, 1, none⟩ v1 k hk).trans (Below.heap_setCell _ ⟨g, 0, none⟩ v0 k hk))))))))))
theorem JT {w X : World} {g B : Nat} {a0 a1 a2 a3 a4 a5 a6 a7 : Value} (v : Vw) (hg : X.heap[g]? = some (.cells #[a0, a1, a2, a3, a4, a5, a6, a7] 224 (0, 0))) (hB : Below B w X) (h1 : B ≤ g) :
  ((((((((X.setCell ⟨g, 0, none⟩ (.int .i64 v.p)).setCell ⟨g, 1, none⟩ (.int .i64 v.r)).setCell ⟨g, 2, none⟩ (.int .i64 v.i)).setCell ⟨g, 3, none⟩ (.int .i64 v.h0)).setCell ⟨g, 4, none⟩ (.int .i64 v.h1)).setCell ⟨g, 5, none⟩ (.int .i64 v.h2)).setCell ⟨g, 6, none⟩ (.int .i64 v.h3)).setCell ⟨g, 7, none⟩ (.int .i64 v.h4)).heap[g]? = some (.cells v.cells 224 (0, 0)) ∧ Below B w ((((((((X.setCell ⟨g, 0, none⟩ (.int .i64 v.p)).setCell ⟨g, 1, none⟩ (.int .i64 v.r)).setCell ⟨g, 2, none⟩ (.int .i64 v.i)).setCell ⟨g, 3, none⟩ (.int .i64 v.h0)).setCell ⟨g, 4, none⟩ (.int .i64 v.h1)).setCell ⟨g, 5, none⟩ (.int .i64 v.h2)).setCell ⟨g, 6, none⟩ (.int .i64 v.h3)).setCell ⟨g, 7, none⟩ (.int .i64 v.h4)) := by
 have k0 : (X.setCell ⟨g, 0, none⟩ (.int .i64 v.p)).heap[g]? = some (.cells #[.int .i64 v.p, a1, a2, a3, a4, a5, a6, a7] 224 (0, 0)) := heap_setCell_same _ g 0 _ _ _ hg
 have k1 : ((X.setCell ⟨g, 0, none⟩ (.int .i64 v.p)).setCell ⟨g, 1, none⟩ (.int .i64 v.r)).heap[g]? = some (.cells #[.int .i64 v.p, .int .i64 v.r, a2, a3, a4, a5, a6, a7] 224 (0, 0)) := heap_setCell_same _ g 1 _ _ _ k0
 have k2 : (((X.setCell ⟨g, 0, none⟩ (.int .i64 v.p)).setCell ⟨g, 1, none⟩ (.int .i64 v.r)).setCell ⟨g, 2, none⟩ (.int .i64 v.i)).heap[g]? = some (.cells #[.int .i64 v.p, .int .i64 v.r, .int .i64 v.i, a3, a4, a5, a6, a7] 224 (0, 0)) := heap_setCell_same _ g 2 _ _ _ k1
 have k3 : ((((X.setCell ⟨g, 0, none⟩ (.int .i64 v.p)).setCell ⟨g, 1, none⟩ (.int .i64 v.r)).setCell ⟨g, 2, none⟩ (.int .i64 v.i)).setCell ⟨g, 3, none⟩ (.int .i64 v.h0)).heap[g]? = some (.cells #[.int .i64 v.p, .int .i64 v.r, .int .i64 v.i, .int .i64 v.h0, a4, a5, a6, a7] 224 (0, 0)) := heap_setCell_same _ g 3 _ _ _ k2
 have k4 : (((((X.setCell ⟨g, 0, none⟩ (.int .i64 v.p)).setCell ⟨g, 1, none⟩ (.int .i64 v.r)).setCell ⟨g, 2, none⟩ (.int .i64 v.i)).setCell ⟨g, 3, none⟩ (.int .i64 v.h0)).setCell ⟨g, 4, none⟩ (.int .i64 v.h1)).heap[g]? = some (.cells #[.int .i64 v.p, .int .i64 v.r, .int .i64 v.i, .int .i64 v.h0, .int .i64 v.h1, a5, a6, a7] 224 (0, 0)) := heap_setCell_same _ g 4 _ _ _ k3
 have k5 : ((((((X.setCell ⟨g, 0, none⟩ (.int .i64 v.p)).setCell ⟨g, 1, none⟩ (.int .i64 v.r)).setCell ⟨g, 2, none⟩ (.int .i64 v.i)).setCell ⟨g, 3, none⟩ (.int .i64 v.h0)).setCell ⟨g, 4, none⟩ (.int .i64 v.h1)).setCell ⟨g, 5, none⟩ (.int .i64 v.h2)).heap[g]? = some (.cells #[.int .i64 v.p, .int .i64 v.r, .int .i64 v.i, .int .i64 v.h0, .int .i64 v.h1, .int .i64 v.h2, a6, a7] 224 (0, 0)) := heap_setCell_same _ g 5 _ _ _ k4
 have k6 : (((((((X.setCell ⟨g, 0, none⟩ (.int .i64 v.p)).setCell ⟨g, 1, none⟩ (.int .i64 v.r)).setCell ⟨g, 2, none⟩ (.int .i64 v.i)).setCell ⟨g, 3, none⟩ (.int .i64 v.h0)).setCell ⟨g, 4, none⟩ (.int .i64 v.h1)).setCell ⟨g, 5, none⟩ (.int .i64 v.h2)).setCell ⟨g, 6, none⟩ (.int .i64 v.h3)).heap[g]? = some (.cells #[.int .i64 v.p, .int .i64 v.r, .int .i64 v.i, .int .i64 v.h0, .int .i64 v.h1, .int .i64 v.h2, .int .i64 v.h3, a7] 224 (0, 0)) := heap_setCell_same _ g 6 _ _ _ k5
 have k7 : ((((((((X.setCell ⟨g, 0, none⟩ (.int .i64 v.p)).setCell ⟨g, 1, none⟩ (.int .i64 v.r)).setCell ⟨g, 2, none⟩ (.int .i64 v.i)).setCell ⟨g, 3, none⟩ (.int .i64 v.h0)).setCell ⟨g, 4, none⟩ (.int .i64 v.h1)).setCell ⟨g, 5, none⟩ (.int .i64 v.h2)).setCell ⟨g, 6, none⟩ (.int .i64 v.h3)).setCell ⟨g, 7, none⟩ (.int .i64 v.h4)).heap[g]? = some (.cells #[.int .i64 v.p, .int .i64 v.r, .int .i64 v.i, .int .i64 v.h0, .int .i64 v.h1, .int .i64 v.h2, .int .i64 v.h3, .int .i64 v.h4] 224 (0, 0)) := heap_setCell_same _ g 7 _ _ _ k6
 refine ⟨k7, ?_⟩
 refine Below.setCell (p := ⟨g, 7, none⟩) ?_ h1 _
 refine Below.setCell (p := ⟨g, 6, none⟩) ?_ h1 _
 refine Below.setCell (p := ⟨g, 5, none⟩) ?_ h1 _
 refine Below.setCell (p := ⟨g, 4, none⟩) ?_ h1 _
 refine Below.setCell (p := ⟨g, 3, none⟩) ?_ h1 _
 refine Below.setCell (p := ⟨g, 2, none⟩) ?_ h1 _
 refine Below.setCell (p := ⟨g, 1, none⟩) ?_ h1 _
 refine Below.setCell (p := ⟨g, 0, none⟩) ?_ h1 _
 exact hB
def WdsAt (bs D : Nat) (WR : World) (AW : Option Addr) (words : List (List Rd)) : Prop := ∀ (i : Nat) (h : i < words.length), ∃ g A c, AW = some ⟨g, 0, none⟩ ∧ bs < g ∧ g < D ∧ WR.cell? ⟨g, i, none⟩ = some (.slice A words[i].length c) ∧ RAtS (fun k => bs < k ∧ k < D) WR A words[i]
theorem WdsAt.of {bs D : Nat} {w w' : World} {v : Value} {words : List (List Rd)} (h : OwnX cWd (fun b => w.heap.size ≤ b) w' w.heap.size v words) (hb : bs < w.heap.size) (hD : w'.heap.size = D) :
  ∃ AW cw, v = .slice AW words.length cw ∧ WdsAt bs D w' AW words := by
 obtain ⟨A, cap, e, _, _, h3⟩ := h.form qa
 refine ⟨A, cap, e, fun i hi => ?_⟩
 obtain ⟨g, hA, hg, hl, hc⟩ := h3 (by omega)
 obtain ⟨cs, ⟨A2, c2, e2, hR⟩, hu⟩ := hc i hi
 subst e2
 refine ⟨g, A2, c2, hA, by omega, by omega, ?_, hR.mono fun k hk hs => ⟨by have := hs.1; omega, by omega⟩⟩
 have := hu 0 _ rfl
 simpa [cWd, kWd] using this
end
section
open Go.RowKit
attribute [local go_sem] Oper.semAt_some
theorem YA (A A' : Option Addr) (cap cap' : Nat) (xs ys : List Int) (w : World) (B : Nat) (hA : IAt w B A xs) (hA' : IAt w B A' ys) (hl : xs.length ≤ 17592186044416) (hl' : ys.length ≤ 17592186044416) :
  Calls Tryz.prog 41 #[.slice A xs.length cap, .slice A' ys.length cap'] w fun e w' => e = .returned (.bool (decide (xs = ys))) ∧ ∃ n, w' = w.drewN n := by
 by_cases hll : xs.length = ys.length
 · by_cases h0 : xs.length = 0
   · have e1 : xs = [] := List.eq_nil_of_length_eq_zero h0
     have e2 : ys = [] := List.eq_nil_of_length_eq_zero (by omega)
     subst e1; subst e2
     exact (Tryz.slices_Equal_int_empty A A' cap 0 cap' w (by omega)).mono fun e w' h => ⟨by simpa using h.1, 0, h.2⟩
   · obtain ⟨b, o, rfl, hb, hc⟩ := hA (by omega)
     obtain ⟨b', o', rfl, hb', hc'⟩ := hA' (by omega)
     refine (Tryz.slices_Equal_int b o xs.length cap b' o' ys.length cap' xs ys w (Nat.le_refl _) (Nat.le_refl _) (by omega) (by omega) (fun j hj => ?_) (fun j hj => ?_)).mono fun e w' h => ⟨?_, h.2⟩
     · rw [List.getD_eq_getElem?_getD, List.getElem?_eq_getElem hj]; exact hc j hj
     · rw [List.getD_eq_getElem?_getD, List.getElem?_eq_getElem hj]; exact hc' j hj
     · rw [h.1, List.take_length, List.take_length]
       exact zj (by rw [Bool.eq_iff_iff]; simp)
 · exact (Tryz.slices_Equal_int_lens A A' xs.length cap ys.length cap' w hll).mono fun e w' h => ⟨by rw [h.1, decide_eq_false (by rintro rfl; exact hll rfl)], 0, h.2⟩
set_option maxRecDepth 100000 in
theorem eqV_any (A A' : Option Addr) (cap cap' : Nat) (vs us : List Vw) (w : World) (B : Nat) (hB : B ≤ w.heap.size) (hA : VAt w B A vs) (hA' : VAt w B A' us) (hl : vs.length ≤ 2199023255552) (hl' : us.length ≤ 2199023255552) :
  Calls Tryz.prog 140 #[.slice A vs.length cap, .slice A' us.length cap'] w fun e w' => e = .returned (.bool (decide (vs = us))) ∧ ∃ n, w' = w.drewN n := by
 have HE : Hid (∀ k (hk : k < vs.length) (hk' : k < us.length) (X : World), (binOp .neq 224 (.agg vs[k].cells) (.agg us[k].cells)).run Tryz.prog X = .ok (.bool (decide (vs[k] ≠ us[k]))) X) := fun k hk hk' X => neq_view vs[k] us[k] X
 unfold Vw.cells at HE
 by_cases hll : vs.length = us.length
 · have HL := zH hll
   have hl1 : ((vs.length : Int) != (us.length : Int)) = false := by simp [hll]
   clear hll
   go_enter Tryz.func140, Tryz.ntmps140
   go_wp2
   go_loopw [13] (fun i wr => ∃ k m : Nat, k ≤ vs.length ∧ i = .int .i64 k ∧ wr = w.drewN m ∧ Hid (vs.take k = us.take k)) (fun i _ => vs.length - (intOf i).toNat)
   case atStart => exact ⟨0, 0, by omega, rfl, rfl, by show vs.take 0 = us.take 0; simp⟩
   case round =>
    obtain ⟨k, m, hk, rfl, rfl, hall⟩ := hrel
    have hle : k ≤ us.length := by have := HL.out; omega
    by_cases hlt : k < vs.length
    · have hlt' : k < us.length := by have := HL.out; omega
      obtain ⟨b, off, rfl, hb1, c0, c1, c2, c3, c4, c5, c6, c7⟩ := hA.row k hlt
      have hb2 : b < w.heap.size := by omega
      obtain ⟨b', off', rfl, hb1', d0, d1, d2, d3, d4, d5, d6, d7⟩ := hA'.row k hlt'
      have hb2' : b' < w.heap.size := by omega
      have heq := HE.out k hlt hlt'
      clear HE hA hA'
      by_cases hv : vs[k] = us[k]
      · have heq' : ∀ X : World, _ := fun X => (heq X).trans (by rw [decide_eq_false (by simpa using hv)])
        have hz : Hid (vs.take (k + 1) = us.take (k + 1)) := ju hlt hlt' hall.out hv
        clear heq hv
        go_wp2
        go_quiet (fail)
        go_wp2
        go_roundw
        case rel => exact ⟨k + 1, _, by omega, by go_num, rfl, hz⟩
        case measure => simp [intOf]; omega
      · have heq' : ∀ X : World, _ := fun X => (heq X).trans (by rw [decide_eq_true hv])
        have hz : Hid (decide (vs = us) = false) := decide_eq_false (xX hlt hlt' hv)
        clear heq hv
        go_wp2
        go_quiet (fail)
        go_wp2
        go_ret
        exact ⟨zj hz.out.symm, _, YB _ _ _⟩
    · obtain rfl : k = vs.length := by omega
      have hz : Hid (decide (vs = us) = true) := decide_eq_true (xZ HL.out hall.out)
      go_wp2
      go_ret
      exact ⟨zj hz.out.symm, _, rfl⟩
 · have hz : Hid (decide (vs = us) = false) := decide_eq_false (by rintro rfl; exact hll rfl)
   have hl1 : ((vs.length : Int) != (us.length : Int)) = true := by simp; omega
   clear hll
   go_enter Tryz.func140, Tryz.ntmps140
   go_wp2
   go_ret
   exact ⟨zj hz.out.symm, 0, rfl⟩
set_option maxRecDepth 100000 in
theorem eqR_any (A A' : Option Addr) (cap cap' : Nat) (vs us : List Rd) (w : World) (B : Nat) (hB : B ≤ w.heap.size) (hA : RAt w B A vs) (hA' : RAt w B A' us) (hl : vs.length ≤ 17592186044416) (hl' : us.length ≤ 17592186044416) :
  Calls Tryz.prog 175 #[.slice A vs.length cap, .slice A' us.length cap'] w fun e w' => e = .returned (.bool (decide (vs = us))) ∧ ∃ n, w' = w.drewN n := by
 have HE : Hid (∀ k (hk : k < vs.length) (hk' : k < us.length) (X : World), (binOp .neq 172 (.agg vs[k].cells) (.agg us[k].cells)).run Tryz.prog X = .ok (.bool (decide (vs[k] ≠ us[k]))) X) := fun k hk hk' X => neq_round vs[k] us[k] X
 unfold Rd.cells at HE
 by_cases hll : vs.length = us.length
 · have HL := zH hll
   have hl1 : ((vs.length : Int) != (us.length : Int)) = false := by simp [hll]
   clear hll
   go_enter Tryz.func175, Tryz.ntmps175
   go_wp2
   go_loopw [13] (fun i wr => ∃ k m : Nat, k ≤ vs.length ∧ i = .int .i64 k ∧ wr = w.drewN m ∧ Hid (vs.take k = us.take k)) (fun i _ => vs.length - (intOf i).toNat)
   case atStart => exact ⟨0, 0, by omega, rfl, rfl, by show vs.take 0 = us.take 0; simp⟩
   case round =>
    obtain ⟨k, m, hk, rfl, rfl, hall⟩ := hrel
    have hle : k ≤ us.length := by have := HL.out; omega
    by_cases hlt : k < vs.length
    · have hlt' : k < us.length := by have := HL.out; omega
      obtain ⟨b, off, rfl, hb1, c0, c1, c2, c3, c4, c5, c6⟩ := hA.row k hlt
      have hb2 : b < w.heap.size := by omega
      obtain ⟨b', off', rfl, hb1', d0, d1, d2, d3, d4, d5, d6⟩ := hA'.row k hlt'
      have hb2' : b' < w.heap.size := by omega
      have heq := HE.out k hlt hlt'
      clear HE hA hA'
      by_cases hv : vs[k] = us[k]
      · have heq' : ∀ X : World, _ := fun X => (heq X).trans (by rw [decide_eq_false (by simpa using hv)])
        have hz : Hid (vs.take (k + 1) = us.take (k + 1)) := ju hlt hlt' hall.out hv
        clear heq hv
        go_wp2
        go_quiet (fail)
        go_wp2
        go_roundw
        case rel => exact ⟨k + 1, _, by omega, by go_num, rfl, hz⟩
        case measure => simp [intOf]; omega
      · have heq' : ∀ X : World, _ := fun X => (heq X).trans (by rw [decide_eq_true hv])
        have hz : Hid (decide (vs = us) = false) := decide_eq_false (xX hlt hlt' hv)
        clear heq hv
        go_wp2
        go_quiet (fail)
        go_wp2
        go_ret
        exact ⟨zj hz.out.symm, _, YB _ _ _⟩
    · obtain rfl : k = vs.length := by omega
      have hz : Hid (decide (vs = us) = true) := decide_eq_true (xZ HL.out hall.out)
      go_wp2
      go_ret
      exact ⟨zj hz.out.symm, _, rfl⟩
 · have hz : Hid (decide (vs = us) = false) := decide_eq_false (by rintro rfl; exact hll rfl)
   have hl1 : ((vs.length : Int) != (us.length : Int)) = true := by simp; omega
   clear hll
   go_enter Tryz.func175, Tryz.ntmps175
   go_wp2
   go_ret
   exact ⟨zj hz.out.symm, 0, rfl⟩
end
section
open Go.RowKit
attribute [local go_sem] Oper.semAt_some
set_option maxRecDepth 100000 in
theorem eqLL_any (A A' : Option Addr) (cap cap' : Nat) (vs us : List (List Int)) (w : World) (B : Nat) (_hB : B ≤ w.heap.size) (hA : LAt w B A vs) (hA' : LAt w B A' us) (hl : vs.length ≤ 17592186044416) (hl' : us.length ≤ 17592186044416)
  (hv : ∀ v ∈ vs, v.length ≤ 17592186044416) (hu : ∀ v ∈ us, v.length ≤ 17592186044416) :
  Calls Tryz.prog 176 #[.slice A vs.length cap, .slice A' us.length cap', .func (.func 41) #[] #[]] w fun e w' => e = .returned (.bool (decide (vs = us))) ∧ ∃ n, w' = w.drewN n := by
 have HV := zH hv
 have HU := zH hu
 clear hv hu
 by_cases hll : vs.length = us.length
 · have HL := zH hll
   have hl1 : ((vs.length : Int) != (us.length : Int)) = false := by simp [hll]
   clear hll
   go_enter Tryz.func176, Tryz.ntmps176
   go_wp2_with fail
   go_loopw [17] (fun i wr => ∃ k m : Nat, k ≤ vs.length ∧ i = .int .i64 k ∧ wr = w.drewN m ∧ Hid (vs.take k = us.take k)) (fun i _ => vs.length - (intOf i).toNat)
   case atStart => exact ⟨0, 0, by omega, rfl, rfl, by show vs.take 0 = us.take 0; simp⟩
   case round =>
    obtain ⟨k, m, hk, rfl, rfl, hall⟩ := hrel
    have hle : k ≤ us.length := by have := HL.out; omega
    by_cases hlt : k < vs.length
    · have hlt' : k < us.length := by have := HL.out; omega
      obtain ⟨b, off, A1, c1, rfl, hb1, x0, hI⟩ := hA.at_ k hlt
      obtain ⟨b', off', A2, c2, rfl, hb1', y0, hI'⟩ := hA'.at_ k hlt'
      have HC := zH (YA A1 A2 c1 c2 vs[k] us[k] (w.drewN m) B hI hI' (HV.out _ (List.getElem_mem hlt)) (HU.out _ (List.getElem_mem hlt')))
      have x1 : (w.drewN m).cell? ⟨b, off + k, none⟩ = some (.slice A1 vs[k].length c1) := x0
      have y1 : (w.drewN m).cell? ⟨b', off' + k, none⟩ = some (.slice A2 us[k].length c2) := y0
      clear hA hA' x0 y0 hI hI'
      have hk0 : (0 : Int) ≤ (k : Int) := by omega
      have hk1 : (k : Int) < (vs.length : Int) := by omega
      have hk2 : (k : Int) < (us.length : Int) := by omega
      go_wp2_with fail
      refine HC.out.mono ?_
      rintro e w' ⟨rfl, n, rfl⟩
      by_cases hv : vs[k] = us[k]
      · have hz : Hid (vs.take (k + 1) = us.take (k + 1)) := Zx hall.out hlt hlt' hv
        rw [decide_eq_true hv]
        clear hv HC x1 y1
        go_wp2_with fail
        go_roundw
        case rel => exact ⟨k + 1, _, by omega, by go_num, rfl, hz⟩
        case measure => simp [intOf]; omega
      · have hz : Hid (decide (vs = us) = false) := decide_eq_false (xX hlt hlt' hv)
        rw [decide_eq_false hv]
        clear hv HC x1 y1
        go_wp2_with fail
        go_ret
        exact ⟨zj hz.out.symm, _, rfl⟩
    · obtain rfl : k = vs.length := by omega
      have hz : Hid (decide (vs = us) = true) := decide_eq_true (xZ HL.out hall.out)
      go_wp2_with fail
      go_ret
      exact ⟨zj hz.out.symm, _, rfl⟩
 · have hz : Hid (decide (vs = us) = false) := decide_eq_false (by rintro rfl; exact hll rfl)
   have hl1 : ((vs.length : Int) != (us.length : Int)) = true := by simp; omega
   clear hll
   go_enter Tryz.func176, Tryz.ntmps176
   go_wp2_with fail
   go_ret
   exact ⟨zj hz.out.symm, 0, rfl⟩
set_option maxRecDepth 100000 in
theorem JR (x y : Exn) (hx : LowX x) (hy : LowX y) (A1 A2 B1 B2 : Option Addr) (a1 a2 b1 b2 : Nat) (w : World) (hA1 : RAt w w.heap.size A1 x.word) (hA2 : LAt w w.heap.size A2 x.views) (hB1 : RAt w w.heap.size B1 y.word) (hB2 : LAt w w.heap.size B2 y.views) :
  Calls Tryz.prog 142 #[.agg #[.int .i64 x.c, .slice A1 x.word.length a1, .slice A2 x.views.length a2], .agg #[.int .i64 y.c, .slice B1 y.word.length b1, .slice B2 y.views.length b2]] w fun e w' => e = .returned (.bool (decide (x = y))) ∧ Below w.heap.size w w' := by
 obtain ⟨w1, hw1, d0, d1, hs1, hB⟩ := yj w #[.int .i64 x.c, .slice A1 x.word.length a1, .slice A2 x.views.length a2] #[.int .i64 y.c, .slice B1 y.word.length b1, .slice B2 y.views.length b2] 94 94
 have HR := zH (eqR_any A1 B1 a1 b1 x.word y.word w1 w.heap.size (by omega) (hA1.keep hB) (hB1.keep hB) hx.1 hy.1)
 have HL := zH (fun n => eqLL_any A2 B2 a2 b2 x.views y.views (w1.drewN n) w.heap.size (by show w.heap.size ≤ w1.heap.size; omega) (hA2.keep (zU hB n)) (hB2.keep (zU hB n)) hx.2.1 hy.2.1 hx.2.2 hy.2.2)
 have HW1 := zH hw1
 have HB := zH hB
 have HD0 := zH d0
 have HD1 := zH d1
 have p0 := za d0 0 rfl
 have p1 := za d0 1 rfl
 have p2 := za d0 2 rfl
 have q0 := za d1 0 rfl
 have q1 := za d1 1 rfl
 have q2 := za d1 2 rfl
 have HE := zH (@exn_eq x y)
 have HNE : Hid (x ≠ y → decide (x = y) = false) := fun h => decide_eq_false h
 have HYE : Hid (x = y → decide (x = y) = true) := fun h => decide_eq_true h
 obtain ⟨r, hr⟩ : ∃ r, decide (x = y) = r := ⟨_, rfl⟩
 rw [hr] at HNE HYE ⊢
 clear hr hw1 d0 d1 hB hA1 hA2 hB1 hB2 hx hy
 go_enter Tryz.func142, Tryz.ntmps142
 by_cases h1 : x.c = y.c
 case neg =>
  have hR := zH (HNE.out (fun h => h1 (congrArg Exn.c h)))
  have e0 : (x.c == y.c) = false := by simpa using h1
  clear HNE HYE HE h1 HR HL
  go_wp2_with fail
  rw [HW1.out]
  go_wp2_with fail
  all_goals
   go_ret
   exact ⟨zj hR.out.symm, HB.out⟩
 case pos =>
 have e0 : (x.c == y.c) = true := by simpa using h1
 have HC := zH h1
 clear h1
 go_wp2_with fail
 rw [HW1.out]
 go_wp2_with fail
 refine HR.out.mono ?_
 rintro e w2 ⟨rfl, n, rfl⟩
 have p2 : (w1.drewN n).cell? ⟨w.heap.size, 2, none⟩ = some (.slice A2 x.views.length a2) := za HD0.out 2 rfl
 have q2 : (w1.drewN n).cell? ⟨w.heap.size + 1, 2, none⟩ = some (.slice B2 y.views.length b2) := za HD1.out 2 rfl
 by_cases h2 : x.word = y.word
 case neg =>
  have hR := zH (HNE.out (fun h => h2 (congrArg Exn.word h)))
  rw [decide_eq_false h2]
  clear HNE HYE HE h2 HR HL
  go_wp2_with fail
  all_goals
   go_ret
   exact ⟨zj hR.out.symm, zU HB.out n⟩
 case pos =>
 rw [decide_eq_true h2]
 have HW := zH h2
 clear h2
 go_wp2_with fail
 refine (HL.out n).mono ?_
 rintro e w3 ⟨rfl, m, rfl⟩
 have hR : Hid (decide (x.views = y.views) = r) := by
  by_cases h3 : x.views = y.views
  · exact (decide_eq_true h3).trans (HYE.out (HE.out HC.out HW.out h3)).symm
  · exact (decide_eq_false h3).trans (HNE.out (fun h => h3 (congrArg Exn.views h))).symm
 rw [hR.out]
 clear HNE HYE HE HR HL
 go_wp2_with fail
 all_goals
  go_ret
  exact ⟨rfl, zU HB.out _⟩
set_option maxRecDepth 100000 in
theorem eqX_any (A A' : Option Addr) (cap cap' : Nat) (vs us : List Exn) (w : World) (hA : XAt w w.heap.size A vs) (hA' : XAt w w.heap.size A' us) (hl : vs.length ≤ 17592186044416) (hl' : us.length ≤ 17592186044416)
  (hv : ∀ v ∈ vs, LowX v) (hu : ∀ v ∈ us, LowX v) :
  Calls Tryz.prog 141 #[.slice A vs.length cap, .slice A' us.length cap', .func (.func 142) #[] #[]] w fun e w' => e = .returned (.bool (decide (vs = us))) ∧ Below w.heap.size w w' := by
 have HV := zH hv
 have HU := zH hu
 have HA := zH hA
 have HA' := zH hA'
 clear hv hu hA hA'
 by_cases hll : vs.length = us.length
 · have HL := zH hll
   have hl1 : ((vs.length : Int) != (us.length : Int)) = false := by simp [hll]
   clear hll
   go_enter Tryz.func141, Tryz.ntmps141
   go_wp2_with fail
   go_loopw [17] (fun i wr => ∃ k : Nat, k ≤ vs.length ∧ i = .int .i64 k ∧ Hid (Below w.heap.size w wr) ∧ Hid (vs.take k = us.take k)) (fun i _ => vs.length - (intOf i).toNat)
   case atStart => exact ⟨0, by omega, rfl, Below.refl _ _, by show vs.take 0 = us.take 0; simp⟩
   case round =>
    obtain ⟨k, hk, rfl, hb, hall⟩ := hrel
    have hle : k ≤ us.length := by have := HL.out; omega
    by_cases hlt : k < vs.length
    · have hlt' : k < us.length := by have := HL.out; omega
      obtain ⟨b, off, A1, c1, A2, c2, eA, hb1, x0, x1, x2, hW, hI⟩ := (HA.out.keep hb.out).row k hlt
      obtain ⟨b', off', B1, d1, B2, d2, eB, hb1', y0, y1, y2, hW', hI'⟩ := (HA'.out.keep hb.out).row k hlt'
      subst eA
      subst eB
      obtain ⟨x, hx⟩ : ∃ x, vs[k] = x := ⟨_, rfl⟩
      obtain ⟨y, hy⟩ : ∃ y, us[k] = y := ⟨_, rfl⟩
      have hxl := HV.out _ (List.getElem_mem hlt)
      have hyl := HU.out _ (List.getElem_mem hlt')
      have hne := zH (fun (h : x ≠ y) => (decide_eq_false (xX hlt hlt' (by rw [hx, hy]; exact h)) : decide (vs = us) = false))
      have hok := zH (fun (h : x = y) => Zx hall.out hlt hlt' (by rw [hx, hy]; exact h))
      rw [hx] at x0 x1 x2 hW hI hxl
      rw [hy] at y0 y1 y2 hW' hI' hyl
      have hsz := hb.out.size
      have hbw : b < wr.heap.size := by omega
      have hbw' : b' < wr.heap.size := by omega
      obtain ⟨W2, hW2, d0, d1', hs2, hB2⟩ := yj wr #[.int .i64 x.c, .slice A1 x.word.length c1, .slice A2 x.views.length c2] #[.int .i64 y.c, .slice B1 y.word.length d1, .slice B2 y.views.length d2] 94 94
      have HC := zH (JR x y hxl hyl A1 A2 B1 B2 c1 c2 d1 d2 W2 (((hW.more hsz).keep hB2).more hB2.size) (((hI.more hsz).keep hB2).more hB2.size) (((hW'.more hsz).keep hB2).more hB2.size) (((hI'.more hsz).keep hB2).more hB2.size))
      have HB2 := zH (hb.out.trans (hB2.mono hsz))
      have HW2 := zH hW2
      have p0 := za d0 0 rfl
      have p1 := za d0 1 rfl
      have p2 := za d0 2 rfl
      have q0 := za d1' 0 rfl
      have q1 := za d1' 1 rfl
      have q2 := za d1' 2 rfl
      clear hW hI hW' hI' hxl hyl hW2 d0 d1' hB2 hx hy hall
      have hk0 : (0 : Int) ≤ (k : Int) := by omega
      have hk1 : (k : Int) < (vs.length : Int) := by omega
      have hk2 : (k : Int) < (us.length : Int) := by omega
      go_wp2_with fail
      rw [HW2.out]
      go_wp2_with fail
      refine HC.out.mono ?_
      rintro e w3 ⟨rfl, hb3⟩
      have HB3 := zH (HB2.out.trans (hb3.mono HB2.out.size))
      clear hb3 HC p0 p1 p2 q0 q1 q2 x0 x1 x2 y0 y1 y2
      by_cases hv : x = y
      · have hz := zH (hok.out hv)
        rw [decide_eq_true hv]
        clear hv hok hne
        go_wp2_with fail
        go_roundw
        case rel => exact ⟨k + 1, by omega, by go_num, HB3, hz⟩
        case measure => simp [intOf]; omega
      · have hz := zH (hne.out hv)
        rw [decide_eq_false hv]
        clear hv hok hne
        go_wp2_with fail
        go_ret
        exact ⟨zj hz.out.symm, HB3.out⟩
    · obtain rfl : k = vs.length := by omega
      have hz : Hid (decide (vs = us) = true) := decide_eq_true (xZ HL.out hall.out)
      go_wp2_with fail
      go_ret
      exact ⟨zj hz.out.symm, hb.out⟩
 · have hz : Hid (decide (vs = us) = false) := decide_eq_false (by rintro rfl; exact hll rfl)
   have hl1 : ((vs.length : Int) != (us.length : Int)) = true := by simp; omega
   clear hll
   go_enter Tryz.func141, Tryz.ntmps141
   go_wp2_with fail
   go_ret
   exact ⟨zj hz.out.symm, Below.refl _ _⟩
end
section
open Go.RowKit
attribute [local go_sem] Oper.semAt_some
set_option maxRecDepth 100000 in
theorem Y1 (a : Ad) (hf : FewA a) (hz : zv a a.sts = 0) (h1 : 1 ≤ a.sts.length) (K L : Nat) (hK : K ≤ 6) (hL : L ≤ 1048576) (SV : Option Addr) (ks : Nat) (w : World) (hS : SAt w w.heap.size SV a.sts) :
  Calls Tryz.prog 161 #[.agg #[.int .i64 a.n, .slice SV a.sts.length ks], .int .i64 K, .int .i64 L] w fun e w' => e = .returned (.int .i64 ((yG L (zN a K 0) : Nat) : Int)) ∧ Below w.heap.size w w' := by
 have hf1 := hf.1
 have HFE := zH (fun l hl => hf.each (l := l) hl)
 have HZ := zH (@xk a hz)
 clear hf hz
 go_enter Tryz.func161, Tryz.ntmps161
 go_wp2_with fail
 obtain ⟨w1, hw1⟩ : ∃ w1, w.alloc (.cells #[.int .i64 a.n, .slice SV a.sts.length ks] 27) = w1 := ⟨_, rfl⟩
 have hbb := zh w (.cells #[.int .i64 a.n, .slice SV a.sts.length ks] 27)
 have hb01 : Below w.heap.size w w1 := by rw [← hw1]; exact zI w _
 have hsz1 : w1.heap.size = w.heap.size + 1 := by rw [← hw1]; simp
 rw [hw1] at hbb ⊢
 have HBB := zH hbb
 have HB01 := zH hb01
 have HS := zH ((hS.keep hb01).more (by omega : w.heap.size ≤ w1.heap.size))
 clear hS hw1 hbb hb01
 go_loopw [7, 8] (fun v i wr => ∃ s : Nat, s ≤ a.sts.length ∧ i = .int .i64 (s : Int) ∧ Hid (Own wr w1.heap.size v (cl a L 0 s)) ∧ Hid (Below w1.heap.size w1 wr)) (fun _ i _ => a.sts.length - (intOf i).toNat)
 case atStart => exact ⟨0, by omega, rfl, Own.nil _ _, Below.refl _ _⟩
 case round =>
  obtain ⟨s, hs, rfl, HO, hbs⟩ := hrel
  have hbk := (hbs.out.block _ (zd HBB.out)).trans HBB.out
  have q0 := za hbk 0 rfl
  have q1 := za hbk 1 rfl
  clear hbk
  by_cases hlt : s < a.sts.length
  case pos =>
   have hln := kM a L 0 s
   have HR : Hid (cl a L 0 (s + 1) = cl a L 0 s ++ [1]) := by rw [Hid, JF, show zN a 0 (s : Int) = 1 from rfl, Jf]; rfl
   go_wp2_with (at_builtin; go_must (refine kV rfl _ _ rfl w1.heap.size u7 _ (1 : Int) rfl HO.out rfl (by omega) hbs.out.size ?_); intro v' w2 hown1 hg1 hb1)
   go_roundw
   case rel => exact ⟨s + 1, by omega, by go_num, by rw [HR.out]; exact hown1, hbs.out.trans hb1⟩
   case measure => simp [intOf]; omega
  case neg =>
  obtain rfl : s = a.sts.length := by omega
  go_wp2_with fail
  clear q0 q1
  go_loopw [7, 9] (fun v i wr => ∃ k : Nat, k ≤ K ∧ i = .int .i64 (k : Int) ∧ Hid (Own wr w1.heap.size v (cl a L k a.sts.length)) ∧ Hid (Below w1.heap.size w1 wr)) (fun _ i _ => K - (intOf i).toNat)
  case atStart => exact ⟨0, by omega, rfl, HO, hbs⟩
  case round =>
   clear HO hbs
   obtain ⟨k, hk, rfl, HO, hbs⟩ := hrel
   by_cases hkK : k < K
   case neg =>
    obtain rfl : k = K := by omega
    obtain ⟨A, cap, hv, hle, hcm, hI⟩ := HO.out.form
    subst hv
    have hln := kM a L k a.sts.length
    obtain ⟨b, o, rfl, hbB, hc⟩ := hI (by omega)
    have c0 := hc 0 (by omega)
    rw [Za] at c0
    rw [hln] at hle
    rw [show ((0 : Nat) : Int) = 0 from rfl, Nat.add_zero] at c0
    obtain ⟨r, hr⟩ : ∃ r, yG L (zN a k 0) = r := ⟨_, rfl⟩
    rw [hr] at c0
    have HRr := zH hr
    clear hc hI hr HO
    go_wp2_with fail
    go_ret
    exact ⟨ze (by rw [HRr.out]), HB01.out.trans (hbs.out.mono (by omega))⟩
   case pos =>
   obtain ⟨A, cap, hv, hle, hcm, hI⟩ := HO.out.form
   subst hv
   have hln := kM a L k a.sts.length
   obtain ⟨b0, o0, e0, hbB0, hc⟩ := hI (by omega)
   subst e0
   rw [hln] at hle
   obtain ⟨W2, hW2⟩ : ∃ W2, wr = W2 := ⟨_, rfl⟩
   have HCS : Hid (∀ X, Below W2.heap.size W2 X → ∀ j : Nat, j < a.sts.length → X.cell? ⟨b0, o0 + j, none⟩ = some (.int .i64 ((yG L (zN a k (j : Int)) : Nat) : Int))) := fun X hX j hj => by
    rw [← hW2] at hX
    have := hc j (by omega)
    rw [Za] at this
    exact (hX.cell (p := ⟨b0, _, none⟩) hbB0).trans this
   rw [hW2] at HO hbs hbB0 ⊢
   have hsW := hbs.out.size
   clear hW2 hc hI
   go_wp2_with fail
   simp only [hln]
   go_loopw [10, 11] (fun v i wx => ∃ s : Nat, s ≤ a.sts.length ∧ i = .int .i64 (s : Int) ∧ Hid (Own wx W2.heap.size v (cl a L (k + 1) s)) ∧ Hid (Below W2.heap.size W2 wx)) (fun _ i _ => a.sts.length - (intOf i).toNat)
   case atStart => exact ⟨0, by omega, rfl, Own.nil _ _, Below.refl _ _⟩
   case round =>
    obtain ⟨s, hs, rfl, HP, hbx⟩ := hrel
    have hbw := zH (hbs.out.trans (hbx.out.mono hsW))
    have hbk := (hbw.out.block _ (zd HBB.out)).trans HBB.out
    have q0 := za hbk 0 rfl
    have q1 := za hbk 1 rfl
    by_cases hsl : s < a.sts.length
    case neg =>
     obtain rfl : s = a.sts.length := by omega
     clear hbk HCS
     go_wp2_with fail
     go_roundw
     case rel => exact ⟨k + 1, by omega, by go_num, HP.out.low hsW, hbw⟩
     case measure => simp [intOf]; omega
    case pos =>
    obtain ⟨b, o, A', k', e', hbB, c1, hM⟩ := (HS.out.keep hbw.out).at_ s hsl
    subst e'
    have hl40 := HFE.out _ (List.getElem_mem hsl)
    have hse := JV a k hsl
    have HLm : Hid (∀ m ∈ a.sts[s], m ∈ a.mvs) := fun m hm => List.mem_flatten.2 ⟨_, List.getElem_mem hsl, hm⟩
    have HMM := zH hM
    obtain ⟨M, hM0⟩ : ∃ M, a.sts[s] = M := ⟨_, rfl⟩
    rw [hM0] at c1 hl40 HLm hse HMM
    have HSE := zH hse
    clear hM0 hM hse hbk
    have hpl := kM a L (k + 1) s
    go_wp2_with fail
    go_loop [12, 13] (fun n i => ∃ j : Nat, j ≤ M.length ∧ i = .int .i64 (j : Int) ∧ n = .int .i64 ((yG L (qX a k M j) : Nat) : Int)) (fun _ i => M.length - (intOf i).toNat)
    case atStart => exact ⟨0, by omega, rfl, by rw [Qc, YY]; rfl⟩
    case round =>
     obtain ⟨j, hj, rfl, rfl⟩ := hrel
     by_cases hjl : j < M.length
     case neg =>
      obtain rfl : j = M.length := by omega
      have HR : Hid (cl a L (k + 1) (s + 1) = cl a L (k + 1) s ++ [((yG L (qX a k M M.length) : Nat) : Int)]) := by rw [Hid, JF, HSE.out]
      obtain ⟨r, hr⟩ : ∃ r, yG L (qX a k M M.length) = r := ⟨_, rfl⟩
      rw [hr] at HR ⊢
      clear hr HSE HLm HMM
      go_wp2_with (at_builtin; go_must (refine kV rfl _ _ rfl W2.heap.size u10 _ (r : Int) rfl HP.out rfl (by omega) hbx.out.size ?_); intro v' w3 hown1 hg1 hb1)
      go_roundw
      case rel => exact ⟨s + 1, by omega, by go_num, by rw [HR.out]; exact hown1, hbx.out.trans hb1⟩
      case measure => simp [intOf]; omega
     case pos =>
     obtain ⟨b2, o2, e2, hB2, _, _, _, _, _, _, _, d7⟩ := HMM.out.row j hjl
     subst e2
     obtain ⟨_, _, z3, z4⟩ := HZ.out _ (HLm.out _ (List.getElem_mem hjl))
     have hss := Qd a k M hjl
     obtain ⟨t, et⟩ := Int.eq_ofNat_of_zero_le z3
     rw [et] at d7 hss z4
     have htl : t < a.sts.length := by omega
     have u0 := HCS.out _ hbx.out t htl
     have y1 := vP L (qX a k M j)
     have y2 := vP L (zN a k (t : Int))
     have y3 := Jh L (qX a k M j) (zN a k (t : Int))
     rw [← hss] at y3
     obtain ⟨n1, hn1⟩ : ∃ n1, yG L (qX a k M j) = n1 := ⟨_, rfl⟩
     obtain ⟨n2, hn2⟩ : ∃ n2, yG L (zN a k (t : Int)) = n2 := ⟨_, rfl⟩
     rw [hn1] at y1 y3 ⊢
     rw [hn2] at y2 y3 u0
     have HY3 := zH y3
     clear hss et hn1 hn2 y3 z3 z4
     go_wp2_with fail
     go_round
     case rel => 
      refine ⟨j + 1, by omega, by go_num, ?_⟩
      rw [← HY3.out]
      exact congrArg (Value.int .i64) (by first | (split <;> omega) | omega)
     case measure => simp [intOf]; omega
end
section
open Go.RowKit
attribute [local go_sem] Oper.semAt_some
set_option maxRecDepth 100000 in
theorem ZC (p : Pb) (hf : YK p) (hz : zv p.a p.a.sts = 0) (h1 : 1 ≤ p.a.sts.length) (K L : Nat) (hk : p.k = (K : Int)) (hK : K ≤ 6) (hL : L ≤ 1048576) (A : Option Addr) (kc : Nat) (SV : Option Addr) (ks : Nat) (w : World) (hS : SAt w w.heap.size SV p.a.sts) :
  Calls Tryz.prog 125 #[.agg (p.vs A kc SV ks), .int .i64 L] w fun e w' => e = .returned (.int .i64 ((p.t.cases.length * yG L (zN p.a K 0) : Nat) : Int)) ∧ Below w.heap.size w w' := by
 have hc30 := hf.1.1
 have HN := zH (fun (w' : World) (h : SAt w' w'.heap.size SV p.a.sts) => Y1 p.a hf.2 hz h1 K L hK hL SV ks w' h)
 have hsat := vP L (zN p.a K 0)
 obtain ⟨r, hr⟩ : ∃ r, yG L (zN p.a K 0) = r := ⟨_, rfl⟩
 rw [hr] at HN hsat ⊢
 unfold Pb.vs
 rw [hk]
 obtain ⟨w1, hw1⟩ : ∃ w1, w.alloc (.cells (p.vs A kc SV ks) 29) = w1 := ⟨_, rfl⟩
 have hbb := zh w (.cells (p.vs A kc SV ks) 29)
 have hb01 : Below w.heap.size w w1 := by rw [← hw1]; exact zI w _
 rw [hw1] at hbb
 unfold Pb.vs at hw1 hbb
 rw [hk] at hw1 hbb
 have hsz1 : w1.heap.size = w.heap.size + 1 := by rw [← hw1]; simp
 have HB01 := zH hb01
 have HS := zH ((hS.keep hb01).more (by omega : w.heap.size ≤ w1.heap.size))
 have HW1 := zH hw1
 have q3 := za hbb 3 rfl
 have q4 := za hbb 4 rfl
 have q5 := za hbb 5 rfl
 have q6 := za hbb 6 rfl
 clear hS hw1 hb01 hbb hr hf hz hk
 obtain ⟨cn, hcn⟩ : ∃ cn, p.t.cases.length = cn := ⟨_, rfl⟩
 rw [hcn] at HW1 q3 hc30 ⊢
 have hm : cn * r ≤ 30 * 1048577 := Nat.mul_le_mul hc30 (by omega)
 have hw : IntKind.i64.wrap ((cn : Int) * (r : Int)) = ((cn * r : Nat) : Int) := by rw [IntKind.wrap_i64, ← Int.natCast_mul]; omega
 clear hcn
 go_enter Tryz.func125, Tryz.ntmps125
 go_wp2_with fail
 rw [HW1.out]
 have hwb : w.heap.size < w1.heap.size := by omega
 have HKP : Hid (∀ X, Below w1.heap.size w1 X → X.cell? ⟨w.heap.size, 3, none⟩ = some (.slice A cn kc) ∧ X.cell? ⟨w.heap.size, 4, none⟩ = some (.int .i64 p.a.n) ∧ X.cell? ⟨w.heap.size, 5, none⟩ = some (.slice SV p.a.sts.length ks) ∧ X.cell? ⟨w.heap.size, 6, none⟩ = some (.int .i64 K)) := fun X hX =>
  ⟨(hX.cell (p := ⟨_, _, none⟩) hwb).trans q3, (hX.cell (p := ⟨_, _, none⟩) hwb).trans q4, (hX.cell (p := ⟨_, _, none⟩) hwb).trans q5, (hX.cell (p := ⟨_, _, none⟩) hwb).trans q6⟩
 have HSX : Hid (∀ X, Below w1.heap.size w1 X → SAt X X.heap.size SV p.a.sts) := fun X hX => (HS.out.keep hX).more hX.size
 clear HS HW1
 go_region_held3 (fun w' => w'.cell? ⟨w.heap.size, 3, none⟩ = some (.slice A cn kc) ∧ w'.cell? ⟨w.heap.size, 4, none⟩ = some (.int .i64 p.a.n) ∧ w'.cell? ⟨w.heap.size, 5, none⟩ = some (.slice SV p.a.sts.length ks) ∧ w'.cell? ⟨w.heap.size, 6, none⟩ = some (.int .i64 K))
  (first | exact ⟨q3, q4, q5, q6⟩ | exact HKP.out _ (XZ hb3) | exact HKP.out _ hb3)
  ((go_at_call 161; refine (HN.out _ (HSX.out _ (by repeat (first | exact Below.refl _ _ | refine Below.drew ?_ | refine zU ?_ _)))).mono ?_; rintro e w3 ⟨rfl, hb3⟩))
 have BL3 := zH (HB01.out.trans ((XZ hb3).mono (by have : w1.drew.heap.size = w1.heap.size := rfl; omega)))
 go_wp2_with fail
 go_ret
 exact ⟨ze (by first | rfl | rw [hw]), BL3.out⟩
end
section
open Go.RowKit
attribute [local go_sem] Oper.semAt_some
def Zo (p : Pb) : Nat := p.t.cases.length * yG 4096 (zN p.a p.k.toNat 0)
def gW (a : Ad) : Bool := decide (a.sts.length ≤ 8) && decide (a.mvs.length ≤ 40)
def xH (p : Pb) : Bool := jn p.t && gW p.a && !(decide (3 < p.t.n) && decide (p.t.n ≤ 5)) && (decide (zJ p ≠ 0) || (decide (Zo p ≤ 60) || decide (4096 < Zo p)))
theorem fewPB_t {p : Pb} (h : jn p.t = false) : xH p = false := by unfold xH; rw [h]; rfl
theorem fewPB_a {p : Pb} (h : gW p.a = false) : xH p = false := by unfold xH; rw [h]; simp
theorem fewPB_n {p : Pb} (h : 3 < p.t.n) (h2 : p.t.n ≤ 5) : xH p = false := by unfold xH; rw [decide_eq_true h, decide_eq_true h2]; simp
theorem fewPB_e {p : Pb} (h : jn p.t = true) (h1 : gW p.a = true) (h2 : ¬ (3 < p.t.n ∧ p.t.n ≤ 5)) (h3 : zJ p ≠ 0) : xH p = true := by
 unfold xH
 have e : (decide (3 < p.t.n) && decide (p.t.n ≤ 5)) = false := by simpa [Bool.and_eq_false_imp] using fun x => by omega
 rw [h, h1, e, decide_eq_true h3]; rfl
theorem fewPB_m {p : Pb} (h : jn p.t = true) (h1 : gW p.a = true) (h2 : ¬ (3 < p.t.n ∧ p.t.n ≤ 5)) (h3 : zJ p = 0) : xH p = (decide (Zo p ≤ 60) || decide (4096 < Zo p)) := by
 unfold xH
 have e : (decide (3 < p.t.n) && decide (p.t.n ≤ 5)) = false := by simpa [Bool.and_eq_false_imp] using fun x => by omega
 rw [h, h1, e, h3]; simp
theorem ZQ {a : Ad} : gW a = true ↔ FewA a := by unfold gW FewA; simp
theorem num_exec {p : Pb} (h : zJ p = 0) : (Zo p ≤ 60 ∨ 4096 < Zo p) → (zP p ≤ 60 ∨ 4096 < zP p) := by
 obtain ⟨hpt, _⟩ := zO h
 obtain ⟨h1, _⟩ := yB hpt
 intro hn
 have e : zP p = p.t.cases.length * zN p.a p.k.toNat 0 := by unfold zP; rw [Nat.mul_comm]
 have hm := Jg 4096 p.t.cases.length (zN p.a p.k.toNat 0) h1
 rw [e]
 rcases hn with hn | hn
 · left
   unfold Zo at hn
   have hle : yG 4096 (zN p.a p.k.toNat 0) ≤ 60 := Nat.le_trans (Nat.le_mul_of_pos_left _ h1) hn
   have hx : zN p.a p.k.toNat 0 ≤ 4096 := by unfold yG at hle; omega
   rwa [sat_eq hx] at hn
 · right
   exact hm.1 hn
theorem few_x {p : Pb} (h : xH p = true) : xb p ∧ ¬ (3 < p.t.n ∧ p.t.n ≤ 5) := by
 unfold xH at h
 simp only [Bool.and_eq_true, Bool.not_eq_true', Bool.or_eq_true, decide_eq_true_eq] at h
 obtain ⟨⟨⟨h1, h2⟩, h3⟩, h4⟩ := h
 refine ⟨⟨⟨XK.1 h1, ZQ.1 h2⟩, fun h0 => ?_⟩, fun hn => ?_⟩
 · rcases h4 with h4 | h4
   · exact absurd h0 h4
   · exact num_exec h0 h4
 · rw [decide_eq_true hn.1, decide_eq_true hn.2] at h3
   cases h3
set_option maxRecDepth 100000 in
theorem few_any (p : Pb) (hl : YJ p) (A : Option Addr) (kc : Nat) (SV : Option Addr) (ks : Nat) (w : World) (hA : CAt w w.heap.size A p.t.cases) (hS : SAt w w.heap.size SV p.a.sts) :
  Calls Tryz.prog 61 #[.agg (p.vs A kc SV ks)] w fun e w' => e = .returned (.bool (xH p)) ∧ Below w.heap.size w w' := by
 have HT := zH (fun (w' : World) (h : CAt w' w'.heap.size A p.t.cases) => rfewT_any p.t A kc hl.1.1 hl.1.2 w' h)
 have HD := zH (fun (w' : World) (h : SAt w' w'.heap.size SV p.a.sts) => rfewA_any p.a SV ks hl.2.1 hl.2.2 w' h)
 have HC := zH (fun (hf : YK p) (w' : World) (h1 : CAt w' w'.heap.size A p.t.cases) (h2 : SAt w' w'.heap.size SV p.a.sts) => uG p hf A kc SV ks w' h1 h2)
 have HE1 := zH (@fewPB_t p)
 have HE2 := zH (@fewPB_a p)
 have HE3 := zH (@fewPB_n p)
 have HE4 := zH (@fewPB_e p)
 have HE5 := zH (@fewPB_m p)
 obtain ⟨R, hR0⟩ : ∃ R, xH p = R := ⟨_, rfl⟩
 rw [hR0] at HE1 HE2 HE3 HE4 HE5 ⊢
 obtain ⟨w1, hw1⟩ : ∃ w1, w.alloc (.cells (p.vs A kc SV ks) 29) = w1 := ⟨_, rfl⟩
 have hbb := zh w (.cells (p.vs A kc SV ks) 29)
 have hb01 : Below w.heap.size w w1 := by rw [← hw1]; exact zI w _
 have hsz1 : w1.heap.size = w.heap.size + 1 := by rw [← hw1]; simp
 rw [hw1] at hbb
 have HN := zH (fun (w' : World) (hf : YK p) (h0 : zJ p = 0) (h : SAt w' w'.heap.size SV p.a.sts) =>
  ZC p hf (yR hf.2 (zO h0).2.1).1 (yR hf.2 (zO h0).2.1).2.1 p.k.toNat 4096 (by have := (zO h0).2.2.2.1; omega) (by have := (zO h0).2.2.2.2; omega) (by decide) A kc SV ks w' h)
 unfold Pb.vs at hw1 hbb ⊢
 have HBB := zH hbb
 have HB01 := zH hb01
 have HA := zH ((hA.keep hb01).more (by omega : w.heap.size ≤ w1.heap.size))
 have HS := zH ((hS.keep hb01).more (by omega : w.heap.size ≤ w1.heap.size))
 have HW1 := zH hw1
 have q0 := za hbb 0 rfl
 have q1 := za hbb 1 rfl
 have q2 := za hbb 2 rfl
 have q3 := za hbb 3 rfl
 clear hA hS hw1 hb01 hbb hl hR0
 obtain ⟨bT, hbT⟩ : ∃ b, jn p.t = b := ⟨_, rfl⟩
 obtain ⟨bA, hbA⟩ : ∃ b, gW p.a = b := ⟨_, rfl⟩
 have HBA : Hid ((decide (p.a.sts.length ≤ 8) && decide (p.a.mvs.length ≤ 40)) = bA) := hbA
 rw [hbT] at HT HE1 HE4 HE5
 rw [hbA] at HE2 HE4 HE5
 have HPT := zH hbT
 have HPA := zH hbA
 clear hbT hbA
 go_enter Tryz.func61, Tryz.ntmps61
 go_wp2_with fail
 rw [HW1.out]
 go_wp2_with fail
 refine (HT.out w1 HA.out).mono ?_
 rintro e w2 ⟨rfl, hb2⟩
 have B2 := zH (HB01.out.trans (hb2.mono (by omega)))
 have HS2 := zH ((HS.out.keep hb2).more hb2.size)
 have HA2 := zH ((HA.out.keep hb2).more hb2.size)
 have hbk := (hb2.block _ (zd HBB.out)).trans HBB.out
 have HB2 := zH hbk
 have hs2 := hb2.size
 have q4 := za hbk 4 rfl
 have q5 := za hbk 5 rfl
 clear hb2 hbk HT HW1 q0 q1 q2 q3
 cases bT with
 | false =>
  have hR := zH (HE1.out rfl)
  clear HE1 HE2 HE3 HE4 HE5 HD
  go_wp2_with fail
  go_ret
  exact ⟨zj hR.out.symm, B2.out⟩
 | true =>
 clear HE1
 go_wp2_with fail
 refine (HD.out w2 HS2.out).mono ?_
 rw [HBA.out]
 rintro e w3 ⟨rfl, hb3⟩
 have B3 := zH (B2.out.trans (hb3.mono (by omega)))
 have HS3 := zH ((HS2.out.keep hb3).more hb3.size)
 have HA3 := zH ((HA2.out.keep hb3).more hb3.size)
 have hbk := (hb3.block _ (zd HB2.out)).trans HB2.out
 have HB3 := zH hbk
 have hs3 := hb3.size
 have q0 := za hbk 0 rfl
 have q1 := za hbk 1 rfl
 have q2 := za hbk 2 rfl
 have q3 := za hbk 3 rfl
 have q4 := za hbk 4 rfl
 have q5 := za hbk 5 rfl
 have q6 := za hbk 6 rfl
 clear hb3 hbk HD
 cases bA with
 | false =>
  have hR := zH (HE2.out rfl)
  clear HE2 HE3 HE4 HE5
  go_wp2_with fail
  go_ret
  exact ⟨zj hR.out.symm, B3.out⟩
 | true =>
 clear HE2
 have HFP : Hid (YK p) := ⟨XK.1 HPT.out, ZQ.1 HPA.out⟩
 have F4 := zH (HE4.out (by simp) (by simp))
 have F5 := zH (HE5.out (by simp) (by simp))
 clear HE4 HE5 HPT HPA HBA
 by_cases h3 : 3 < p.t.n ∧ p.t.n ≤ 5
 case pos =>
  have hR := zH (HE3.out h3.1 h3.2)
  obtain ⟨h31, h32⟩ := h3
  clear HE3 F4 F5
  go_wp2_with fail
  all_goals first | (exfalso; omega) | skip
  all_goals
   go_ret
   exact ⟨zj hR.out.symm, B3.out⟩
 case neg =>
 have G4 := zH (F4.out h3)
 have G5 := zH (F5.out h3)
 clear HE3 F4 F5
 obtain ⟨E, hE⟩ : ∃ E, zJ p = E := ⟨_, rfl⟩
 rw [hE] at HC G4 G5
 have HPE := zH hE
 clear hE
 obtain ⟨M, hM⟩ : ∃ M, p.t.cases.length * yG 4096 (zN p.a p.k.toNat 0) = M := ⟨_, rfl⟩
 have HMM : Hid (Zo p = M) := hM
 rw [hM] at HN
 clear hM
 have h35 : ¬ (3 < p.t.n) ∨ (3 < p.t.n ∧ ¬ p.t.n ≤ 5) := by omega
 clear h3
 rcases h35 with h31 | ⟨h31, h32⟩
 all_goals
  go_wp2_with fail
  all_goals first | (exfalso; omega) | skip
  refine (HC.out HFP.out w3 HA3.out HS3.out).mono ?_
  rintro e w4 ⟨rfl, hb4⟩
  have B4 := zH (B3.out.trans (hb4.mono (by omega)))
  have HS4 := zH ((HS3.out.keep hb4).more hb4.size)
  have hbk := (hb4.block _ (zd HB3.out)).trans HB3.out
  have hs4 := hb4.size
  have q0 := za hbk 0 rfl
  have q1 := za hbk 1 rfl
  have q2 := za hbk 2 rfl
  have q3 := za hbk 3 rfl
  have q4 := za hbk 4 rfl
  have q5 := za hbk 5 rfl
  have q6 := za hbk 6 rfl
  clear hb4 hbk HC
  by_cases h0 : E = 0
  case neg =>
   have hR := zH (G4.out h0)
   have e0 : (E != 0) = true := by simpa using h0
   clear G4 G5 h0 HN
   go_wp2_with fail
   go_ret
   exact ⟨zj hR.out.symm, B4.out⟩
  case pos =>
   subst h0
   have hR := zH (G5.out rfl)
   rw [HMM.out] at hR
   clear G4 G5
   go_wp2_with fail
   refine (HN.out w4 HFP.out HPE.out HS4.out).mono ?_
   rintro e w5 ⟨rfl, hb5⟩
   have B5 := zH (B4.out.trans (hb5.mono (by omega)))
   clear hb5 HN HMM q0 q1 q2 q3 q4 q5 q6
   by_cases hm : M ≤ 60
   · have hR2 : Hid (R = true) := hR.out.trans (by rw [decide_eq_true hm]; rfl)
     clear hR
     go_wp2_with fail
     all_goals first | (exfalso; omega) | skip
     go_ret
     exact ⟨zj hR2.out.symm, B5.out⟩
   · have hR2 : Hid (R = decide (4096 < M)) := hR.out.trans (by rw [decide_eq_false hm]; rfl)
     clear hR
     go_wp2_with fail
     all_goals first | (exfalso; omega) | skip
     go_ret
     exact ⟨zj (by rw [hR2.out, decide_eq_false (show ¬ ((M : Int) ≤ 60) by omega), Bool.false_or]; exact YC (by omega)), B5.out⟩
end
section
open Go.RowKit
attribute [local go_sem] Oper.semAt_some
def yE (s : Sy) : Int := if (zQ s.p).2 ≠ 0 then (zQ s.p).2 else if s = (zQ s.p).1 then 0 else 3
theorem Yc (p : Pb) (h : zJ p = 0) (h60 : zP p ≤ 60) : (zu p (zn p)).1.length ≤ 2100 ∧ (zu p (zn p)).2.length ≤ 60 := by
 obtain ⟨hpt, _, _, hk0, hk6⟩ := zO h
 obtain ⟨h1, hn1, hn5⟩ := yB hpt
 have hl : p.t.cases.length * (zy p.a p.k.toNat 0).length ≤ 60 := by
  rw [yo]
  unfold zP at h60
  rw [Nat.mul_comm]; exact h60
 rw [Yg p]
 refine ⟨wR p _ (by omega) (fun w hw => ?_) _ hl, ?_⟩
 · rw [yV p.a _ 0 w hw]; omega
 · rw [xE, wi]; exact hl
theorem runW_mem (p : Pb) (l : List (Nat × List Rd)) : ∀ x ∈ (zu p l).2, ∃ y ∈ l, ∃ vs, x = ⟨y.1, y.2, (zl vs p.t.n.toNat (yL p y.1) y.2 y.2.length).2⟩ := by
 have key : ∀ n, n ≤ l.length → ∀ x ∈ (zu p (l.take n)).2, ∃ y ∈ l, ∃ vs, x = ⟨y.1, y.2, (zl vs p.t.n.toNat (yL p y.1) y.2 y.2.length).2⟩ := by
  intro n
  induction n with
  | zero => intro _ x hx; simp [vt] at hx
  | succ n ih =>
   intro hl x hx
   rw [List.take_succ_eq_append_getElem (by omega), qr] at hx
   rcases List.mem_append.1 hx with hx | hx
   · exact ih (by omega) x hx
   · rw [List.mem_singleton] at hx
     exact ⟨l[n], List.getElem_mem _, _, hx⟩
 have := key l.length (Nat.le_refl _)
 rwa [List.take_length] at this
theorem YL : LowS ql := ⟨⟨⟨by decide, fun c h => by simp [ql] at h⟩, by decide, fun c h => by simp [ql] at h⟩, by decide, by decide, fun c h => by simp [ql] at h⟩
theorem jB {p : Pb} (hp : YJ p) (hf : xb p) : LowS (zQ p).1 := by
 by_cases h0 : zJ p = 0
 case neg => rw [xv h0]; exact YL
 case pos =>
 rcases hf.2 h0 with h60 | h60
 case inr => rw [xC h0 h60]; exact YL
 case inl =>
 rw [qw h0 (by omega)]
 obtain ⟨r1, r2⟩ := Yc p h0 h60
 obtain ⟨hpt, _, _, hk0, hk6⟩ := zO h0
 obtain ⟨h1, hn1, hn5⟩ := yB hpt
 refine ⟨hp, by show (zu p (zn p)).1.length ≤ _; omega, by show (zu p (zn p)).2.length ≤ _; omega, fun x hx => ?_⟩
 obtain ⟨y, hy, vs, rfl⟩ := runW_mem p (zn p) x hx
 have hyl : y.2.length ≤ 6 := by
  unfold zn at hy
  obtain ⟨d, _, hy⟩ := List.mem_flatMap.1 hy
  obtain ⟨w', hw', rfl⟩ := List.mem_map.1 hy
  show w'.length ≤ 6
  rw [yV p.a _ 0 w' hw']; omega
 refine ⟨by show y.2.length ≤ _; omega, ?_, fun v hv => ?_⟩
 · show (zl vs p.t.n.toNat (yL p y.1) y.2 y.2.length).2.length ≤ _
   rw [yg]; omega
 · rw [qz _ _ _ _ _ v hv]; omega
set_option maxRecDepth 100000 in
theorem Z7 (s : Sy) (hs : LowS s) (hf : xb s.p) (A SV AV AX : Option Addr) (kc ks kv kx : Nat) (w : World) (hS : SyAt w w.heap.size A SV AV AX s) :
  Calls Tryz.prog 82 #[.agg (s.vs_ A kc SV ks AV kv AX kx)] w fun e w' => e = .returned (.int .i64 (yE s)) ∧ Below w.heap.size w w' := by
 obtain ⟨w1, hw1⟩ : ∃ w1, w.alloc (.cells (s.vs_ A kc SV ks AV kv AX kx) 35) = w1 := ⟨_, rfl⟩
 have hbb := zh w (.cells (s.vs_ A kc SV ks AV kv AX kx) 35)
 have hb01 : Below w.heap.size w w1 := by rw [← hw1]; exact zI w _
 have hsz1 : w1.heap.size = w.heap.size + 1 := by rw [← hw1]; simp
 rw [hw1] at hbb
 have HS1 := zH (hS.up hb01)
 have HB := zH (build_any s.p hf A kc SV ks w1 (hS.up hb01).fc (hS.up hb01).fs)
 have HLB := zH (jB hs.fp hf)
 have HLS := zH hs
 have HVE : Hid (yE s = if (zQ s.p).2 ≠ 0 then (zQ s.p).2 else if s = (zQ s.p).1 then 0 else 3) := rfl
 have HBO := zH (fun (h : (zQ s.p).2 = 0) => (by
  by_cases h0 : zJ s.p = 0
  case neg => rw [xv h0] at h; exact absurd h h0
  case pos =>
   by_cases h1 : 4096 < zP s.p
   · rw [xC h0 h1] at h; cases h
   · rw [qw h0 (by omega)]; exact ⟨rfl, rfl⟩ : (zQ s.p).1.p = s.p ∧ (zQ s.p).1.n = s.p.t.n))
 unfold Sy.vs_ at hw1 hbb ⊢
 unfold Pb.vs at HB
 have HW1 := zH hw1
 have HBB := zH hbb
 have HB01 := zH hb01
 have p0 := za hbb 0 rfl
 have p1 := za hbb 1 rfl
 have p2 := za hbb 2 rfl
 have p3 := za hbb 3 rfl
 have p4 := za hbb 4 rfl
 have p5 := za hbb 5 rfl
 have p6 := za hbb 6 rfl
 obtain ⟨R, hR⟩ : ∃ R, zQ s.p = R := ⟨_, rfl⟩
 rw [hR] at HB HLB HVE HBO
 obtain ⟨r, hr⟩ : ∃ r, yE s = r := ⟨_, rfl⟩
 rw [hr] at HVE ⊢
 clear hw1 hbb hb01 hS hs hf hR hr
 go_enter Tryz.func82, Tryz.ntmps82
 go_wp2_with fail
 rw [HW1.out]
 go_wp2_with fail
 refine HB.out.mono ?_
 rintro e w2 ⟨A2, kc2, SV2, ks2, AV2, kv2, AX2, kx2, rfl, hS2, hv1, hv2, hb2⟩
 obtain ⟨T, E⟩ := R
 obtain ⟨W3, hW3, b3, hs3, hB3⟩ := zi w2 (T.vs_ A2 kc2 SV2 ks2 AV2 kv2 AX2 kx2) 35
 have HS3 := zH (hS2.up hB3)
 have HB3 := zH (HB01.out.trans ((hb2.trans (hB3.mono hb2.size)).mono (by omega)))
 have hs2 := hb2.size
 have d0 := (hB3.block _ (by omega : w.heap.size < w2.heap.size)).trans ((hb2.block _ (by omega : w.heap.size < w1.heap.size)).trans HBB.out)
 have HS13 := zH ((HS1.out.up hb2).up hB3)
 unfold Sy.vs_ at hW3 b3 ⊢
 have HW3 := zH hW3
 have HD0 := zH d0
 have HD3 := zH b3
 clear hb2 hS2 hv1 hv2 hB3 hW3 HB HW1 p0 p1 p2 p3 p4 p5 p6 HS1 HBB
 dsimp only at HVE HBO HLB HS3
 go_simp
 rename_i hKK
 refine hKK _ _ ?_
 clear hKK
 refine wpList_plain rfl fun K5 hK5 => ?_
 go_simp
 refine hK5 _ _ ?_
 clear hK5 K5
 refine wpList_plain rfl fun K5 hK5 => ?_
 go_simp
 refine hK5 _ _ ?_
 clear hK5 K5
 refine wpList_plain rfl fun K5 hK5 => ?_
 go_simp
 refine hK5 _ _ ?_
 clear hK5 K5
 refine wpList_plain rfl fun K5 hK5 => ?_
 go_simp
 refine hK5 _ _ ?_
 clear hK5 K5
 refine wpList_plain rfl fun K5 hK5 => ?_
 go_simp
 rw [HW3.out]
 refine hK5 _ _ ?_
 clear hK5 K5
 by_cases h0 : E = 0
 case neg =>
  have e0 : (E != 0) = true := by simpa using h0
  have hR : Hid (r = E) := HVE.out.trans (if_pos h0)
  clear HVE HBO h0 d0 b3
  go_wp2_with fail
  go_ret
  exact ⟨ze hR.out.symm, HB3.out⟩
 case pos =>
 subst h0
 obtain ⟨hTp, hTn⟩ := HBO.out rfl
 have hVE : r = if s = T then 0 else 3 := HVE.out.trans (if_neg (by simp))
 have H3 : Hid (s ≠ T → r = 3) := fun h => hVE.trans (if_neg h)
 have H0 : Hid (s = T → r = 0) := fun h => hVE.trans (if_pos h)
 have HTP := zH hTp
 have HEQ := zH (@sy_eq s T)
 have x7 : W3.cell? ⟨w.heap.size, 7, none⟩ = some (.int .i64 s.n) := za d0 7 rfl
 have x8 : W3.cell? ⟨w.heap.size, 8, none⟩ = some (.slice AV s.vs.length kv) := za d0 8 rfl
 have y7 : W3.cell? ⟨w2.heap.size, 7, none⟩ = some (.int .i64 T.n) := za b3 7 rfl
 have y8 : W3.cell? ⟨w2.heap.size, 8, none⟩ = some (.slice AV2 T.vs.length kv2) := za b3 8 rfl
 have HVV := zH (eqV_any AV AV2 kv kv2 s.vs T.vs W3 W3.heap.size (Nat.le_refl _) HS13.out.fv HS3.out.fv HLS.out.fv HLB.out.fv)
 have HXX := zH (fun n => eqX_any AX AX2 kx kx2 s.xs T.xs (W3.drewN n) HS13.out.fx HS3.out.fx (Nat.le_trans HLS.out.fx (by decide)) (Nat.le_trans HLB.out.fx (by decide)) HLS.out.fe HLB.out.fe)
 clear hTp hTn hVE HVE HBO d0 b3 HLB HLS
 by_cases h1 : s.n = T.n
 case neg =>
  have hR := zH (H3.out (fun h => h1 (congrArg Sy.n h)))
  have e0 : (s.n != T.n) = true := by simpa using h1
  clear H3 H0 h1 HVV HXX HEQ
  go_wp2_with fail
  all_goals
   go_ret
   exact ⟨ze hR.out.symm, HB3.out⟩
 case pos =>
 have e0 : (s.n != T.n) = false := by simpa using h1
 have HN1 := zH h1
 clear h1
 go_wp2_with fail
 refine HVV.out.mono ?_
 rintro e w4 ⟨rfl, n, rfl⟩
 have x9 : (W3.drewN n).cell? ⟨w.heap.size, 9, none⟩ = some (.slice AX s.xs.length kx) := za HD0.out 9 rfl
 have y9 : (W3.drewN n).cell? ⟨w2.heap.size, 9, none⟩ = some (.slice AX2 T.xs.length kx2) := za HD3.out 9 rfl
 by_cases h2 : s.vs = T.vs
 case neg =>
  have hR := zH (H3.out (fun h => h2 (congrArg Sy.vs h)))
  rw [decide_eq_false h2]
  clear H3 H0 h2 HVV HXX HEQ
  go_wp2_with fail
  all_goals
   go_ret
   exact ⟨ze hR.out.symm, zU HB3.out n⟩
 case pos =>
 rw [decide_eq_true h2]
 have HV2 := zH h2
 clear h2 HVV
 go_wp2_with fail
 refine (HXX.out n).mono ?_
 rintro e w5 ⟨rfl, hb5⟩
 have B5 := zH (HB3.out.trans ((zU (Below.refl W3.heap.size W3) n).trans hb5 |>.mono (by omega)))
 clear hb5 HXX
 by_cases h3 : s.xs = T.xs
 case neg =>
  have hR := zH (H3.out (fun h => h3 (congrArg Sy.xs h)))
  rw [decide_eq_false h3]
  clear H3 H0 h3 HEQ
  go_wp2_with fail
  all_goals
   go_ret
   exact ⟨ze hR.out.symm, B5.out⟩
 case pos =>
  have hR := zH (H0.out (HEQ.out HTP.out.symm ⟨HN1.out, HV2.out⟩ h3))
  rw [decide_eq_true h3]
  clear H3 H0 h3 HEQ
  go_wp2_with fail
  all_goals
   go_ret
   exact ⟨ze hR.out.symm, B5.out⟩
end
section
def At (vs : List Vw) (i : Int) (v : Vw) : Prop := 0 ≤ i ∧ vs[i.toNat]? = some v
theorem At.mono {vs us : List Vw} {i : Int} {v : Vw} (h : At vs i v) : At (vs ++ us) i v :=
 ⟨h.1, by rw [List.getElem?_append_left (List.getElem?_eq_some_iff.1 h.2).1]; exact h.2⟩
theorem At.lt {vs : List Vw} {i : Int} {v : Vw} (h : At vs i v) : 0 ≤ i ∧ i < vs.length := ⟨h.1, by have := (List.getElem?_eq_some_iff.1 h.2).1; have := h.1; omega⟩
theorem Xc (vs : List Vw) (v : Vw) : ∃ us, (xV vs v).1 = vs ++ us := by
 unfold xV
 split
 · exact ⟨[], by simp⟩
 · exact ⟨[v], rfl⟩
theorem putW_at (vs : List Vw) (v : Vw) : At (xV vs v).1 (xV vs v).2 v := by
 unfold xV
 split
 · rename_i h
   unfold qH
   rw [if_pos h]
   refine ⟨by omega, ?_⟩
   have h1 := List.idxOf_lt_length_of_mem h
   show vs[((vs.idxOf v : Nat) : Int).toNat]? = _
   rw [Int.toNat_natCast, List.getElem?_eq_getElem h1, List.getElem_idxOf]
 · refine ⟨by omega, ?_⟩
   show (vs ++ [v])[((vs.length : Nat) : Int).toNat]? = _
   rw [Int.toNat_natCast]; simp
theorem putW_mem (vs : List Vw) (v : Vw) : ∀ u ∈ (xV vs v).1, u ∈ vs ∨ u = v := by
 unfold xV
 split
 · exact fun u h => .inl h
 · intro u h
   rcases List.mem_append.1 h with h | h
   · exact .inl h
   · exact .inr (List.mem_singleton.1 h)
theorem Qp {vs : List Vw} (v : Vw) (h : vs.Nodup) : (xV vs v).1.Nodup := by
 unfold xV
 split
 · exact h
 · rename_i hn
   exact List.nodup_append.2 ⟨h, by simp, fun a ha b hb => by rw [List.mem_singleton] at hb; subst hb; exact fun e => hn (e ▸ ha)⟩
theorem wU (f : Nat → Vw) (vs : List Vw) : ∀ p, ∃ us, (zV f vs p).1 = vs ++ us
 | 0 => ⟨[], by simp [zV]⟩
 | p + 1 => by
  obtain ⟨u1, h1⟩ := wU f vs p
  obtain ⟨u2, h2⟩ := Xc (zV f vs p).1 (f p)
  exact ⟨u1 ++ u2, by rw [zV]; dsimp only; rw [h2, h1, List.append_assoc]⟩
theorem Ji (f : Nat → Vw) (vs : List Vw) : ∀ n p, p < n → At (zV f vs n).1 ((zV f vs n).2.getD p 0) (f p)
 | n + 1, p, h => by
  rw [zV]
  dsimp only
  have hl := xg f vs n
  by_cases hp : p < n
  · rw [List.getD_eq_getElem?_getD, List.getElem?_append_left (by omega), ← List.getD_eq_getElem?_getD]
    obtain ⟨u2, h2⟩ := Xc (zV f vs n).1 (f n)
    rw [h2]
    exact (Ji f vs n p hp).mono
  · obtain rfl : p = n := by omega
    rw [List.getD_eq_getElem?_getD, List.getElem?_append_right (by omega), hl, Nat.sub_self]
    exact putW_at _ _
theorem wV (f : Nat → Vw) (vs : List Vw) : ∀ n, ∀ u ∈ (zV f vs n).1, u ∈ vs ∨ ∃ p, p < n ∧ u = f p
 | 0, u, h => .inl h
 | n + 1, u, h => by
  rw [zV] at h
  rcases putW_mem _ _ u h with h | h
  · rcases wV f vs n u h with h | ⟨p, hp, e⟩
    · exact .inl h
    · exact .inr ⟨p, by omega, e⟩
  · exact .inr ⟨n, by omega, h⟩
theorem jY (f : Nat → Vw) {vs : List Vw} (h : vs.Nodup) : ∀ n, (zV f vs n).1.Nodup
 | 0 => h
 | n + 1 => by rw [zV]; exact Qp _ (jY f h n)
def wW (vs : List Vw) (n : Nat) (inp : List Int) (word : List Rd) (k : Nat) : List Int := (zl vs n inp word k).2.getD k []
def fV (vs : List Vw) (n : Nat) (inp : List Int) (word : List Rd) : Nat → Nat → Vw
 | 0, p => yD p (inp.getD p 0)
 | k + 1, p => xO (word.getD k default) (k + 1) p (wW vs n inp word k)
section
variable (vs : List Vw) (n : Nat) (inp : List Int) (word : List Rd)
theorem vW : ∀ j, (∃ us, (zl vs n inp word j).1 = vs ++ us) ∧ ∀ k, k ≤ j → ∃ us, (zl vs n inp word j).1 = (zl vs n inp word k).1 ++ us
 | 0 => ⟨by rw [zl]; exact wU _ vs n, fun k hk => ⟨[], by obtain rfl : k = 0 := (by omega); simp⟩⟩
 | j + 1 => by
  obtain ⟨⟨u1, h1⟩, h2⟩ := vW j
  obtain ⟨u3, h3⟩ := wU (fun p => xO (word.getD j default) (j + 1) p ((zl vs n inp word j).2.getD j [])) (zl vs n inp word j).1 n
  have e : (zl vs n inp word (j + 1)).1 = (zl vs n inp word j).1 ++ u3 := by rw [zl]; exact h3
  refine ⟨⟨u1 ++ u3, by rw [e, h1, List.append_assoc]⟩, fun k hk => ?_⟩
  by_cases hkj : k ≤ j
  · obtain ⟨u4, h4⟩ := h2 k hkj
    exact ⟨u4 ++ u3, by rw [e, h4, List.append_assoc]⟩
  · obtain rfl : k = j + 1 := by omega
    exact ⟨[], by simp⟩
theorem va : ∀ j k, k ≤ j → (zl vs n inp word j).2.getD k [] = wW vs n inp word k
 | 0, k, h => by obtain rfl : k = 0 := (by omega); rfl
 | j + 1, k, h => by
  by_cases hkj : k ≤ j
  · rw [← va j k hkj, zl, List.getD_eq_getElem?_getD, List.getElem?_append_left (by rw [yg]; omega), ← List.getD_eq_getElem?_getD]
  · obtain rfl : k = j + 1 := by omega
    rfl
theorem vu (k : Nat) : (wW vs n inp word k).length = n := by
 have h : k < (zl vs n inp word k).2.length := by rw [yg]; omega
 unfold wW
 rw [List.getD_eq_getElem?_getD, List.getElem?_eq_getElem h]
 exact qz vs n inp word k _ (List.getElem_mem h)
theorem rowK_eq : ∀ k, ∃ us, (zl vs n inp word k).1 = (zV (fV vs n inp word k) us n).1 ∧ wW vs n inp word k = (zV (fV vs n inp word k) us n).2
 | 0 => ⟨vs, rfl, rfl⟩
 | k + 1 => ⟨(zl vs n inp word k).1, rfl, by
   unfold wW
   rw [zl, List.getD_eq_getElem?_getD, List.getElem?_append_right (by rw [yg]; omega), yg, Nat.sub_self]
   rfl⟩
theorem Yf (j k p : Nat) (hk : k ≤ j) (hp : p < n) : At (zl vs n inp word j).1 ((wW vs n inp word k).getD p 0) (fV vs n inp word k p) := by
 obtain ⟨us, e1, e2⟩ := rowK_eq vs n inp word k
 obtain ⟨u4, h4⟩ := (vW vs n inp word j).2 k hk
 rw [h4, e2, e1]
 exact (Ji _ us n p hp).mono
theorem Xf : ∀ j, ∀ u ∈ (zl vs n inp word j).1, u ∈ vs ∨ ∃ k p, k ≤ j ∧ p < n ∧ u = fV vs n inp word k p
 | 0, u, h => by
  rw [zl] at h
  rcases wV _ vs n u h with h | ⟨p, hp, e⟩
  · exact .inl h
  · exact .inr ⟨0, p, Nat.le_refl _, hp, e⟩
 | j + 1, u, h => by
  rw [zl] at h
  rcases wV _ _ n u h with h | ⟨p, hp, e⟩
  · rcases Xf j u h with h | ⟨k, p, hk, hp, e⟩
    · exact .inl h
    · exact .inr ⟨k, p, by omega, hp, e⟩
  · exact .inr ⟨j + 1, p, Nat.le_refl _, hp, e⟩
theorem gh (h : vs.Nodup) : ∀ j, (zl vs n inp word j).1.Nodup
 | 0 => by rw [zl]; exact jY _ h n
 | j + 1 => by rw [zl]; exact jY _ (gh h j) n
end
structure XFin (p : Pb) (tab : List Vw) (c : Nat) (word : List Rd) (x : Exn) (vs : List Vw) : Prop where
 hc : x.c = (c : Int)
 hw : x.word = word
 hv : x.views = (zl vs p.t.n.toNat (yL p c) word word.length).2
 ht : ∃ us, tab = (zl vs p.t.n.toNat (yL p c) word word.length).1 ++ us
theorem YZ (p : Pb) (l : List (Nat × List Rd)) :
  (∀ i (h : i < l.length), ∃ x vs, (zu p l).2[i]? = some x ∧ XFin p (zu p l).1 l[i].1 l[i].2 x vs) ∧ (∀ u ∈ (zu p l).1, ∃ y ∈ l, ∃ vs k q, k ≤ y.2.length ∧ q < p.t.n.toNat ∧ u = fV vs p.t.n.toNat (yL p y.1) y.2 k q ∧ ∃ us, (zu p l).1 = (zl vs p.t.n.toNat (yL p y.1) y.2 y.2.length).1 ++ us) ∧ (zu p l).1.Nodup := by
 have key : ∀ n, n ≤ l.length →
   (∀ i (h : i < n) (hl : i < l.length), ∃ x vs, (zu p (l.take n)).2[i]? = some x ∧ XFin p (zu p (l.take n)).1 l[i].1 l[i].2 x vs) ∧ (∀ u ∈ (zu p (l.take n)).1, ∃ y ∈ l, ∃ vs k q, k ≤ y.2.length ∧ q < p.t.n.toNat ∧ u = fV vs p.t.n.toNat (yL p y.1) y.2 k q ∧ ∃ us, (zu p (l.take n)).1 = (zl vs p.t.n.toNat (yL p y.1) y.2 y.2.length).1 ++ us) ∧ (zu p (l.take n)).1.Nodup := by
  intro n
  induction n with
  | zero => intro _; exact ⟨fun i h => absurd h (by omega), fun u h => by simp [vt] at h, by simp [vt]⟩
  | succ n ih =>
   intro hn
   obtain ⟨h1, h2, h3⟩ := ih (by omega)
   have hnl : n < l.length := by omega
   have e : zu p (l.take (n + 1)) = ((zl (zu p (l.take n)).1 p.t.n.toNat (yL p l[n].1) l[n].2 l[n].2.length).1, (zu p (l.take n)).2 ++ [⟨l[n].1, l[n].2, (zl (zu p (l.take n)).1 p.t.n.toNat (yL p l[n].1) l[n].2 l[n].2.length).2⟩]) := by
    rw [List.take_succ_eq_append_getElem hnl, qr]
   obtain ⟨⟨u0, hu0⟩, _⟩ := vW (zu p (l.take n)).1 p.t.n.toNat (yL p l[n].1) l[n].2 l[n].2.length
   have hlen : (zu p (l.take n)).2.length = n := by rw [xE, List.length_take]; omega
   rw [e]
   dsimp only
   refine ⟨fun i hi hl => ?_, fun u hu => ?_, gh _ _ _ _ h3 _⟩
   · by_cases hin : i < n
     · obtain ⟨x, vs, hx, ⟨a, b, c, ⟨us, hus⟩⟩⟩ := h1 i hin hl
       refine ⟨x, vs, by rw [List.getElem?_append_left (by omega)]; exact hx, a, b, c, us ++ u0, ?_⟩
       rw [hu0, hus, List.append_assoc]
     · obtain rfl : i = n := by omega
       refine ⟨_, (zu p (l.take i)).1, by rw [List.getElem?_append_right (by omega), hlen, Nat.sub_self]; rfl, rfl, rfl, rfl, [], by simp⟩
   · rcases Xf _ _ _ _ _ u hu with h | ⟨k, q, hk, hq, eu⟩
     · obtain ⟨y, hy, vs, k, q, a, b, c, us, hus⟩ := h2 u h
       exact ⟨y, hy, vs, k, q, a, b, c, us ++ u0, by rw [hu0, hus, List.append_assoc]⟩
     · exact ⟨l[n], List.getElem_mem _, (zu p (l.take n)).1, k, q, hk, hq, eu, [], by simp⟩
 have h := key l.length (Nat.le_refl _)
 rw [List.take_length] at h
 exact ⟨fun i hi => h.1 i hi hi, h.2⟩
theorem own_bit {r : Rd} (h : yC r = 0) (p : Nat) (hp : (p : Int) < r.n) : (r.h p).toNat.testBit p = true := by
 unfold yC at h
 split at h
 · cases h
 · rename_i hn
   have hn1 : 1 ≤ r.n ∧ r.n ≤ 5 := by omega
   have key : ∀ k, k ≤ 5 → yA r (5 - k) k = 0 → ∀ q, k ≤ q → q < 5 → xG r.n q (r.h q) = 0 := by
    intro k hk
    induction hm : 5 - k generalizing k with
    | zero => intro _ q h1 h2; omega
    | succ m ih =>
     intro hz q h1 h2
     unfold yA at hz
     split at hz
     · rename_i hne; exact absurd hz hne
     · rename_i hne
       by_cases e : q = k
       · subst e; simpa using hne
       · exact ih (k + 1) (by omega) (by omega) hz q (by omega) h2
   have h1 := key 0 (by omega) h p (by omega) (by omega)
   unfold xG at h1
   rw [if_neg (by omega)] at h1
   split at h1
   · cases h1
   · split at h1
     · assumption
     · cases h1
theorem seenE_h (r : Rd) (k p : Nat) (now : List Int) (q : Nat) (hq : q < 5) : (xO r k p now).h q = zT r p now q := by
 match q, hq with
 | 0, _ => rfl
 | 1, _ => rfl
 | 2, _ => rfl
 | 3, _ => rfl
 | 4, _ => rfl
structure Fine (s : Sy) (K N : Nat) : Prop where
 n : s.n = (N : Int)
 pn : s.p.t.n = (N : Int)
 k : s.p.k = (K : Int)
 n1 : 1 ≤ N
 n5 : N ≤ 5
 k6 : K ≤ 6
 lv : s.vs.length ≤ 2100
 lx : s.xs.length ≤ 60
 word : ∀ x ∈ s.xs, x.word.length = K ∧ ∀ r ∈ x.word, zZ r = 0 ∧ r.n = (N : Int)
 views : ∀ x ∈ s.xs, x.views.length = K + 1 ∧ ∀ l ∈ x.views, l.length = N ∧ ∀ i ∈ l, 0 ≤ i ∧ i < s.vs.length
 vs : ∀ v ∈ s.vs, (∃ q : Nat, v.p = (q : Int) ∧ q < N) ∧ (∃ r : Nat, v.r = (r : Int) ∧ r ≤ K) ∧ (0 < v.r → ∃ u, At s.vs (v.h v.p.toNat) u ∧ u.p = v.p ∧ u.r = v.r - 1)
theorem Ze {p : Pb} (hf : xb p) (h0 : zJ p = 0) (h60 : zP p ≤ 60) : ∃ K N, Fine (zD p) K N := by
 obtain ⟨hpt, hpa, hpn, hk0, hk6⟩ := zO h0
 obtain ⟨h1, hn1, hn5⟩ := yB hpt
 obtain ⟨r1, r2⟩ := Yc p h0 h60
 obtain ⟨K, hK⟩ := Int.eq_ofNat_of_zero_le hk0
 obtain ⟨N, hN⟩ := Int.eq_ofNat_of_zero_le (show 0 ≤ p.t.n by omega)
 have hNN : p.t.n.toNat = N := by omega
 obtain ⟨f1, f2, f3⟩ := YZ p (zn p)
 have hpr : ∀ y ∈ zn p, y.2.length = K ∧ ∀ r ∈ y.2, zZ r = 0 ∧ r.n = (N : Int) := fun y hy => by
  unfold zn at hy
  obtain ⟨d, _, hy⟩ := List.mem_flatMap.1 hy
  obtain ⟨w', hw', rfl⟩ := List.mem_map.1 hy
  refine ⟨by show w'.length = K; rw [yV p.a _ 0 w' hw']; omega, fun r hr => ?_⟩
  obtain ⟨m, hm, rfl⟩ := kB p.a _ 0 w' hw' r hr
  obtain ⟨z1, z2, _⟩ := xk (yR hf.1.2 hpa).1 m hm
  exact ⟨z1, by rw [z2, ← hpn, hN]⟩
 have hx : ∀ x ∈ (zu p (zn p)).2, ∃ y ∈ zn p, ∃ vs, XFin p (zu p (zn p)).1 y.1 y.2 x vs := fun x hx => by
  obtain ⟨i, hi, e⟩ := List.getElem_of_mem hx
  rw [xE] at hi
  obtain ⟨x', vs, hx', hh⟩ := f1 i hi
  have : x = x' := by
   rw [List.getElem?_eq_getElem (by rw [xE]; exact hi), e] at hx'
   exact Option.some.inj hx'
  subst this
  exact ⟨_, List.getElem_mem hi, vs, hh⟩
 refine ⟨K, N, hN, hN, hK, by omega, by omega, by omega, r1, r2, fun x hm => ?_, fun x hm => ?_, fun v hv => ?_⟩
 · obtain ⟨y, hy, vs, hh⟩ := hx x hm
   rw [hh.hw]
   exact hpr y hy
 · obtain ⟨y, hy, vs, hh⟩ := hx x hm
   obtain ⟨hyl, _⟩ := hpr y hy
   rw [hh.hv]
   refine ⟨by rw [yg, hyl], fun l hl => ?_⟩
   obtain ⟨k, hk, rfl⟩ := List.getElem_of_mem hl
   rw [yg] at hk
   have e : (zl vs p.t.n.toNat (yL p y.1) y.2 y.2.length).2[k]'(by rw [yg]; exact hk) = wW vs p.t.n.toNat (yL p y.1) y.2 k := by
    rw [← va vs p.t.n.toNat (yL p y.1) y.2 y.2.length k (by omega), List.getD_eq_getElem?_getD, List.getElem?_eq_getElem (by rw [yg]; exact hk)]; rfl
   rw [e]
   refine ⟨by rw [vu, hNN], fun i hi => ?_⟩
   obtain ⟨q, hq, rfl⟩ := List.getElem_of_mem hi
   rw [vu] at hq
   have ha := Yf vs p.t.n.toNat (yL p y.1) y.2 y.2.length k q (by omega) hq
   obtain ⟨us, hus⟩ := hh.ht
   have hb := (ha.mono (us := us))
   rw [← hus, List.getD_eq_getElem?_getD, List.getElem?_eq_getElem (by rw [vu]; exact hq)] at hb
   exact hb.lt
 · obtain ⟨y, hy, vs, k, q, hk, hq, rfl, us, hus⟩ := f2 v hv
   obtain ⟨hyl, hyr⟩ := hpr y hy
   cases k with
   | zero => exact ⟨⟨q, rfl, by omega⟩, ⟨0, rfl, by omega⟩, fun h => absurd h (by show ¬ ((0 : Int) < 0); omega)⟩
   | succ k =>
    refine ⟨⟨q, rfl, by omega⟩, ⟨k + 1, rfl, by omega⟩, fun _ => ⟨fV vs p.t.n.toNat (yL p y.1) y.2 k q, ?_, ?_, ?_⟩⟩
    · have hkl : k < y.2.length := by omega
      have hg : y.2.getD k default = y.2[k] := by rw [List.getD_eq_getElem?_getD, List.getElem?_eq_getElem hkl]; rfl
      have hrd := hyr _ (List.getElem_mem hkl)
      have hb := own_bit (kE hrd.1).2.2.1 q (by rw [hrd.2]; omega)
      have e : (fV vs p.t.n.toNat (yL p y.1) y.2 (k + 1) q).h ((fV vs p.t.n.toNat (yL p y.1) y.2 (k + 1) q).p.toNat) = (wW vs p.t.n.toNat (yL p y.1) y.2 k).getD q 0 := by
       show (xO (y.2.getD k default) (k + 1) q (wW vs p.t.n.toNat (yL p y.1) y.2 k)).h ((q : Int).toNat) = _
       rw [Int.toNat_natCast, seenE_h _ _ _ _ _ (by omega), hg]
       unfold zT
       rw [if_pos ⟨by rw [vu]; exact hq, hb⟩]
      rw [e]
      show At (zu p (zn p)).1 _ _
      rw [hus]
      exact (Yf vs p.t.n.toNat (yL p y.1) y.2 y.2.length k q (by omega) hq).mono
    · cases k <;> rfl
    · cases k with
      | zero => show (0 : Int) = ((0 + 1 : Nat) : Int) - 1; rfl
      | succ k => show ((k + 1 : Nat) : Int) = ((k + 1 + 1 : Nat) : Int) - 1; omega
end
section
open Go.RowKit Go.Shelf
attribute [local go_sem] Oper.semAt_some
def RetBt (p : Pb) (A : Option Addr) (kc : Nat) (SV : Option Addr) (ks : Nat) (w : World) (e : Ending) (w' : World) : Prop :=
 ∃ AV kv AE ke, e = .returned (.agg #[.int .i64 p.t.n, .int .i64 p.t.ins, .int .i64 p.t.outs, .slice A p.t.cases.length kc, .int .i64 p.a.n, .slice SV p.a.sts.length ks, .int .i64 p.k, .int .i64 p.t.n, .slice AV (zu p (zn p)).1.length kv, .slice AE (zu p (zn p)).2.length ke]) ∧
  OwnV w' w.heap.size (.slice AV (zu p (zn p)).1.length kv) (zu p (zn p)).1 ∧ OwnX cXn (fun k => w.heap.size ≤ k) w' w.heap.size (.slice AE (zu p (zn p)).2.length ke) (zu p (zn p)).2 ∧ Below w.heap.size w w'
set_option maxRecDepth 100000 in
theorem built_any (p : Pb) (hf : xb p) (hpe : zJ p = 0) (h60 : zP p ≤ 60) (A : Option Addr) (kc : Nat) (SV : Option Addr) (ks : Nat) (w : World) (hA : CAt w w.heap.size A p.t.cases) (hS : SAt w w.heap.size SV p.a.sts) :
  Calls Tryz.prog 151 #[.agg (p.vs A kc SV ks)] w (RetBt p A kc SV ks w) := by
 obtain ⟨hpt, hpa, hpn, hpk0, hpk6⟩ := zO hpe
 obtain ⟨K, hK⟩ := Int.eq_ofNat_of_zero_le hpk0
 obtain ⟨hcs1, hn1, hn5⟩ := yB hpt
 have hK6 : K ≤ 6 := by omega
 have hexT : zP p = zN p.a K 0 * p.t.cases.length := by unfold zP; rw [hK]; rfl
 have hcnt : zN p.a K 0 ≤ 60 := by
  have := Nat.le_mul_of_pos_right (zN p.a K 0) hcs1
  omega
 obtain ⟨hz, hs1⟩ : zv p.a p.a.sts = 0 ∧ 1 ≤ p.a.sts.length := ⟨(yR hf.1.2 hpa).1, (yR hf.1.2 hpa).2.1⟩
 obtain ⟨N, hN⟩ := Int.eq_ofNat_of_zero_le (show 0 ≤ p.t.n by omega)
 have HFX := zH hf
 have HPA := zH hpa
 have HPN := zH hpn
 have HTI := zH (YT hpt)
 obtain ⟨w1, hw1, d0, d1, d2, hsz, hBw⟩ := kC w (p.vs A kc SV ks) #[.int .i64 0, .int .i64 0, .int .i64 0, .slice none 0 0, .int .i64 0, .slice none 0 0, .int .i64 0, .int .i64 0, .slice none 0 0, .slice none 0 0] #[.int .i64 p.t.n, .int .i64 p.t.ins, .int .i64 p.t.outs, .slice A p.t.cases.length kc, .int .i64 p.a.n, .slice SV p.a.sts.length ks, .int .i64 p.k, .int .i64 p.t.n, .slice none 0 0, .slice none 0 0] 29 35 35
 have hFR := ZO p.a SV ks hz hf.1.2 K hK6 0 w1 (by by_cases h : K = 0; exact .inl h; exact .inr ⟨by omega, by omega⟩) (by rw [yo]; omega) ((hS.keep hBw).more hBw.size)
 have HFR := zH hFR
 have HA := zH hA
 have HS := zH hS
 have HBW := zH hBw
 have HD0 := zH d0
 have HD1 := zH d1
 have HD2 := zH d2
 have HW1 := zH hw1
 have HKE := zH hK
 have HNN := zH hN
 have HEX := zH hexT
 have H60 := zH h60
 have HCS := zH hcs1
 have hN1 : 1 ≤ N ∧ N ≤ 5 := by omega
 clear hw1 d0 d1 d2 hBw hA hS hf hK hN hexT h60 hpe hpt hpa hpn hpk0 hpk6 hn1 hn5 hz hs1 hFR hcs1
 unfold Pb.vs at HW1 HD0 ⊢
 go_enter Tryz.func151, Tryz.ntmps151
 go_wp2_with fail
 rw [HW1.out]
 have hFR := HFR.out
 unfold kz at HFR
 rw [← HKE.out] at hFR
 refine hFR.mono ?_
 rintro e wr ⟨v, rfl, hW, hb⟩
 have hbw := HBW.out.size
 obtain ⟨words, hwords⟩ : ∃ words, zy p.a K 0 = words := ⟨_, rfl⟩
 rw [hwords] at hW
 obtain ⟨AW, cw, rfl, hWD⟩ := WdsAt.of (bs := w.heap.size + 1 + 1) hW (by omega) rfl
 obtain ⟨SC, hSC⟩ : ∃ SC : Value → Value → Array Value, SC = fun V E => #[.int .i64 p.t.n, .int .i64 p.t.ins, .int .i64 p.t.outs, .slice A p.t.cases.length kc, .int .i64 p.a.n, .slice SV p.a.sts.length ks, .int .i64 p.k, .int .i64 p.t.n, V, E] := ⟨_, rfl⟩
 obtain ⟨WR, rfl⟩ : ∃ x, x = wr := ⟨_, rfl⟩
 obtain ⟨D, hD⟩ : ∃ D, D = WR.heap.size := ⟨_, rfl⟩
 have hDb : w.heap.size + 3 ≤ D := by have := hb.size; omega
 have H0 : Hid (Bt D (w.heap.size + 1 + 1) SC WR [] [] (.slice none 0 0) (.slice none 0 0) WR) :=
  ⟨Wrote.refl _ _, by omega, by omega, by omega, by rw [hSC]; exact (hb.block _ (by omega)).trans HD2.out, OwnV.nil _ _, OwnX.nil _ _ _ _, fun k e => (by cases e)⟩
 have HP0 : Hid (WR.heap[w.heap.size]? = some (.cells #[.int .i64 p.t.n, .int .i64 p.t.ins, .int .i64 p.t.outs, .slice A p.t.cases.length kc, .int .i64 p.a.n, .slice SV p.a.sts.length ks, .int .i64 p.k] 29 (0, 0))) := (hb.block _ (by omega)).trans HD0.out
 have HP1 : Hid (WR.heap[w.heap.size + 1]? = some (.cells #[.int .i64 0, .int .i64 0, .int .i64 0, .slice none 0 0, .int .i64 0, .slice none 0 0, .int .i64 0, .int .i64 0, .slice none 0 0, .slice none 0 0] 35 (0, 0))) := (hb.block _ (by omega)).trans HD1.out
 have HBR : Hid (Below w.heap.size w WR) := HBW.out.trans (hb.mono (by omega))
 have HWD := zH hWD
 rw [← hD] at HWD
 have HSC := zH hSC
 have HWE := zH hwords
 have HDD := zH hD
 have hc30 : p.t.cases.length ≤ 30 := HFX.out.1.1.1
 have hwl : words.length ≤ 60 := by rw [← hwords, yo]; exact hcnt
 have HW6 : Hid (∀ x ∈ words, x.length ≤ 6) := fun x hx => by rw [← hwords] at hx; rw [yV p.a K 0 x hx]; exact hK6
 clear hW hb hSC hwords hD hWD HD0 HD1 HD2 HW1 HBW HFR hFR hbw hsz
 go_wp2_with fail
 go_loopw [5] (fun i wx => ∃ (c : Nat) (V E : Value), c ≤ p.t.cases.length ∧ i = .int .i64 (c : Int) ∧ Hid (Bt D (w.heap.size + 1 + 1) SC WR (zu p (pcs words c)).1 (zu p (pcs words c)).2 V E wx)) (fun i _ => p.t.cases.length - (intOf i).toNat)
 case atStart => exact ⟨0, _, _, by omega, rfl, H0.out⟩
 case round =>
  clear H0
  obtain ⟨c, V0, E0, hc, rfl, HB0⟩ := hrel
  have hbig := HB0.out.big
  have hsame : ∀ k, k < D → k ≠ w.heap.size + 1 + 1 → wr.heap[k]? = WR.heap[k]? := fun k h1 h2 => HB0.out.wr.block k (by have := HDD.out; omega) h2
  have P0 := (hsame _ (by omega) (by omega)).trans HP0.out
  have p0 : wr.cell? ⟨w.heap.size, 0, none⟩ = some (.int .i64 p.t.n) := za P0 0 rfl
  have p3 : wr.cell? ⟨w.heap.size, 3, none⟩ = some (.slice A p.t.cases.length kc) := za P0 3 rfl
  have p6 : wr.cell? ⟨w.heap.size, 6, none⟩ = some (.int .i64 p.k) := za P0 6 rfl
  by_cases hcM : c < p.t.cases.length
  case neg =>
   obtain rfl : c = p.t.cases.length := by omega
   have hcs60 : p.t.cases.length * words.length ≤ 60 := by have h1 := HEX.out; have h2 := H60.out; have h3 := congrArg List.length HWE.out; rw [yo] at h3; rw [h3, Nat.mul_comm] at h1; omega
   obtain ⟨AV, kv, rfl, _⟩ := HB0.out.tb.form (by have := wR p words (by have := HNN.out; omega) HW6.out p.t.cases.length hcs60; omega)
   obtain ⟨AE, ke, rfl, _, _, _⟩ := HB0.out.out.form yO
   have hres := (hsame (w.heap.size + 1) (by omega) (by omega)).trans HP1.out
   have hsys := HB0.out.sys
   rw [HSC.out] at hsys
   have s0 : wr.cell? ⟨w.heap.size + 1 + 1, 0, none⟩ = some (.int .i64 p.t.n) := za hsys 0 rfl
   have s1 : wr.cell? ⟨w.heap.size + 1 + 1, 1, none⟩ = some (.int .i64 p.t.ins) := za hsys 1 rfl
   have s2 : wr.cell? ⟨w.heap.size + 1 + 1, 2, none⟩ = some (.int .i64 p.t.outs) := za hsys 2 rfl
   have s3 : wr.cell? ⟨w.heap.size + 1 + 1, 3, none⟩ = some (.slice A p.t.cases.length kc) := za hsys 3 rfl
   have s4 : wr.cell? ⟨w.heap.size + 1 + 1, 4, none⟩ = some (.int .i64 p.a.n) := za hsys 4 rfl
   have s5 : wr.cell? ⟨w.heap.size + 1 + 1, 5, none⟩ = some (.slice SV p.a.sts.length ks) := za hsys 5 rfl
   have s6 : wr.cell? ⟨w.heap.size + 1 + 1, 6, none⟩ = some (.int .i64 p.k) := za hsys 6 rfl
   have s7 : wr.cell? ⟨w.heap.size + 1 + 1, 7, none⟩ = some (.int .i64 p.t.n) := za hsys 7 rfl
   have s8 : wr.cell? ⟨w.heap.size + 1 + 1, 8, none⟩ = some (.slice AV (zu p (pcs words p.t.cases.length)).1.length kv) := za hsys 8 rfl
   have s9 : wr.cell? ⟨w.heap.size + 1 + 1, 9, none⟩ = some (.slice AE (zu p (pcs words p.t.cases.length)).2.length ke) := za hsys 9 rfl
   have y0 : wr.cell? ⟨w.heap.size + 1, 0, none⟩ = some (.int .i64 0) := za hres 0 rfl
   have f0 := zb hres 0
   have y1 : wr.cell? ⟨w.heap.size + 1, 1, none⟩ = some (.int .i64 0) := za hres 1 rfl
   have f1 := zb hres 1
   have y2 : wr.cell? ⟨w.heap.size + 1, 2, none⟩ = some (.int .i64 0) := za hres 2 rfl
   have f2 := zb hres 2
   have y3 : wr.cell? ⟨w.heap.size + 1, 3, none⟩ = some (.slice none 0 0) := za hres 3 rfl
   have f3 := zb hres 3
   have y4 : wr.cell? ⟨w.heap.size + 1, 4, none⟩ = some (.int .i64 0) := za hres 4 rfl
   have f4 := zb hres 4
   have y5 : wr.cell? ⟨w.heap.size + 1, 5, none⟩ = some (.slice none 0 0) := za hres 5 rfl
   have f5 := zb hres 5
   have y6 : wr.cell? ⟨w.heap.size + 1, 6, none⟩ = some (.int .i64 0) := za hres 6 rfl
   have f6 := zb hres 6
   have y7 : wr.cell? ⟨w.heap.size + 1, 7, none⟩ = some (.int .i64 0) := za hres 7 rfl
   have f7 := zb hres 7
   have y8 : wr.cell? ⟨w.heap.size + 1, 8, none⟩ = some (.slice none 0 0) := za hres 8 rfl
   have f8 := zb hres 8
   have y9 : wr.cell? ⟨w.heap.size + 1, 9, none⟩ = some (.slice none 0 0) := za hres 9 rfl
   have f9 := zb hres 9
   have HFN := zH HB0.out
   have hbl : Below w.heap.size w wr := HBR.out.trans (HB0.out.wr.below (by have := HBR.out.size; omega) (fun k h1 h2 => by have h3 : k = w.heap.size + 1 + 1 := h2; omega))
   obtain ⟨k1, k2, k3, k4, k5⟩ := qI (.int .i64 p.t.n) (.int .i64 p.t.ins) (.int .i64 p.t.outs) (.slice A p.t.cases.length kc) (.int .i64 p.a.n) (.slice SV p.a.sts.length ks) (.int .i64 p.k) (.int .i64 p.t.n) (.slice AV (zu p (pcs words p.t.cases.length)).1.length kv) (.slice AE (zu p (pcs words p.t.cases.length)).2.length ke) hres hbl (by omega : w.heap.size ≤ w.heap.size + 1)
   obtain ⟨WF, hWF⟩ : ∃ WF, ((((((((((wr.setCell ⟨w.heap.size + 1, 0, none⟩ (.int .i64 p.t.n)).setCell ⟨w.heap.size + 1, 1, none⟩ (.int .i64 p.t.ins)).setCell ⟨w.heap.size + 1, 2, none⟩ (.int .i64 p.t.outs)).setCell ⟨w.heap.size + 1, 3, none⟩ (.slice A p.t.cases.length kc)).setCell ⟨w.heap.size + 1, 4, none⟩ (.int .i64 p.a.n)).setCell ⟨w.heap.size + 1, 5, none⟩ (.slice SV p.a.sts.length ks)).setCell ⟨w.heap.size + 1, 6, none⟩ (.int .i64 p.k)).setCell ⟨w.heap.size + 1, 7, none⟩ (.int .i64 p.t.n)).setCell ⟨w.heap.size + 1, 8, none⟩ (.slice AV (zu p (pcs words p.t.cases.length)).1.length kv)).setCell ⟨w.heap.size + 1, 9, none⟩ (.slice AE (zu p (pcs words p.t.cases.length)).2.length ke)) = WF := ⟨_, rfl⟩
   rw [hWF] at k1 k2 k3 k4 k5
   have K1 := zH k1
   have K2 := zH k2
   have K4 := zH k4
   have K5 := zH k5
   have HWF := zH hWF
   clear hres hsys P0 hbl k1 k2 k3 k4 k5 hWF
   go_wp2_with fail
   rw [HWF.out]
   obtain ⟨z0, z1, z2, z3, z4, z5, z6, z7, z8, z9⟩ := zx K1.out
   refine bodyPost_ret (v := .agg #[.int .i64 p.t.n, .int .i64 p.t.ins, .int .i64 p.t.outs, .slice A p.t.cases.length kc, .int .i64 p.a.n, .slice SV p.a.sts.length ks, .int .i64 p.k, .int .i64 p.t.n, .slice AV (zu p (pcs words p.t.cases.length)).1.length kv, .slice AE (zu p (pcs words p.t.cases.length)).2.length ke]) (by simp [results, Tryz.results151, go_sem, z0, z1, z2, z3, z4, z5, z6, z7, z8, z9]) rfl ?_
   have hpe : zn p = pcs words p.t.cases.length := by rw [Yg, ← HWE.out, show p.k.toNat = K by have := HKE.out; omega]
   unfold RetBt
   rw [hpe]
   have hbw := HFN.out.big
   refine ⟨AV, kv, AE, ke, rfl, ?_, ?_, K2.out⟩
   · exact (HFN.out.tb.of_same fun k hk => K4.out k (by have := (HFN.out.tb.lt' k hk).1; omega)).low (by omega)
   · exact (OwnX.mono yO (HFN.out.out.keep yO ⟨by have := K5.out; omega, fun k hs _ => K4.out k (by omega)⟩ fun k hk => K4.out k (by have := (HFN.out.out.lt k hk).1; omega)) fun k _ hs => (by omega)).low (by omega)
  case pos =>
   have hc1 : (c : Int) < (p.t.cases.length : Int) := by omega
   have HSM := zH hsame
   clear hsame P0
   go_wp2_with fail
   obtain ⟨wo, rfl⟩ : ∃ x, x = wr := ⟨_, rfl⟩
   go_loopw [6] (fun i wx => ∃ (j : Nat) (V E : Value), j ≤ words.length ∧ i = .int .i64 (j : Int) ∧ Hid (Bt D (w.heap.size + 1 + 1) SC WR (zu p (pcw words c j)).1 (zu p (pcw words c j)).2 V E wx)) (fun i _ => words.length - (intOf i).toNat)
   case atStart => exact ⟨0, V0, E0, by omega, rfl, by rw [Xg]; exact HB0.out⟩
   case round =>
    obtain ⟨j, V1, E1, hj, rfl, HB1⟩ := hrel
    by_cases hjW : j < words.length
    case neg =>
     obtain rfl : j = words.length := by omega
     have HBe := zH (by have h := HB1.out; rw [pcw_end] at h; exact h)
     clear HB1
     go_wp2_with fail
     go_roundw
     case rel => exact ⟨c + 1, V1, E1, by omega, by go_num, HBe.out⟩
     case measure => simp [intOf]; omega
    case pos =>
     obtain ⟨gw, A2, c2, eAW, hg1, hg2, hcw, hR2⟩ := HWD.out j hjW
     subst eAW
     have hKp : KeepB (fun k => k < D ∧ k ≠ w.heap.size + 1 + 1) WR wr := HB1.out.wr.keep fun k _ hs => hs.2
     have hw0 : wr.cell? ⟨gw, j, none⟩ = some (.slice A2 words[j].length c2) := qt hKp ⟨hg2, by omega⟩ hcw
     have hst : c * words.length + j < 60 := by
      have h1 := HEX.out
      have h2 := H60.out
      have h3 := congrArg List.length HWE.out
      rw [yo] at h3
      rw [h3, Nat.mul_comm] at h1
      have h4 := Nat.mul_le_mul_right words.length (show c + 1 ≤ p.t.cases.length by omega)
      rw [Nat.succ_mul] at h4
      omega
     obtain ⟨hv0, hx0⟩ := ZB p words (by have := HNN.out; omega) HW6.out c j (by omega) (by omega)
     have hrs := qr p (pcw words c j) (c, words[j])
     rw [← pcw_succ words c j hjW] at hrs
     obtain ⟨word, hword⟩ : ∃ word, words[j] = word := ⟨_, rfl⟩
     rw [hword] at hw0 hR2 hrs hcw
     have hwm : word ∈ zy p.a K 0 := by rw [HWE.out, ← hword]; exact List.getElem_mem hjW
     have hwk := yV p.a K 0 word hwm
     have HWF : Hid (∀ r ∈ word, zZ r = 0 ∧ r.n = (N : Int)) := fun r hr => by
      obtain ⟨m, hm, rfl⟩ := kB p.a K 0 word hwm r hr
      obtain ⟨z1, z2, _⟩ := xk (yR HFX.out.1.2 HPA.out).1 m hm
      exact ⟨z1, by rw [z2, ← HPN.out, HNN.out]⟩
     obtain ⟨AE, ke, rfl, _, _, _⟩ := HB1.out.out.form yO
     obtain ⟨vs0, hvs0⟩ : ∃ vs0, (zu p (pcw words c j)).1 = vs0 := ⟨_, rfl⟩
     obtain ⟨xs0, hxs0⟩ : ∃ xs0, (zu p (pcw words c j)).2 = xs0 := ⟨_, rfl⟩
     rw [hvs0, hxs0] at hrs HB1
     rw [hvs0] at hv0
     rw [hxs0] at hx0
     have hinp : yL p c = p.t.cases[c].inp := by unfold yL; rw [List.getD_eq_getElem?_getD, List.getElem?_eq_getElem hcM]; rfl
     have HRUN : Hid (zu p (pcw words c (j + 1)) = ((stQ vs0 N p.t.cases[c].inp word (K + 1)).1, xs0 ++ [⟨(c : Int), word, (stQ vs0 N p.t.cases[c].inp word (K + 1)).2⟩])) := by
      rw [hrs]
      show (_, _) = _
      rw [hinp, hwk, show p.t.n.toNat = N by have := HNN.out; omega]
      rfl
     obtain ⟨bc, oc, A0, c0, A1', c1', A2', c2', eA, hbcl, hcc0, _, _, hIn, _, _⟩ := HA.out.row c hcM
     subst eA
     have hinl : p.t.cases[c].inp.length = N := by have h1 := HTI.out _ (List.getElem_mem hcM); have := HNN.out; omega
     obtain ⟨inp, hinpe⟩ : ∃ inp, p.t.cases[c].inp = inp := ⟨_, rfl⟩
     rw [hinpe] at hcc0 hIn HRUN hinl
     have HIN := zH hIn
     have HGW := zH hcw
     have HC0 := zH hcc0
     have HR2 := zH hR2
     have HIL := zH hinl
     have HX0 : Hid (xs0.length < 60) := by show xs0.length < 60; omega
     have HV0 := zH hv0
     have HWK := zH hwk
     have hj1 : (j : Int) < (words.length : Int) := by omega
     have hgwl : gw < wr.heap.size := by have := HB1.out.big; omega
     clear hinl hinpe hrs hinp hIn hcc0 hR2 hcw hKp hvs0 hxs0 hword hwm hx0 hv0 hwk
     go_wp2_with fail
     clear hw0
     obtain ⟨W1, hW1, x1, hs1, hB1⟩ := zi wr #[.int .i64 c, .slice A2 word.length c2, .slice none 0 0] 94
     rw [hW1]
     have HQ0 : Hid (Bq D (w.heap.size + 1 + 1) wr.heap.size SC WR c (.slice A2 word.length c2) vs0 xs0 [] [] V1 (.slice AE xs0.length ke) (.slice none 0 0) (.slice none 0 0) W1) := Bt.start HB1.out hB1 x1
     clear hW1 x1 hs1 hB1 HB1
     obtain ⟨bx, hbx⟩ : ∃ bx, bx = wr.heap.size := ⟨_, rfl⟩
     rw [← hbx] at HQ0 ⊢
     clear hbx
     go_loopw [8] (fun i wx => ∃ (k : Nat) (V Y : Value), k ≤ K + 1 ∧ i = .int .i64 (k : Int) ∧ Hid (Bq D (w.heap.size + 1 + 1) bx SC WR c (.slice A2 word.length c2) (stQ vs0 N inp word k).1 xs0 (stQ vs0 N inp word k).2 [] V (.slice AE xs0.length ke) Y (.slice none 0 0) wx)) (fun i _ => K + 1 - (intOf i).toNat)
     case atStart => exact ⟨0, V1, _, by omega, rfl, HQ0.out⟩
     case round =>
      clear HQ0
      obtain ⟨k, V2, Y2, hk, rfl, HQ⟩ := hrel
      have hbig := HQ.out.big
      have P0 := (HQ.out.wr.block _ (by have := HDD.out; omega) (by omega)).trans HP0.out
      have p0 : wr.cell? ⟨w.heap.size, 0, none⟩ = some (.int .i64 p.t.n) := za P0 0 rfl
      have p3 : wr.cell? ⟨w.heap.size, 3, none⟩ = some (.slice (some ⟨bc, oc, none⟩) p.t.cases.length kc) := za P0 3 rfl
      have p6 : wr.cell? ⟨w.heap.size, 6, none⟩ = some (.int .i64 p.k) := za P0 6 rfl
      clear P0
      by_cases hkK : k ≤ K
      case neg =>
       have HKQ : Hid (k = K + 1) := by show k = K + 1; omega
       have hle : ¬ ((k : Int) ≤ p.k) := by have := HKE.out; omega
       obtain ⟨AY, ky, rfl, _, _, _⟩ := HQ.out.vw.form yv
       have hsys := HQ.out.sys
       rw [HSC.out] at hsys
       have HSY := zH hsys
       have s9 : wr.cell? ⟨w.heap.size + 1 + 1, 9, none⟩ = some (.slice AE xs0.length ke) := za hsys 9 rfl
       have f9 := zb hsys 9
       have x0 : wr.cell? ⟨bx, 0, none⟩ = some (.int .i64 c) := za HQ.out.x 0 rfl
       have x1 : wr.cell? ⟨bx, 1, none⟩ = some (.slice A2 word.length c2) := za HQ.out.x 1 rfl
       have x2 : wr.cell? ⟨bx, 2, none⟩ = some (.slice AY (stQ vs0 N inp word k).2.length ky) := za HQ.out.x 2 rfl
       have HG4 := zH (zh wr (.cells #[.int .i64 c, .slice A2 word.length c2, .slice AY (stQ vs0 N inp word k).2.length ky] 94))
       have HO4 := zH (HQ.out.out.below yO (zI wr (.cells #[.int .i64 c, .slice A2 word.length c2, .slice AY (stQ vs0 N inp word k).2.length ky] 94)) (Nat.le_refl _))
       have hbsl := HQ.out.bsl
       have hbsw : w.heap.size + 1 + 1 < wr.heap.size := by omega
       have hbxl := HQ.out.bxl
       clear hsys
       go_wp2_with (at_builtin; obtain ⟨css, hcl, hcr, hcs⟩ := HO4.out; refine yx kXn_ok rfl (.tmp 110) (.tmp 112) rfl D (.slice AE xs0.length ke) xs0.length css.flatten rfl hcr wr.heap.size #[.int .i64 c, .slice A2 word.length c2, .slice AY (stQ vs0 N inp word k).2.length ky] rfl HG4.out rfl (by simp [Value.oneCell']) (Nat.le_trans (Nat.le_of_lt HX0.out) (by decide)) (by simp; omega) _ rfl ?_; intro g' cap w7 hr7 hg7 hat7 hlt7; have b7 := (hg7.block _ (by simp; omega) (fun e => HO4.out.ne hbsl e.symm)).trans (ye HSY.out _); have c7 := za b7 9 rfl; have fr7 := zb b7 9; have HDN := zH (Bq.done HQ.out (zI wr _) hcl hcs rfl rfl HR2.out hr7 hg7 hat7 (by rw [HSC.out]; rfl)); clear hr7 hg7 hat7 hcl hcs hcr b7)
       go_roundw
       case rel => exact ⟨j + 1, V2, _, by omega, by go_num, by rw [HRUN.out, ← HKQ.out]; exact HDN.out⟩
       case measure => simp [intOf]; omega
      case pos =>
       have hle : (k : Int) ≤ p.k := by have := HKE.out; omega
       have hkw : k ≤ 6 := by omega
       obtain ⟨vk, hvk⟩ : ∃ vk, (stQ vs0 N inp word k).1 = vk := ⟨_, rfl⟩
       obtain ⟨yk, hyk⟩ : ∃ yk, (stQ vs0 N inp word k).2 = yk := ⟨_, rfl⟩
       obtain ⟨f, hf⟩ : ∃ f, fQ inp word yk k = f := ⟨_, rfl⟩
       have hyl := stQ_len vs0 N inp word k
       have hvl := Je vs0 N inp word k
       have hyr := stQ_row vs0 N inp word k
       have hss := stQ_succ vs0 N inp word k
       rw [hvk, hyk] at HQ
       rw [hyk] at hyl hyr
       rw [hvk] at hvl
       rw [hvk, hyk, hf] at hss
       have HSS := zH hss
       have HYR := zH hyr
       have HYL := zH hyl
       have HVL : Hid (vk.length ≤ 2100 + 30) := by
        have h1 := Nat.mul_le_mul hkw hN1.2
        have h2 := HV0.out
        show vk.length ≤ 2130
        omega
       have HFF := zH hf
       clear hvk hyk hf hyl hvl hyr hss
       obtain ⟨AY, ky, rfl, _, _, _⟩ := HQ.out.vw.form yv
       go_wp2_with fail
       clear p0 p3 p6
       go_loopw [9, 10] (fun l i wx => ∃ (q : Nat) (V : Value), q ≤ N ∧ i = .int .i64 (q : Int) ∧ Hid (Bq D (w.heap.size + 1 + 1) bx SC WR c (.slice A2 word.length c2) (zV f vk q).1 xs0 yk (zV f vk q).2 V (.slice AE xs0.length ke) (.slice AY yk.length ky) l wx)) (fun _ i _ => N - (intOf i).toNat)
       case atStart => exact ⟨0, V2, by omega, rfl, HQ.out⟩
       case round =>
        clear HQ
        obtain ⟨q, V3, hq, rfl, HQ⟩ := hrel
        have hbig := HQ.out.big
        have P0 := (HQ.out.wr.block _ (by have := HDD.out; omega) (by omega)).trans HP0.out
        have p0 : wr.cell? ⟨w.heap.size, 0, none⟩ = some (.int .i64 p.t.n) := za P0 0 rfl
        have p3 : wr.cell? ⟨w.heap.size, 3, none⟩ = some (.slice (some ⟨bc, oc, none⟩) p.t.cases.length kc) := za P0 3 rfl
        clear P0
        obtain ⟨AL, kl, eL, hkl1, hkl2, _⟩ := HQ.out.row.form
        subst eL
        by_cases hqN : q < N
        case neg =>
         have HQQ : Hid (q = N) := by show q = N; omega
         have hqn : ¬ ((q : Int) < p.t.n) := by have := HNN.out; omega
         have x2 : wr.cell? ⟨bx, 2, none⟩ = some (.slice AY yk.length ky) := za HQ.out.x 2 rfl
         have HG4 := zH (zh wr (.cells #[.slice AL (zV f vk q).2.length kl] 38))
         have HO4 := zH (HQ.out.vw.below yv (zI wr (.cells #[.slice AL (zV f vk q).2.length kl] 38)) (Nat.le_refl _))
         have hbxl := HQ.out.bxl
         have hbxD := HQ.out.hx
         go_wp2_with (at_builtin; obtain ⟨css, hcl, hcr, hcs⟩ := HO4.out; refine yx Yv rfl (.tmp 104) (.tmp 106) rfl D (.slice AY yk.length ky) yk.length css.flatten rfl hcr wr.heap.size #[.slice AL (zV f vk q).2.length kl] rfl HG4.out rfl (by simp [Value.oneCell']) (by rw [HYL.out]; omega) (by simp; omega) _ rfl ?_; intro g' cap w7 hr7 hg7 hat7 hlt7; have b7 := (hg7.block bx (by simp; omega) (fun e => (HQ.out.nY bx e.symm).1 rfl)).trans (ye HQ.out.x _); have c7 := za b7 2 rfl; have fr7 := zb b7 2; have HCL := zH (Bq.close HQ.out (zI wr _) hcl hcs hr7 hg7 hat7); clear hr7 hg7 hat7 hcl hcs hcr b7)
         go_roundw
         case rel => exact ⟨k + 1, V3, _, by omega, by go_num, by rw [HSS.out, ← HQQ.out]; exact HCL.out⟩
         case measure => simp [intOf]; omega
        case pos =>
         have hqn : (q : Int) < p.t.n := by have := HNN.out; omega
         have hbel : Below w.heap.size w wr := HBR.out.trans (HQ.out.wr.below (by have := HBR.out.size; omega) (fun k h1 h2 => by have h3 : k = w.heap.size + 1 + 1 := h2; omega))
         have hcw := (hbel.cell (p := ⟨bc, oc + c * 3, none⟩) hbcl).trans HC0.out
         have hqi : q < inp.length := by have := HIL.out; omega
         obtain ⟨bi, oi, eI, hbil, hci⟩ := HIN.out.at_ q hqi
         subst eI
         have hiw := (hbel.cell (p := ⟨bi, oi + q, none⟩) hbil).trans hci
         obtain ⟨iv, hiv⟩ : ∃ iv, inp[q] = iv := ⟨_, rfl⟩
         rw [hiv] at hiw
         have HIV : Hid (inp.getD q 0 = iv) := by show _ = _; rw [List.getD_eq_getElem?_getD, List.getElem?_eq_getElem hqi, ← hiv]; rfl
         have hq0 : (0 : Int) ≤ (q : Int) := by omega
         have hq1 : (q : Int) < (inp.length : Int) := by omega
         have hcp : (0 : Int) ≤ (c : Int) := by omega
         have HF1 := zH (first_any q iv wr)
         have HPO := zH (Je vs0 N inp word k)
         have hbxl := HQ.out.bxl
         clear hbel hci hiv
         go_wp2_with fail
         refine HF1.out.mono ?_
         rintro e w5 ⟨rfl, hb5⟩
         obtain ⟨W6, hW6, b6, hs6, hB6⟩ := zi w5 (yD q iv).cells 224
         have hb6 : Below wr.heap.size wr W6 := hb5.trans (hB6.mono hb5.size)
         have hs5 := hb5.size
         have HW6 := zH hW6
         have HB6 := zH hb6
         have H11 := zH b6
         unfold Vw.cells at HW6
         unfold Vw.cells
         clear HF1 hb5 hW6 b6 hB6 hb6 hcw hiw p0 p3
         go_simp
         rename_i hKK
         refine hKK _ _ ?_
         clear hKK
         refine wpList_plain rfl fun K5 hK5 => ?_
         go_simp
         refine hK5 _ _ ?_
         clear hK5 K5
         refine wpList_plain rfl fun K5 hK5 => ?_
         go_simp
         rw [HW6.out]
         refine hK5 _ _ ?_
         clear hK5 K5 HW6
         rcases Nat.eq_zero_or_pos k with hk0 | hkp
         case' inl =>
          have hkt : ¬ ((0 : Int) < (k : Int)) := by omega
          have HFV : Hid (f q = yD q iv) := by
           show f q = _
           rw [← HFF.out, hk0]
           show yD q (inp.getD q 0) = _
           rw [HIV.out]
          rw [← HFV.out] at H11
          have H11 : Hid (W6.heap[w5.heap.size]? = some (.cells (f q).cells 224 (0, 0))) := H11
          obtain ⟨W9, hW9⟩ : ∃ W9, W6 = W9 := ⟨_, rfl⟩
          rw [hW9] at HB6 H11 ⊢
          clear hW9 HFV hk0
         case' inr =>
          obtain ⟨k', hk'⟩ : ∃ k', k = k' + 1 := ⟨k - 1, by omega⟩
          have hkt : (0 : Int) < (k : Int) := by omega
          have hksub : IntKind.i64.wrap ((k : Int) - 1) = (k' : Int) := by rw [IntKind.wrap_i64]; omega
          have hk'w : k' < word.length := by have := HWK.out; omega
          have hk'y : k' < yk.length := by have := HYL.out; omega
          have HFV : Hid (f q = xO word[k'] k q yk[k']) := by
           show f q = _
           rw [← HFF.out, hk']
           show xO (word.getD k' default) (k' + 1) q (yk.getD k' []) = _
           rw [List.getD_eq_getElem?_getD, List.getElem?_eq_getElem hk'w, List.getD_eq_getElem?_getD, List.getElem?_eq_getElem hk'y]
           rfl
          have Q6 := HQ.out.on HB6.out
          have hR6 : RAtS (fun k => w.heap.size + 1 + 1 < k ∧ k < D) W6 A2 word := HR2.out.keep (Q6.wr.keep fun k _ hs e => by have h3 : k = w.heap.size + 1 + 1 := e; omega)
          have hw6 : W6.cell? ⟨gw, j, none⟩ = some (.slice A2 word.length c2) := qt (S := fun k => w.heap.size + 1 + 1 < k ∧ k < D) (Q6.wr.keep fun k _ hs e => by have h3 : k = w.heap.size + 1 + 1 := e; omega) ⟨hg1, hg2⟩ HGW.out
          obtain ⟨br, or_, eA2, hbr, r0, r1, r2, r3, r4, r5, r6⟩ := hR6.rat.row k' hk'w
          subst eA2
          obtain ⟨AYx, kyx, eY, _, _, hYc⟩ := Q6.vw.form yv
          cases eY
          obtain ⟨gy, eAY, _, hgy, hyc⟩ := hYc (by omega)
          subst eAY
          obtain ⟨cs, ⟨A3, c3, rfl, hI3⟩, hcell⟩ := hyc k' hk'y
          have hy6 : W6.cell? ⟨gy, k', none⟩ = some (.slice A3 yk[k'].length c3) := by simpa [cIs, kIs] using hcell 0 _ rfl
          have x6 : W6.cell? ⟨bx, 2, none⟩ = some (.slice (some ⟨gy, 0, none⟩) yk.length ky) := za Q6.x 2 rfl
          have hrl := HYR.out k' hk'y
          obtain ⟨row, hrow⟩ : ∃ row, yk[k'] = row := ⟨_, rfl⟩
          obtain ⟨rd, hrd⟩ : ∃ rd, word[k'] = rd := ⟨_, rfl⟩
          have hrf := HWF.out word[k'] (List.getElem_mem hk'w)
          rw [hrow] at hy6 hI3 hrl HFV
          rw [hrd] at r0 r1 r2 r3 r4 r5 r6 hrf HFV
          have hhs := uO (kE hrf.1).2.2.1 q (by omega)
          have HSE := zH (fun (X : World) (hX : Below W6.heap.size W6 X) => seen_any rd k q (by omega) hhs A3 c3 row (by rw [hrf.2, hrl]) (by omega) X ((hI3.iat.keep hX).more hX.size))
          have hk'0 : (0 : Int) ≤ (k' : Int) := by omega
          have hk'1 : (k' : Int) < (word.length : Int) := by omega
          have hk'2 : (k' : Int) < (yk.length : Int) := by omega
          have hjp : (0 : Int) ≤ (j : Int) := by omega
          have HKS := zH hk'
          have h11l : w5.heap.size < W6.heap.size := zd H11.out
          clear hkp hk' Q6 hR6 hYc hyc hcell hI3 hrow hrd hrf hhs hrl
          go_wp2_with fail
          go_still_tail 17, (by kernel_rfl)
          change wpList _ _ _ _ _ W6.drew
          obtain ⟨W7, hW7⟩ : ∃ W7, W7 = W6.drew := ⟨_, rfl⟩
          have HB7 : Hid (Below W6.heap.size W6 W7) := by rw [hW7]; exact (Below.refl _ _).drew
          rw [← hW7]
          clear hW7 r0 r1 r2 r3 r4 r5 r6 hw6 hy6 x6
          go_wp2_with fail
          refine (HSE.out W7 HB7.out).mono ?_
          rintro e w8 ⟨rfl, hb8⟩
          obtain ⟨vv, hvv⟩ : ∃ vv, xO rd k q row = vv := ⟨_, rfl⟩
          rw [hvv] at HFV ⊢
          have hb68 : Below W6.heap.size W6 w8 := HB7.out.trans (hb8.mono HB7.out.size)
          have b8 := (hb68.block _ h11l).trans H11.out
          unfold Vw.cells at b8
          obtain ⟨k1, k2⟩ := JT vv b8 (HB6.out.trans (hb68.mono HB6.out.size)) (by omega : wr.heap.size ≤ w5.heap.size)
          obtain ⟨W9, hW9⟩ : ∃ W9, ((((((((w8.setCell ⟨w5.heap.size, 0, none⟩ (.int .i64 vv.p)).setCell ⟨w5.heap.size, 1, none⟩ (.int .i64 vv.r)).setCell ⟨w5.heap.size, 2, none⟩ (.int .i64 vv.i)).setCell ⟨w5.heap.size, 3, none⟩ (.int .i64 vv.h0)).setCell ⟨w5.heap.size, 4, none⟩ (.int .i64 vv.h1)).setCell ⟨w5.heap.size, 5, none⟩ (.int .i64 vv.h2)).setCell ⟨w5.heap.size, 6, none⟩ (.int .i64 vv.h3)).setCell ⟨w5.heap.size, 7, none⟩ (.int .i64 vv.h4)) = W9 := ⟨_, rfl⟩
          rw [hW9] at k1 k2
          have HW9 := zH hW9
          have y0 : w8.cell? ⟨w5.heap.size, 0, none⟩ = some (.int .i64 (yD q iv).p) := za b8 0 rfl
          have fr0 := zb b8 0
          have y1 : w8.cell? ⟨w5.heap.size, 1, none⟩ = some (.int .i64 (yD q iv).r) := za b8 1 rfl
          have fr1 := zb b8 1
          have y2 : w8.cell? ⟨w5.heap.size, 2, none⟩ = some (.int .i64 (yD q iv).i) := za b8 2 rfl
          have fr2 := zb b8 2
          have y3 : w8.cell? ⟨w5.heap.size, 3, none⟩ = some (.int .i64 (yD q iv).h0) := za b8 3 rfl
          have fr3 := zb b8 3
          have y4 : w8.cell? ⟨w5.heap.size, 4, none⟩ = some (.int .i64 (yD q iv).h1) := za b8 4 rfl
          have fr4 := zb b8 4
          have y5 : w8.cell? ⟨w5.heap.size, 5, none⟩ = some (.int .i64 (yD q iv).h2) := za b8 5 rfl
          have fr5 := zb b8 5
          have y6 : w8.cell? ⟨w5.heap.size, 6, none⟩ = some (.int .i64 (yD q iv).h3) := za b8 6 rfl
          have fr6 := zb b8 6
          have y7 : w8.cell? ⟨w5.heap.size, 7, none⟩ = some (.int .i64 (yD q iv).h4) := za b8 7 rfl
          have fr7 := zb b8 7
          have H11 : Hid (W9.heap[w5.heap.size]? = some (.cells (f q).cells 224 (0, 0))) := by rw [HFV.out]; exact k1
          have HB6 : Hid (Below wr.heap.size wr W9) := k2
          clear hb68 b8 k1 k2 hW9 hvv hb8 HSE HB7 HFV
          unfold Vw.cells
          go_simp
          rename_i hKK
          refine hKK _ _ ?_
          refine wpList_plain rfl fun K5 hK5 => ?_
          go_simp
          rw [HW9.out]
          refine hK5 _ _ ?_
          clear HW9 HKS hkt hksub y0 y1 y2 y3 y4 y5 y6 y7 fr0 fr1 fr2 fr3 fr4 fr5 fr6 fr7
         all_goals
          have Q9 := HQ.out.on HB6.out
          have hrf := ka f vk q
          have hrl2 := xg f vk q
          obtain ⟨AV, kv, eV, hT⟩ := Q9.tb.form (by have := HVL.out; omega)
          subst eV
          have HPU := zH (put_any p.t.n AV kv (zV f vk q).1 (f q) W9 hT (by have := HVL.out; omega))
          have hsys := Q9.sys
          rw [HSC.out] at hsys
          have s7 : W9.cell? ⟨w.heap.size + 1 + 1, 7, none⟩ = some (.int .i64 p.t.n) := za hsys 7 rfl
          have s8 : W9.cell? ⟨w.heap.size + 1 + 1, 8, none⟩ = some (.slice AV (zV f vk q).1.length kv) := za hsys 8 rfl
          have HQ9 := zH Q9
          have HRL2 := zH hrl2
          obtain ⟨v, hv⟩ : ∃ v, f q = v := ⟨_, rfl⟩
          have HFQ := zH hv
          rw [hv] at HPU H11
          have x0 : W9.cell? ⟨w5.heap.size, 0, none⟩ = some (.int .i64 v.p) := za H11.out 0 rfl
          have x1 : W9.cell? ⟨w5.heap.size, 1, none⟩ = some (.int .i64 v.r) := za H11.out 1 rfl
          have x2 : W9.cell? ⟨w5.heap.size, 2, none⟩ = some (.int .i64 v.i) := za H11.out 2 rfl
          have x3 : W9.cell? ⟨w5.heap.size, 3, none⟩ = some (.int .i64 v.h0) := za H11.out 3 rfl
          have x4 : W9.cell? ⟨w5.heap.size, 4, none⟩ = some (.int .i64 v.h1) := za H11.out 4 rfl
          have x5 : W9.cell? ⟨w5.heap.size, 5, none⟩ = some (.int .i64 v.h2) := za H11.out 5 rfl
          have x6 : W9.cell? ⟨w5.heap.size, 6, none⟩ = some (.int .i64 v.h3) := za H11.out 6 rfl
          have x7 : W9.cell? ⟨w5.heap.size, 7, none⟩ = some (.int .i64 v.h4) := za H11.out 7 rfl
          clear hv hrf hrl2 hT hsys Q9
          go_wp2_with fail
          all_goals first | (exfalso; omega) | skip
          refine HPU.out.mono ?_
          rintro e w10 hput
          obtain ⟨A3, k3, rfl, hO3, hV3, hb10⟩ := put_out hput HQ9.out.tb HQ9.out.big
          have B10 := HB6.out.trans (hb10.mono HB6.out.size)
          have hsys := (HQ.out.on B10).sys
          rw [HSC.out] at hsys
          have s7 : w10.cell? ⟨w.heap.size + 1 + 1, 7, none⟩ = some (.int .i64 p.t.n) := za hsys 7 rfl
          have s8 : w10.cell? ⟨w.heap.size + 1 + 1, 8, none⟩ = some (.slice AV (zV f vk q).1.length kv) := za hsys 8 rfl
          have f7 := zb hsys 7
          have f8 := zb hsys 8
          have HS10 := zH hsys
          obtain ⟨vs', hvs'⟩ : ∃ vs', (xV (zV f vk q).1 v).1 = vs' := ⟨_, rfl⟩
          obtain ⟨iz, hiz⟩ : ∃ iz, (xV (zV f vk q).1 v).2 = iz := ⟨_, rfl⟩
          rw [hvs'] at hO3 hV3
          have HVS := zH hvs'
          have HIZ := zH hiz
          have HO3 := zH hO3
          have HV3 := zH hV3
          have HB10 := zH B10
          have hs10 := B10.size
          have hbsl := HQ.out.bsl
          rw [hvs', hiz]
          clear hput hO3 hV3 hb10 B10 hsys hvs' hiz HPU x0 x1 x2 x3 x4 x5 x6 x7 H11
          obtain ⟨W11, hW11, b11, hs11, hB11⟩ := zi w10 #[.int .i64 p.t.n, .slice A3 vs'.length k3] 32
          have HW11 := zH hW11
          have HB11 : Hid (Below wr.heap.size wr W11) := HB10.out.trans (hB11.mono hs10)
          have t0 : W11.cell? ⟨w10.heap.size, 0, none⟩ = some (.int .i64 p.t.n) := za b11 0 rfl
          have t1 : W11.cell? ⟨w10.heap.size, 1, none⟩ = some (.slice A3 vs'.length k3) := za b11 1 rfl
          have hsys := (HQ.out.on HB11.out).sys
          rw [HSC.out] at hsys
          have e7 : W11.cell? ⟨w.heap.size + 1 + 1, 7, none⟩ = some (.int .i64 p.t.n) := za hsys 7 rfl
          have e8 : W11.cell? ⟨w.heap.size + 1 + 1, 8, none⟩ = some (.slice AV (zV f vk q).1.length kv) := za hsys 8 rfl
          have fe7 := zb hsys 7
          have fe8 := zb hsys 8
          have hbs11 : w.heap.size + 1 + 1 < W11.heap.size := by omega
          have HPT := zH (Bq.put HQ.out HB11.out (u := .int .i64 p.t.n) (HO3.out.of_same fun k hk => hB11.block k (HO3.out.lt' k hk).2) (fun k hk => by
           rcases HV3.out k hk with e | e
           · exact .inl e
           · exact .inr (by have := HB6.out.size; omega)) (by rw [HSC.out]; rfl) (by rw [HSC.out]; rfl))
          obtain ⟨Y10, hY10⟩ : ∃ Y10, (W11.setCell ⟨w.heap.size + 1 + 1, 7, none⟩ (.int .i64 p.t.n)).setCell ⟨w.heap.size + 1 + 1, 8, none⟩ (.slice A3 vs'.length k3) = Y10 := ⟨_, rfl⟩
          rw [hY10] at HPT
          have HY10 := zH hY10
          have hsz10 : Y10.heap.size = W11.heap.size := by rw [← hY10]; simp
          have HGN : Hid ((Y10.alloc (.cells #[.int .i64 iz] 3)).heap[w10.heap.size + 1]? = some (.cells #[.int .i64 iz] 3 (0, 0))) := by show _ = _; rw [← hs11, ← hsz10]; exact zh Y10 _
          have HRN := zH (HPT.out.row.alloc (.cells #[.int .i64 iz] 3))
          have HDY := zH HPT.out.big
          have HRW : Hid (zV f vk (q + 1) = (vs', (zV f vk q).2 ++ [iz])) := by
           show (_, _) = _
           rw [HFQ.out, HVS.out, HIZ.out]
          clear hW11 b11 hB11 hsys hY10 s7 s8 f7 f8 HS10 HO3 HV3 HVS HIZ HFQ HQ9
          go_simp
          rename_i hKK
          refine hKK _ _ ?_
          clear hKK
          refine wpList_plain rfl fun K5 hK5 => ?_
          go_simp
          refine hK5 _ _ ?_
          clear hK5 K5
          refine wpList_plain rfl fun K5 hK5 => ?_
          go_simp
          refine hK5 _ _ ?_
          clear hK5 K5
          refine wpList_plain rfl fun K5 hK5 => ?_
          go_simp
          refine hK5 _ _ ?_
          clear hK5 K5
          refine wpList_plain rfl fun K5 hK5 => ?_
          go_simp
          refine hK5 _ _ ?_
          clear hK5 K5
          refine wpList_plain rfl fun K5 hK5 => ?_
          go_simp
          rw [HW11.out]
          refine hK5 _ _ ?_
          clear hK5 K5 HW11
          have HRL3 : Hid ((zV f vk q).2.length ≤ 1000000000) := by show _ ≤ _; rw [HRL2.out]; omega
          have HDZ : Hid (D ≤ (Y10.alloc (.cells #[.int .i64 iz] 3)).heap.size) := by show _ ≤ _; have := HDY.out; simp; omega
          go_wp2_with (at_builtin; go_loud (rw [HY10.out]; refine yx gH rfl (.tmp 99) (.tmp 101) rfl D (.slice AL (zV f vk q).2.length kl) (zV f vk q).2.length ((zV f vk q).2.map (Value.int .i64)) rfl HRN.out (w10.heap.size + 1) #[.int .i64 iz] rfl HGN.out rfl (by simp [Value.oneCell']) HRL3.out HDZ.out _ rfl ?_; intro g' cap w12 hr7 hg7 hat7 hlt7; have HPS := zH (Bq.push HPT.out (zI Y10 _) hr7 hg7 hat7); clear hr7 hg7 hat7))
          go_roundw
          case rel => exact ⟨q + 1, _, by omega, by go_num, by rw [HRW.out]; exact HPS.out⟩
          case measure => simp [intOf]; omega
end
section
open Go.RowKit
attribute [local go_sem] Oper.semAt_some
theorem num_many {p : Pb} (h : zJ p = 0) : 4096 < Zo p ↔ 4096 < zP p := by
 obtain ⟨hpt, _⟩ := zO h
 obtain ⟨h1, _⟩ := yB hpt
 have e : zP p = p.t.cases.length * zN p.a p.k.toNat 0 := by unfold zP; rw [Nat.mul_comm]
 rw [e]
 exact Jg 4096 p.t.cases.length (zN p.a p.k.toNat 0) h1
set_option maxRecDepth 100000 in
theorem Qo (p : Pb) (hf : xb p) (A : Option Addr) (kc : Nat) (SV : Option Addr) (ks : Nat) (w : World) (hA : CAt w w.heap.size A p.t.cases) (hS : SAt w w.heap.size SV p.a.sts) :
  Calls Tryz.prog 110 #[.agg (p.vs A kc SV ks)] w (RetSys (zQ p) w) := by
 have HC := zH (fun (w' : World) (h1 : CAt w' w'.heap.size A p.t.cases) (h2 : SAt w' w'.heap.size SV p.a.sts) => uG p hf.1 A kc SV ks w' h1 h2)
 have HN := zH (fun (w' : World) (h0 : zJ p = 0) (h : SAt w' w'.heap.size SV p.a.sts) =>
  ZC p hf.1 (yR hf.1.2 (zO h0).2.1).1 (yR hf.1.2 (zO h0).2.1).2.1 p.k.toNat 4096 (by have := (zO h0).2.2.2.1; omega) (by have := (zO h0).2.2.2.2; omega) (by decide) A kc SV ks w' h)
 have HB := zH (fun (h0 : zJ p = 0) (h60 : zP p ≤ 60) (w' : World) (h1 : CAt w' w'.heap.size A p.t.cases) (h2 : SAt w' w'.heap.size SV p.a.sts) => built_any p hf h0 h60 A kc SV ks w' h1 h2)
 have HBad := zH (@xv p)
 have HMany := zH (@xC p)
 have HOk := zH (@qw p)
 have HNM := zH (@num_many p)
 have HFX := zH hf.2
 obtain ⟨R, hR⟩ : ∃ R, zQ p = R := ⟨_, rfl⟩
 rw [hR] at HBad HMany HOk ⊢
 obtain ⟨w1, hw1, d0, d1, hs1, hB1⟩ := yj w (p.vs A kc SV ks) #[.int .i64 0, .int .i64 0, .int .i64 0, .slice none 0 0, .int .i64 0, .slice none 0 0, .int .i64 0, .int .i64 0, .slice none 0 0, .slice none 0 0] 29 35
 have HAW := zH hA
 have HSW := zH hS
 have HA := zH ((hA.keep hB1).more hB1.size)
 have HS := zH ((hS.keep hB1).more hB1.size)
 unfold Pb.vs at hw1 d0 ⊢
 have HW1 := zH hw1
 have HD0 := zH d0
 have HD1 := zH d1
 have HB1 := zH hB1
 have p0 := za d0 0 rfl
 have p1 := za d0 1 rfl
 have p2 := za d0 2 rfl
 have p3 := za d0 3 rfl
 have p4 := za d0 4 rfl
 have p5 := za d0 5 rfl
 have p6 := za d0 6 rfl
 obtain ⟨E, hE⟩ : ∃ E, zJ p = E := ⟨_, rfl⟩
 have HPE := zH hE
 rw [hE] at HC HBad
 obtain ⟨M, hM⟩ : ∃ M, p.t.cases.length * yG 4096 (zN p.a p.k.toNat 0) = M := ⟨_, rfl⟩
 have HMM : Hid (Zo p = M) := hM
 rw [hM] at HN
 clear hw1 d0 d1 hB1 hA hS hf hR hE hM
 go_enter Tryz.func110, Tryz.ntmps110
 go_wp2_with fail
 rw [HW1.out]
 go_wp2_with fail
 refine (HC.out w1 HA.out HS.out).mono ?_
 rintro e w2 ⟨rfl, hb2⟩
 have B2 := zH (HB1.out.trans (hb2.mono (by omega)))
 have HA2 := zH ((HA.out.keep hb2).more hb2.size)
 have HS2 := zH ((HS.out.keep hb2).more hb2.size)
 have hs2 := hb2.size
 have d0 := (hb2.block _ (zd HD0.out)).trans HD0.out
 have d1 := (hb2.block _ (zd HD1.out)).trans HD1.out
 have HE0 := zH d0
 have HE1 := zH d1
 clear hb2 HC HW1 HD0 HD1 HA HS p0 p1 p2 p3 p4 p5 p6
 have p0 := za d0 0 rfl
 have p1 := za d0 1 rfl
 have p2 := za d0 2 rfl
 have p3 := za d0 3 rfl
 have p4 := za d0 4 rfl
 have p5 := za d0 5 rfl
 have p6 := za d0 6 rfl
 by_cases h0 : E = 0
 case neg =>
  have hR := zH (HBad.out h0)
  have e0 : (E != 0) = true := by simpa using h0
  have y0 := za d1 0 rfl
  have f0 := zb d1 0
  have y1 := za d1 1 rfl
  have f1 := zb d1 1
  have y2 := za d1 2 rfl
  have f2 := zb d1 2
  have y3 := za d1 3 rfl
  have f3 := zb d1 3
  have y4 := za d1 4 rfl
  have f4 := zb d1 4
  have y5 := za d1 5 rfl
  have f5 := zb d1 5
  have y6 := za d1 6 rfl
  have f6 := zb d1 6
  have y7 := za d1 7 rfl
  have f7 := zb d1 7
  have y8 := za d1 8 rfl
  have f8 := zb d1 8
  have y9 := za d1 9 rfl
  have f9 := zb d1 9
  obtain ⟨k1, k2, k3⟩ := qI (.int .i64 0) (.int .i64 0) (.int .i64 0) (.slice none 0 0) (.int .i64 0) (.slice none 0 0) (.int .i64 0) (.int .i64 0) (.slice none 0 0) (.slice none 0 0) d1 B2.out (by omega : w.heap.size ≤ w.heap.size + 1)
  obtain ⟨WF, hWF⟩ : ∃ WF, ((((((((((w2.setCell ⟨w.heap.size + 1, 0, none⟩ (.int .i64 0)).setCell ⟨w.heap.size + 1, 1, none⟩ (.int .i64 0)).setCell ⟨w.heap.size + 1, 2, none⟩ (.int .i64 0)).setCell ⟨w.heap.size + 1, 3, none⟩ (.slice none 0 0)).setCell ⟨w.heap.size + 1, 4, none⟩ (.int .i64 0)).setCell ⟨w.heap.size + 1, 5, none⟩ (.slice none 0 0)).setCell ⟨w.heap.size + 1, 6, none⟩ (.int .i64 0)).setCell ⟨w.heap.size + 1, 7, none⟩ (.int .i64 0)).setCell ⟨w.heap.size + 1, 8, none⟩ (.slice none 0 0)).setCell ⟨w.heap.size + 1, 9, none⟩ (.slice none 0 0)) = WF := ⟨_, rfl⟩
  rw [hWF] at k1 k2 k3
  have HK1 := zH k1
  have HK2 := zH k2
  have HK3 := zH k3
  have HWF := zH hWF
  clear k1 k2 k3 hWF
  clear HMany HOk HNM HN HB HFX h0 d0 d1
  go_wp2_with fail
  rw [HWF.out]
  obtain ⟨z0, z1, z2, z3, z4, z5, z6, z7, z8, z9⟩ := zx HK1.out
  refine bodyPost_ret (v := .tuple #[.agg #[.int .i64 0, .int .i64 0, .int .i64 0, .slice none 0 0, .int .i64 0, .slice none 0 0, .int .i64 0, .int .i64 0, .slice none 0 0, .slice none 0 0], .int .i64 E]) (by simp [results, Tryz.results110, go_sem, z0, z1, z2, z3, z4, z5, z6, z7, z8, z9]) rfl ?_
  rw [hR.out]
  exact RetSys.zero _ HK2.out
 case pos =>
 subst h0
 clear HBad
 go_wp2_with fail
 refine (HN.out w2 HPE.out HS2.out).mono ?_
 rintro e w3 ⟨rfl, hb3⟩
 have B3 := zH (B2.out.trans (hb3.mono (by omega)))
 have HA3 := zH ((HA2.out.keep hb3).more hb3.size)
 have HS3 := zH ((HS2.out.keep hb3).more hb3.size)
 have hs3 := hb3.size
 have d0 := (hb3.block _ (zd HE0.out)).trans HE0.out
 have d1 := (hb3.block _ (zd HE1.out)).trans HE1.out
 have HF0 := zH d0
 have HF1 := zH d1
 clear hb3 HN HE0 HE1 HA2 HS2 p0 p1 p2 p3 p4 p5 p6
 by_cases hm : 4096 < M
 case pos =>
  have hR := zH (HMany.out HPE.out ((HNM.out HPE.out).1 (by rw [HMM.out]; exact hm)))
  have hmi : (4096 : Int) < (M : Int) := by omega
  have y0 := za d1 0 rfl
  have f0 := zb d1 0
  have y1 := za d1 1 rfl
  have f1 := zb d1 1
  have y2 := za d1 2 rfl
  have f2 := zb d1 2
  have y3 := za d1 3 rfl
  have f3 := zb d1 3
  have y4 := za d1 4 rfl
  have f4 := zb d1 4
  have y5 := za d1 5 rfl
  have f5 := zb d1 5
  have y6 := za d1 6 rfl
  have f6 := zb d1 6
  have y7 := za d1 7 rfl
  have f7 := zb d1 7
  have y8 := za d1 8 rfl
  have f8 := zb d1 8
  have y9 := za d1 9 rfl
  have f9 := zb d1 9
  obtain ⟨k1, k2, k3⟩ := qI (.int .i64 0) (.int .i64 0) (.int .i64 0) (.slice none 0 0) (.int .i64 0) (.slice none 0 0) (.int .i64 0) (.int .i64 0) (.slice none 0 0) (.slice none 0 0) d1 B3.out (by omega : w.heap.size ≤ w.heap.size + 1)
  obtain ⟨WF, hWF⟩ : ∃ WF, ((((((((((w3.setCell ⟨w.heap.size + 1, 0, none⟩ (.int .i64 0)).setCell ⟨w.heap.size + 1, 1, none⟩ (.int .i64 0)).setCell ⟨w.heap.size + 1, 2, none⟩ (.int .i64 0)).setCell ⟨w.heap.size + 1, 3, none⟩ (.slice none 0 0)).setCell ⟨w.heap.size + 1, 4, none⟩ (.int .i64 0)).setCell ⟨w.heap.size + 1, 5, none⟩ (.slice none 0 0)).setCell ⟨w.heap.size + 1, 6, none⟩ (.int .i64 0)).setCell ⟨w.heap.size + 1, 7, none⟩ (.int .i64 0)).setCell ⟨w.heap.size + 1, 8, none⟩ (.slice none 0 0)).setCell ⟨w.heap.size + 1, 9, none⟩ (.slice none 0 0)) = WF := ⟨_, rfl⟩
  rw [hWF] at k1 k2 k3
  have HK1 := zH k1
  have HK2 := zH k2
  have HK3 := zH k3
  have HWF := zH hWF
  clear k1 k2 k3 hWF
  clear HMany HOk HNM HB HFX d0 d1
  go_wp2_with fail
  rw [HWF.out]
  obtain ⟨z0, z1, z2, z3, z4, z5, z6, z7, z8, z9⟩ := zx HK1.out
  refine bodyPost_ret (v := .tuple #[.agg #[.int .i64 0, .int .i64 0, .int .i64 0, .slice none 0 0, .int .i64 0, .slice none 0 0, .int .i64 0, .int .i64 0, .slice none 0 0, .slice none 0 0], .int .i64 17]) (by simp [results, Tryz.results110, go_sem, z0, z1, z2, z3, z4, z5, z6, z7, z8, z9]) rfl ?_
  rw [hR.out]
  exact RetSys.zero _ HK2.out
 case neg =>
 have hex : ¬ (4096 < zP p) := fun h => hm (by rw [← HMM.out]; exact (HNM.out HPE.out).2 h)
 have h60 : zP p ≤ 60 := by
  rcases HFX.out HPE.out with h | h
  · exact h
  · exact absurd h hex
 have hR := zH (HOk.out HPE.out (by omega))
 have hmi : ¬ ((4096 : Int) < (M : Int)) := by omega
 have HB' := zH (HB.out HPE.out h60 w3 HA3.out HS3.out)
 have HFW := zH (Yc p HPE.out h60).1
 have p0 := za d0 0 rfl
 have p1 := za d0 1 rfl
 have p2 := za d0 2 rfl
 have p3 := za d0 3 rfl
 have p4 := za d0 4 rfl
 have p5 := za d0 5 rfl
 have p6 := za d0 6 rfl
 clear HMany HOk HNM HB HFX hex h60 d0 d1 HMM
 go_wp2_with fail
 all_goals first | (exfalso; omega) | skip
 refine HB'.out.mono ?_
 rintro e w4 ⟨AV, kv, AE, ke, rfl, hV, hX, hb4⟩
 have B4 := zH (B3.out.trans (hb4.mono (by omega)))
 have HVO := zH hV
 have HXO := zH hX
 have hs4 := hb4.size
 have d1 := (hb4.block _ (zd HF1.out)).trans HF1.out
 have HG1 := zH d1
 have HA4 := zH ((HA3.out.keep hb4).more hb4.size)
 have HS4 := zH ((HS3.out.keep hb4).more hb4.size)
 clear hV hX hb4 HB' HF0 HF1 p0 p1 p2 p3 p4 p5 p6 d1
 obtain ⟨W5, hW5, b5, hs5, hB5⟩ := zi w4 #[.int .i64 p.t.n, .int .i64 p.t.ins, .int .i64 p.t.outs, .slice A p.t.cases.length kc, .int .i64 p.a.n, .slice SV p.a.sts.length ks, .int .i64 p.k, .int .i64 p.t.n, .slice AV (zu p (zn p)).1.length kv, .slice AE (zu p (zn p)).2.length ke] 35
 have d1 := (hB5.block _ (zd HG1.out)).trans HG1.out
 have B5 := zH (B4.out.trans (hB5.mono (by omega)))
 have HB5 := zH hB5
 have HW5 := zH hW5
 obtain ⟨x0, x1, x2, x3, x4, x5, x6, x7, x8, x9⟩ := zx b5
 have hfv : ¬ ((8192 : Int) < ((zu p (zn p)).1.length : Int)) := by have := HFW.out; omega
 clear hW5 hB5 b5
 go_simp
 rename_i hKK
 refine hKK _ _ ?_
 clear hKK
 refine wpList_plain rfl fun K5 hK5 => ?_
 go_simp
 refine hK5 _ _ ?_
 clear hK5 K5
 refine wpList_plain rfl fun K5 hK5 => ?_
 go_simp
 rw [HW5.out]
 refine hK5 _ _ ?_
 clear hK5 K5 HW5
 have y0 := za d1 0 rfl
 have f0 := zb d1 0
 have y1 := za d1 1 rfl
 have f1 := zb d1 1
 have y2 := za d1 2 rfl
 have f2 := zb d1 2
 have y3 := za d1 3 rfl
 have f3 := zb d1 3
 have y4 := za d1 4 rfl
 have f4 := zb d1 4
 have y5 := za d1 5 rfl
 have f5 := zb d1 5
 have y6 := za d1 6 rfl
 have f6 := zb d1 6
 have y7 := za d1 7 rfl
 have f7 := zb d1 7
 have y8 := za d1 8 rfl
 have f8 := zb d1 8
 have y9 := za d1 9 rfl
 have f9 := zb d1 9
 obtain ⟨k1, k2, k3⟩ := qI (.int .i64 p.t.n) (.int .i64 p.t.ins) (.int .i64 p.t.outs) (.slice A p.t.cases.length kc) (.int .i64 p.a.n) (.slice SV p.a.sts.length ks) (.int .i64 p.k) (.int .i64 p.t.n) (.slice AV (zu p (zn p)).1.length kv) (.slice AE (zu p (zn p)).2.length ke) d1 B5.out (by omega : w.heap.size ≤ w.heap.size + 1)
 obtain ⟨WF, hWF⟩ : ∃ WF, ((((((((((W5.setCell ⟨w.heap.size + 1, 0, none⟩ (.int .i64 p.t.n)).setCell ⟨w.heap.size + 1, 1, none⟩ (.int .i64 p.t.ins)).setCell ⟨w.heap.size + 1, 2, none⟩ (.int .i64 p.t.outs)).setCell ⟨w.heap.size + 1, 3, none⟩ (.slice A p.t.cases.length kc)).setCell ⟨w.heap.size + 1, 4, none⟩ (.int .i64 p.a.n)).setCell ⟨w.heap.size + 1, 5, none⟩ (.slice SV p.a.sts.length ks)).setCell ⟨w.heap.size + 1, 6, none⟩ (.int .i64 p.k)).setCell ⟨w.heap.size + 1, 7, none⟩ (.int .i64 p.t.n)).setCell ⟨w.heap.size + 1, 8, none⟩ (.slice AV (zu p (zn p)).1.length kv)).setCell ⟨w.heap.size + 1, 9, none⟩ (.slice AE (zu p (zn p)).2.length ke)) = WF := ⟨_, rfl⟩
 rw [hWF] at k1 k2 k3
 have HK1 := zH k1
 have HK2 := zH k2
 have HK3 := zH k3
 have HWF := zH hWF
 clear k1 k2 k3 hWF
 clear d1
 go_wp2_with fail
 rw [HWF.out]
 obtain ⟨z0, z1, z2, z3, z4, z5, z6, z7, z8, z9⟩ := zx HK1.out
 refine bodyPost_ret (v := .tuple #[.agg #[.int .i64 p.t.n, .int .i64 p.t.ins, .int .i64 p.t.outs, .slice A p.t.cases.length kc, .int .i64 p.a.n, .slice SV p.a.sts.length ks, .int .i64 p.k, .int .i64 p.t.n, .slice AV (zu p (zn p)).1.length kv, .slice AE (zu p (zn p)).2.length ke], .int .i64 0]) (by simp [results, Tryz.results110, go_sem, z0, z1, z2, z3, z4, z5, z6, z7, z8, z9]) rfl ?_
 rw [hR.out]
 have hsame : ∀ k, k ≠ w.heap.size + 1 → k < w4.heap.size → WF.heap[k]? = w4.heap[k]? := fun k a b => (HK3.out.2.1 k a).trans (HB5.out.block k b)
 have hz : w4.heap.size ≤ WF.heap.size := by have := HB5.out.size; have := HK3.out.2.2; omega
 obtain ⟨AV', kv', eV, hT⟩ := (HVO.out.of_same fun k hk => hsame k (by have := (HVO.out.lt' k hk).1; omega) (HVO.out.lt' k hk).2).form (by have := HFW.out; omega)
 cases eV
 obtain ⟨AE', ke', eE, _, _, hXA⟩ := cXn_form (HXO.out.keep yO ⟨hz, fun k hs hl => hsame k (by omega) hl⟩ fun k hk => hsame k (by have := (HXO.out.lt k hk).1; omega) (HXO.out.lt k hk).2)
 cases eE
 exact ⟨A, kc, SV, ks, AV, kv, AE, ke, rfl, ⟨(HAW.out.keep HK2.out).more HK2.out.size, (HSW.out.keep HK2.out).more HK2.out.size, hT.rows, hXA⟩, hT.lec, hT.lem, HK2.out⟩
end
section
open Go.RowKit
attribute [local go_sem] Oper.semAt_some
def xF (p : Pb) : Bool := xH p && decide ((zQ p).2 = 0)
set_option maxRecDepth 100000 in
theorem right_any (p : Pb) (hl : YJ p) (A : Option Addr) (kc : Nat) (SV : Option Addr) (ks : Nat) (w : World) (hA : CAt w w.heap.size A p.t.cases) (hS : SAt w w.heap.size SV p.a.sts) :
  Calls Tryz.prog 78 #[.agg (p.vs A kc SV ks)] w fun e w' => e = .returned (.bool (xF p)) ∧ Below w.heap.size w w' := by
 obtain ⟨w1, hw1⟩ : ∃ w1, w.alloc (.cells (p.vs A kc SV ks) 29) = w1 := ⟨_, rfl⟩
 have hbb := zh w (.cells (p.vs A kc SV ks) 29)
 have hb01 : Below w.heap.size w w1 := by rw [← hw1]; exact zI w _
 have hsz1 : w1.heap.size = w.heap.size + 1 := by rw [← hw1]; simp
 rw [hw1] at hbb
 have HF := zH (few_any p hl A kc SV ks w1 ((hA.keep hb01).more hb01.size) ((hS.keep hb01).more hb01.size))
 have HBD := zH (fun (h : xH p = true) (X : World) (hX : Below w1.heap.size w1 X) => Qo p (few_x h).1 A kc SV ks X ((((hA.keep hb01).more hb01.size).keep hX).more hX.size) ((((hS.keep hb01).more hb01.size).keep hX).more hX.size))
 have HRB : Hid (xF p = (xH p && decide ((zQ p).2 = 0))) := rfl
 obtain ⟨r, hr⟩ : ∃ r, xF p = r := ⟨_, rfl⟩
 rw [hr] at HRB ⊢
 obtain ⟨R, hR⟩ : ∃ R, zQ p = R := ⟨_, rfl⟩
 rw [hR] at HBD HRB
 obtain ⟨b, hb⟩ : ∃ b, xH p = b := ⟨_, rfl⟩
 rw [hb] at HF HBD HRB
 unfold Pb.vs at hw1 hbb HF HBD ⊢
 have HW1 := zH hw1
 have HBB := zH hbb
 have HB01 := zH hb01
 have p0 := za hbb 0 rfl
 have p1 := za hbb 1 rfl
 have p2 := za hbb 2 rfl
 have p3 := za hbb 3 rfl
 have p4 := za hbb 4 rfl
 have p5 := za hbb 5 rfl
 have p6 := za hbb 6 rfl
 clear hw1 hbb hb01 hA hS hl hr hR hb
 go_enter Tryz.func78, Tryz.ntmps78
 go_wp2_with fail
 rw [HW1.out]
 go_wp2_with fail
 refine HF.out.mono ?_
 rintro e w2 ⟨rfl, hb2⟩
 have HB2 := zH (HB01.out.trans (hb2.mono (by omega)))
 have d0 := (hb2.block _ (by omega : w.heap.size < w1.heap.size)).trans HBB.out
 have hs2 := hb2.size
 cases b with
 | false =>
  have hRf : Hid (r = false) := HRB.out
  clear HRB HBD HF p0 p1 p2 p3 p4 p5 p6 d0 hb2 HBB HW1
  go_wp2_with fail
  go_ret
  exact ⟨zj hRf.out.symm, HB2.out⟩
 | true =>
  have HB3 := zH (HBD.out rfl w2 hb2)
  have hRf : Hid (r = decide (R.2 = 0)) := HRB.out
  clear p0 p1 p2 p3 p4 p5 p6 hb2 HBD HF HBB HW1 HRB
  have p0 := za d0 0 rfl
  have p1 := za d0 1 rfl
  have p2 := za d0 2 rfl
  have p3 := za d0 3 rfl
  have p4 := za d0 4 rfl
  have p5 := za d0 5 rfl
  have p6 := za d0 6 rfl
  clear d0
  go_wp2_with fail
  refine HB3.out.mono ?_
  rintro e w3 ⟨A2, kc2, SV2, ks2, AV2, kv2, AX2, kx2, rfl, hS2, hv1, hv2, hb3⟩
  obtain ⟨T, E⟩ := R
  have HB4 := zH (HB2.out.trans ((hb3.trans (zI w3 (.cells (T.vs_ A2 kc2 SV2 ks2 AV2 kv2 AX2 kx2) 35) |>.mono hb3.size)).mono (by omega)))
  unfold Sy.vs_ at HB4 ⊢
  clear hb3 hS2 hv1 hv2 HB3 p0 p1 p2 p3 p4 p5 p6
  go_wp2_with fail
  go_ret
  exact ⟨zj (by rw [hRf.out]; first | rfl | exact YC Iff.rfl | (rw [Bool.eq_iff_iff]; simp)), HB4.out⟩
end
section
open Go.RowKit
attribute [local go_sem] Oper.semAt_some
theorem qd {s : Sy} (hf : xb s.p) (h : yE s = 0) : s = zD s.p ∧ ∃ K N, Fine s K N := by
 unfold yE at h
 by_cases h1 : (zQ s.p).2 ≠ 0
 · rw [if_pos h1] at h; exact absurd h h1
 · rw [if_neg h1] at h
   by_cases h2 : s = (zQ s.p).1
   · have h0 : zJ s.p = 0 := by
      by_cases h0 : zJ s.p = 0
      · exact h0
      · rw [xv h0] at h1; exact absurd h0 h1
     have hm : ¬ 4096 < zP s.p := fun hm => by rw [xC h0 hm] at h1; exact h1 (by decide)
     rw [qw h0 (by omega)] at h2
     obtain ⟨K, N, hF⟩ := Ze hf h0 (by rcases hf.2 h0 with h | h; exact h; exact absurd h hm)
     exact ⟨h2, K, N, by rw [h2]; exact hF⟩
   · rw [if_neg h2] at h; cases h
end
section
open Go.RowKit
attribute [local go_sem] Oper.semAt_some
def qM (bs : List Bool) : Array Value := (bs.map Value.bool).toArray
theorem ut (bs : List Bool) (i : Nat) (b : Bool) : (qM bs).setIfInBounds i (.bool b) = qM (bs.set i b) := by
 unfold qM; rw [List.setIfInBounds_toArray, List.map_set]
theorem vK (bs : List Bool) (i : Nat) (h : i < bs.length) : (qM bs)[i]? = some (.bool bs[i]) := by
 unfold qM; simp [h]
def kBo : Kd := ⟨4, 46, 1, 1, .bool false⟩
theorem kBo_ok : KdOk Tryz.prog kBo := ⟨Tryz.underlying46, by kernel_rfl, by rfl, by decide, by decide⟩
theorem QD (n : Nat) : madeCells #[.bool false] (n * 1) = qM (List.replicate n false) := by
 unfold madeCells qM
 apply Array.ext
 · simp
 · intro i h1 h2
   simp [Nat.mod_one]
theorem kG (n : Nat) (hn : n ≤ 100000) (W : World) : (Instr.makeSlice 46 (.int .i64 n) (.int .i64 n)).run Tryz.prog W = .ok (.slice (some ⟨W.heap.size, 0, none⟩) n n) (W.alloc (.cells (qM (List.replicate n false)) 4)) := by
 obtain ⟨i0, hi, hz0, hz1, hz2⟩ := yz kBo_ok
 have hb : i0.bytes = 1 := hz2
 have hs : i0.size = 1 := hz1
 have h := run_make (P := Tryz.prog) W 46 4 i0 (.bool false) Tryz.underlying46 hi hz0 .i64 .i64 (n : Int) (n : Int) (by omega) (Int.le_refl _) (by rw [hb]; omega) (by omega)
 rw [h, hs]
 simp only [Int.toNat_natCast]
 rw [show (Value.bool false).cells = #[.bool false] from rfl, QD]
end
section
open Go.RowKit
def kSt : Kd := ⟨75, 57, 2, 16, .agg #[.int .i64 0, .int .i64 0]⟩
theorem kSt_ok : KdOk Tryz.prog kSt := ⟨Tryz.underlying57, by kernel_rfl, by rfl, by decide, by decide⟩
def kBl : Kd := ⟨4, 46, 1, 1, .bool false⟩
theorem kBl_ok : KdOk Tryz.prog kBl := ⟨Tryz.underlying46, by kernel_rfl, by rfl, by decide, by decide⟩
section
variable {w w' : World} {B B' : Nat} {A : Option Addr}
def BAt (w : World) (B : Nat) (A : Option Addr) (bs : List Bool) : Prop :=
 0 < bs.length → ∃ b off, A = some ⟨b, off, none⟩ ∧ b < B ∧ ∀ (i : Nat) (hi : i < bs.length), w.cell? ⟨b, off + i, none⟩ = some (.bool bs[i])
theorem BAt.keep {bs : List Bool} (h : BAt w B A bs) (hb : Below B w w') : BAt w' B A bs := fun h0 => by
 obtain ⟨b, off, e, hlt, hc⟩ := h h0
 exact ⟨b, off, e, hlt, fun i hi => (hb.cell (p := ⟨b, _, none⟩) hlt).trans (hc i hi)⟩
theorem BAt.more {bs : List Bool} (h : BAt w B A bs) (hB : B ≤ B') : BAt w B' A bs := fun h0 => by
 obtain ⟨b, off, e, hlt, hc⟩ := h h0
 exact ⟨b, off, e, by omega, hc⟩
theorem BAt.nil (w : World) (B : Nat) (A : Option Addr) : BAt w B A [] := fun h => absurd h (by simp)
theorem BAt.at_ {bs : List Bool} (h : BAt w B A bs) (i : Nat) (hi : i < bs.length) : ∃ b off, A = some ⟨b, off, none⟩ ∧ b < B ∧ w.cell? ⟨b, off + i, none⟩ = some (.bool bs[i]) := by
 obtain ⟨b, off, e, hlt, hc⟩ := h (by omega)
 exact ⟨b, off, e, hlt, hc i hi⟩
def BRow (w : World) (g : Nat) (bs : List Bool) : Prop := w.heap[g]? = some (.cells (qM bs) 4 (0, 0))
theorem BRow.lt {g : Nat} {bs : List Bool} (h : BRow w g bs) : g < w.heap.size := zd h
theorem BRow.at_ {g : Nat} {bs : List Bool} (h : BRow w g bs) (hB : g < B) : BAt w B (some ⟨g, 0, none⟩) bs := fun _ => ⟨g, 0, rfl, hB, fun i hi => by rw [Nat.zero_add]; exact za h i (vK bs i hi)⟩
def TAt (w : World) (B : Nat) (A : Option Addr) (ts : List (Int × Int)) : Prop :=
 0 < ts.length → ∃ b off, A = some ⟨b, off, none⟩ ∧ b < B ∧ ∀ (i : Nat) (hi : i < ts.length), w.cell? ⟨b, off + i * 2, none⟩ = some (.int .i64 ts[i].1) ∧ w.cell? ⟨b, off + i * 2 + 1, none⟩ = some (.int .i64 ts[i].2)
theorem TAt.keep {ts : List (Int × Int)} (h : TAt w B A ts) (hb : Below B w w') : TAt w' B A ts := fun h0 => by
 obtain ⟨b, off, e, hlt, hc⟩ := h h0
 exact ⟨b, off, e, hlt, fun i hi => ⟨(hb.cell (p := ⟨b, _, none⟩) hlt).trans (hc i hi).1, (hb.cell (p := ⟨b, _, none⟩) hlt).trans (hc i hi).2⟩⟩
theorem TAt.more {ts : List (Int × Int)} (h : TAt w B A ts) (hB : B ≤ B') : TAt w B' A ts := fun h0 => by
 obtain ⟨b, off, e, hlt, hc⟩ := h h0
 exact ⟨b, off, e, by omega, hc⟩
theorem TAt.nil (w : World) (B : Nat) (A : Option Addr) : TAt w B A [] := fun h => absurd h (by simp)
theorem TAt.at_ {ts : List (Int × Int)} (h : TAt w B A ts) (i : Nat) (hi : i < ts.length) : ∃ b off, A = some ⟨b, off, none⟩ ∧ b < B ∧ w.cell? ⟨b, off + i * 2, none⟩ = some (.int .i64 ts[i].1) ∧ w.cell? ⟨b, off + i * 2 + 1, none⟩ = some (.int .i64 ts[i].2) := by
 obtain ⟨b, off, e, hlt, hc⟩ := h (by omega)
 exact ⟨b, off, e, hlt, hc i hi⟩
def kR (ts : List (Int × Int)) : List Value := ts.flatMap fun t => [.int .i64 t.1, .int .i64 t.2]
theorem JZ (ts : List (Int × Int)) (t : Int × Int) : kR (ts ++ [t]) = kR ts ++ #[Value.int .i64 t.1, .int .i64 t.2].toList := by simp [kR, List.flatMap_append]
theorem Yb : ∀ (ts : List (Int × Int)) (i : Nat) (hi : i < ts.length), (kR ts)[i * 2]? = some (.int .i64 ts[i].1) ∧ (kR ts)[i * 2 + 1]? = some (.int .i64 ts[i].2)
 | t :: ts, 0, _ => by simp [kR]
 | t :: ts, i + 1, hi => by
  have h := Yb ts i (by simpa using hi)
  have e : kR (t :: ts) = [.int .i64 t.1, .int .i64 t.2] ++ kR ts := rfl
  rw [e, List.getElem?_append_right (by simp; omega), List.getElem?_append_right (by simp; omega)]
  simp only [List.length_cons, List.length_nil, List.getElem_cons_succ]
  rw [show (i + 1) * 2 - (0 + 1 + 1) = i * 2 by omega, show (i + 1) * 2 + 1 - (0 + 1 + 1) = i * 2 + 1 by omega]
  exact h
theorem TAt.of_own {K : Kd} {base : Nat} {A' : Option Addr} {n c : Nat} {ts : List (Int × Int)} (h : OwnR K w base (.slice A' n c) n (kR ts)) (hn : ts.length = n) : TAt w w.heap.size A' ts := fun h0 => by
 obtain ⟨A, cap, e, _, _, h3⟩ := h.form
 cases e
 obtain ⟨g, rfl, _, hg, hc⟩ := h3 (by omega)
 exact ⟨g, 0, rfl, hg, fun i hi => ⟨by rw [Nat.zero_add]; exact hc _ _ (Yb ts i hi).1, by rw [Nat.zero_add]; exact hc _ _ (Yb ts i hi).2⟩⟩
end
end
section
open Go.ChangeShapes Go.WideShapes Go.ChangeAt Go.RowKit Go.Deep
section
variable {H : Type} {enc : TypeId × Value → H} {W : World} {base : Nat} {spare : Nat → Bool} {held : Bool}
theorem cellsB : Tryz.prog.cellsOf 4 = 1 := by kernel_rfl
theorem JK : Tryz.prog.cellsOf 46 = 1 := by kernel_rfl
theorem bytesB : Tryz.prog.bytesOf 4 = 1 := by kernel_rfl
set_option maxRecDepth 100000 in
/-- A slice of bools. -/
theorem rd_bools {m : Nat} {cs : List Value} {y : DataW H × List MemPlace} (h : DataW.trod enc Tryz.prog W base spare held m 46 cs = some y) (hw : qk Tryz.prog 46 y.1) :
  ∃ (A : Option Addr) (xs : List Bool) (c : Nat), cs = [.slice A xs.length c] ∧ xs.length ≤ 140737488355328 ∧ BAt W W.heap.size A xs := by
 obtain ⟨A, xs, c, e, _, _, hb, hA⟩ := qs (α := Bool) (fun cs i => cs = [.bool i]) Tryz.underlying46 cellsB (by decide) (fun m cs y h _ => by obtain ⟨i, e, _⟩ := DataW.trod_bool Tryz.underlying4 h; exact ⟨i, e⟩) h hw
 refine ⟨A, xs, c, e, ?_, fun h0 => ?_⟩
 · rw [bytesB] at hb; unfold reachBytes at hb; omega
 · obtain ⟨b, off, e, hlt, hc⟩ := hA h0
   refine ⟨b, off, e, hlt, fun i hi => ?_⟩
   obtain ⟨cs, rfl, h2⟩ := hc i hi
   have := h2 0 _ rfl
   simpa using this
end
end
section
open Go.ChangeShapes Go.WideShapes Go.ChangeAt Go.RowKit Go.Deep
theorem Ju {k : IntKind} {i : Int} (hk : k.min = 0) (h : (Lit.int k i).wf = true) : ∃ n : Nat, i = (n : Int) ∧ (n : Int) ≤ k.max := by
 unfold Lit.wf at h
 simp only [Bool.and_eq_true, decide_eq_true_iff] at h
 obtain ⟨n, hn⟩ := Int.eq_ofNat_of_zero_le (by omega : 0 ≤ i)
 exact ⟨n, hn, by omega⟩
section
variable {H : Type} {enc : TypeId × Value → H} {W : World} {base : Nat} {spare : Nat → Bool} {held : Bool}
theorem YG : Tryz.prog.cellsOf 5 = 1 := by kernel_rfl
theorem cellsU16 : Tryz.prog.cellsOf 69 = 1 := by kernel_rfl
theorem cellsCh : Tryz.prog.cellsOf 71 = 3 := by kernel_rfl
set_option maxRecDepth 100000 in
theorem gz {b0 : Nat} {v : Value} {d : DataW H} {ps : List MemPlace} (hv : Value.okWide Tryz.prog W .any b0 71 v) (h : DataW.Trod enc Tryz.prog W base spare held 71 v d ps) (hw : qk Tryz.prog 71 d) :
  ∃ (c cq : Nat) (AB : Option Addr) (bs : List Bool) (kb : Nat), v = .agg #[.int .u8 (c : Int), .slice AB bs.length kb, .int .u16 (cq : Int)] ∧ c < 256 ∧ cq < 65536 ∧ BAt W W.heap.size AB bs := by
 obtain ⟨cs, rfl, _⟩ := okWide_struct Tryz.underlying71 hv
 obtain ⟨fuel, hf⟩ := h
 obtain ⟨xs, n, rfl, hx, hl, hxl, hfd⟩ := DataW.trod_struct Tryz.underlying71 hf
 have hd : d = .agg (xs.map (·.1)) := congrArg Prod.fst hx
 rw [hd] at hw
 rw [cellsCh] at hl
 have hxl3 : xs.length = 3 := hxl
 obtain ⟨cl⟩ := cs
 match cl, hl with
 | [c0, c1, c2], _ =>
  have f0 := hfd 0 _ rfl
  have f1 := hfd 1 _ rfl
  have f2 := hfd 2 _ rfl
  obtain ⟨x0, x1, x2, rfl⟩ : ∃ x0 x1 x2, xs = [x0, x1, x2] := by
   match xs, hxl3 with
   | [x0, x1, x2], _ => exact ⟨x0, x1, x2, rfl⟩
  have g0 : DataW.trod enc Tryz.prog W base spare held n 5 [c0] = some x0 := by simpa [YG, Value.cells] using f0
  have g1 : DataW.trod enc Tryz.prog W base spare held n 46 [c1] = some x1 := by simpa [JK, YG, Value.cells] using f1
  have g2 : DataW.trod enc Tryz.prog W base spare held n 69 [c2] = some x2 := by simpa [cellsU16, JK, YG, Value.cells] using f2
  have w1 : qk Tryz.prog 46 x1.1 := xB Tryz.underlying71 hw (j := 1) rfl rfl
  obtain ⟨i0, e0, _, q0⟩ := DataW.trod_int Tryz.underlying5 g0
  obtain ⟨i2, e2, _, q2⟩ := DataW.trod_int Tryz.underlying69 g2
  obtain ⟨AB, bs, kb, e1, _, r1⟩ := rd_bools g1 w1
  obtain ⟨n0, rfl, l0⟩ := Ju (by decide) q0
  obtain ⟨n2, rfl, l2⟩ := Ju (by decide) q2
  cases e0; cases e1; cases e2
  have m0 : IntKind.max .u8 = 255 := by decide
  have m2 : IntKind.max .u16 = 65535 := by decide
  exact ⟨n0, n2, AB, bs, kb, rfl, by omega, by omega, r1⟩
end
end
section
section
variable {α : Type} [DecidableEq α]
def xD (acc : List α) (k : α) : List α := if k ∈ acc then acc else acc ++ [k]
def yF (l : List α) : List α := l.foldl xD []
theorem xR (l : List α) (k : α) : yF (l ++ [k]) = xD (yF l) k := by simp [yF, List.foldl_append]
theorem mem_uniqF {acc : List α} {k x : α} : x ∈ xD acc k ↔ x ∈ acc ∨ x = k := by
 unfold xD
 split
 · rename_i h
   exact ⟨.inl, fun h' => h'.elim id (fun e => e ▸ h)⟩
 · simp
theorem ZI {x : α} : ∀ {l acc : List α}, x ∈ l.foldl xD acc ↔ x ∈ acc ∨ x ∈ l
 | [], acc => by simp
 | k :: l, acc => by rw [List.foldl_cons, ZI, mem_uniqF, List.mem_cons, or_assoc]
theorem yl {l : List α} {x : α} : x ∈ yF l ↔ x ∈ l := by unfold yF; rw [ZI]; simp
theorem ZP : ∀ (l acc : List α), (l.foldl xD acc).length ≤ acc.length + l.length
 | [], acc => by simp
 | k :: l, acc => by
  have h1 : (xD acc k).length ≤ acc.length + 1 := by unfold xD; split <;> simp
  have h2 := ZP l (xD acc k)
  rw [List.foldl_cons, List.length_cons]
  omega
theorem JU (l : List α) : (yF l).length ≤ l.length := by have := ZP l []; simpa [yF] using this
def qG (l : List α) : List Int := l.map fun k => ((yF l).idxOf k : Int)
theorem jj (l : List α) : (qG l).length = l.length := by simp [qG]
theorem Yt (l : List α) (i : Nat) (h : i < l.length) : (qG l)[i]'(by rw [jj]; exact h) = ((yF l).idxOf l[i] : Int) := by simp [qG]
theorem ui (l : List α) (k : α) : qG (l ++ [k]) = qG l ++ [if k ∈ l then ((yF l).idxOf k : Int) else ((yF l).length : Int)] := by
 unfold qG
 rw [List.map_append, xR]
 congr 1
 · refine List.map_congr_left fun x hx => ?_
   unfold xD
   split
   · rfl
   · rw [List.idxOf_append, if_pos (yl.2 hx)]
 · simp only [List.map_cons, List.map_nil, List.cons.injEq, and_true]
   unfold xD
   by_cases h : k ∈ l
   · rw [if_pos (yl.2 h), if_pos h]
   · rw [if_neg (fun e => h (yl.1 e)), if_neg h, List.idxOf_append, if_neg (fun e => h (yl.1 e))]
     simp
end
theorem QI {α β : Type} [DecidableEq α] [DecidableEq β] {l : List α} {m : List β} (hl : l.length = m.length)
  (h : ∀ i j (h1 : i < l.length) (h2 : j < l.length), l[i] = l[j] ↔ m[i]'(hl ▸ h1) = m[j]'(hl ▸ h2)) : qG l = qG m := by
 have key : ∀ n, n ≤ l.length → qG (l.take n) = qG (m.take n) ∧ (yF (l.take n)).length = (yF (m.take n)).length := by
  intro n
  induction n with
  | zero => intro _; exact ⟨rfl, rfl⟩
  | succ n ih =>
   intro hn
   obtain ⟨h1, h2⟩ := ih (by omega)
   have hnl : n < l.length := by omega
   have hnm : n < m.length := by omega
   rw [List.take_succ_eq_append_getElem hnl, List.take_succ_eq_append_getElem hnm, ui, ui, xR, xR, h1]
   have hm : l[n] ∈ l.take n ↔ m[n] ∈ m.take n := by
    constructor
    · intro hx
      obtain ⟨j, hj, e⟩ := List.getElem_of_mem hx
      have hj' : j < n := by simp at hj; omega
      rw [List.getElem_take] at e
      have := (h j n (by omega) hnl).1 e
      rw [← this]
      exact List.mem_take_iff_getElem.2 ⟨j, by omega, rfl⟩
    · intro hx
      obtain ⟨j, hj, e⟩ := List.getElem_of_mem hx
      have hj' : j < n := by simp at hj; omega
      rw [List.getElem_take] at e
      have := (h j n (by omega) hnl).2 e
      rw [← this]
      exact List.mem_take_iff_getElem.2 ⟨j, by omega, rfl⟩
   unfold xD
   by_cases hx : l[n] ∈ l.take n
   · have hy := hm.1 hx
     rw [if_pos hx, if_pos hy, if_pos (yl.2 hx), if_pos (yl.2 hy)]
     refine ⟨?_, h2⟩
     congr 2
     obtain ⟨j, hj, e⟩ := List.getElem_of_mem hx
     have hj' : j < n := by simp at hj; omega
     rw [List.getElem_take] at e
     have e2 := (h j n (by omega) hnl).1 e
     have g1 := Yt (l.take n) j hj
     have g2 := Yt (m.take n) j (by simp; omega)
     rw [List.getElem_take, e] at g1
     rw [List.getElem_take, e2] at g2
     rw [← g1, ← g2]
     congr 1
   · have hy : ¬ m[n] ∈ m.take n := fun e => hx (hm.2 e)
     rw [if_neg hx, if_neg hy, if_neg (fun e => hx (yl.1 e)), if_neg (fun e => hy (yl.1 e))]
     refine ⟨?_, by simp [h2]⟩
     rw [h2]
 have := (key l.length (Nat.le_refl _)).1
 rwa [List.take_length, hl, List.take_length] at this
inductive Conn (n : Nat) (adj : Nat → Nat → Prop) : Nat → Nat → Prop
 | refl (i : Nat) : Conn n adj i i
 | step {i j k : Nat} : Conn n adj i j → j < n → k < n → adj j k → Conn n adj i k
section
variable {n : Nat} {adj : Nat → Nat → Prop}
theorem Conn.trans {i j k : Nat} (h : Conn n adj i j) (g : Conn n adj j k) : Conn n adj i k := by
 induction g with
 | refl => exact h
 | step _ h1 h2 h3 ih => exact .step ih h1 h2 h3
theorem Conn.one {i j : Nat} (hi : i < n) (hj : j < n) (h : adj i j) : Conn n adj i j := .step (.refl i) hi hj h
theorem Conn.symm (hs : ∀ i j, adj i j → adj j i) {i j : Nat} (h : Conn n adj i j) : Conn n adj j i := by
 induction h with
 | refl => exact .refl _
 | step _ h1 h2 h3 ih => exact (Conn.one h2 h1 (hs _ _ h3)).trans ih
end
theorem qA {p : Nat → Prop} : ∀ n, p n → ∃ m, m ≤ n ∧ p m ∧ ∀ k, k < m → ¬ p k := by
 intro n
 induction n using Nat.strongRecOn with
 | _ n ih =>
  intro hn
  by_cases h : ∃ k, k < n ∧ p k
  · obtain ⟨k, hk, hp⟩ := h
    obtain ⟨m, h1, h2, h3⟩ := ih k hk hp
    exact ⟨m, by omega, h2, h3⟩
  · exact ⟨n, Nat.le_refl _, hn, fun k hk hp => h ⟨k, hk, hp⟩⟩
noncomputable def yM (n : Nat) (adj : Nat → Nat → Prop) (i : Nat) : Nat := Classical.choose (qA (p := fun k => Conn n adj k i) i (.refl i))
section
variable {n : Nat} {adj : Nat → Nat → Prop}
theorem YE (i : Nat) : yM n adj i ≤ i := (Classical.choose_spec (qA (p := fun k => Conn n adj k i) i (.refl i))).1
theorem kq (i : Nat) : Conn n adj (yM n adj i) i := (Classical.choose_spec (qA (p := fun k => Conn n adj k i) i (.refl i))).2.1
theorem XT {i k : Nat} (h : Conn n adj k i) : yM n adj i ≤ k := by
 have := (Classical.choose_spec (qA (p := fun k => Conn n adj k i) i (.refl i))).2.2 k
 exact Nat.le_of_not_lt fun hlt => this hlt h
theorem YF (hs : ∀ i j, adj i j → adj j i) {i j : Nat} : yM n adj i = yM n adj j ↔ Conn n adj i j := by
 constructor
 · intro h
   have h1 := kq (n := n) (adj := adj) i
   rw [h] at h1
   exact (h1.symm hs).trans (kq j)
 · intro h
   have h1 : yM n adj j ≤ yM n adj i := XT ((kq i).trans h)
   have h2 : yM n adj i ≤ yM n adj j := XT ((kq j).trans (h.symm hs))
   omega
theorem ZU (hs : ∀ i j, adj i j → adj j i) (i : Nat) : yM n adj (yM n adj i) = yM n adj i := (YF hs).2 (kq i)
end
noncomputable def kQ (n : Nat) (adj : Nat → Nat → Prop) : List Int := qG ((List.range n).map (yM n adj))
theorem ZT (n : Nat) (adj : Nat → Nat → Prop) : (kQ n adj).length = n := by unfold kQ; rw [jj]; simp
theorem compL_of {α : Type} [DecidableEq α] {n : Nat} {adj : Nat → Nat → Prop} (hs : ∀ i j, adj i j → adj j i) (l : List α) (hl : l.length = n)
  (h : ∀ i j (h1 : i < l.length) (h2 : j < l.length), l[i] = l[j] ↔ Conn n adj i j) : qG l = kQ n adj := by
 unfold kQ
 refine QI (by simpa using hl) fun i j h1 h2 => ?_
 rw [h i j h1 h2]
 simp only [List.getElem_map, List.getElem_range]
 rw [YF hs]
structure Far (n : Nat) (adj : Nat → Nat → Prop) (src : Nat → Prop) (f : Nat → Int) : Prop where
 ge : ∀ i, i < n → -1 ≤ f i
 zero : ∀ i, i < n → (f i = 0 ↔ src i)
 step : ∀ i, i < n → 0 < f i → ∃ k, k < n ∧ adj i k ∧ f k = f i - 1
 low : ∀ i k, i < n → k < n → adj i k → 0 ≤ f k → 0 ≤ f i ∧ f i ≤ f k + 1
section
variable {n : Nat} {adj : Nat → Nat → Prop} {src : Nat → Prop} {f g : Nat → Int}
theorem Far.le (hf : Far n adj src f) (hg : Far n adj src g) : ∀ (d : Nat) (i : Nat), i < n → f i = (d : Int) → 0 ≤ g i ∧ g i ≤ f i := by
 intro d
 induction d with
 | zero =>
  intro i hi h
  have := (hg.zero i hi).2 ((hf.zero i hi).1 h)
  omega
 | succ d ih =>
  intro i hi h
  obtain ⟨k, hk, ha, he⟩ := hf.step i hi (by omega)
  obtain ⟨h1, h2⟩ := ih k hk (by omega)
  have := hg.low i k hi hk ha h1
  omega
theorem Far.uniq (hf : Far n adj src f) (hg : Far n adj src g) (i : Nat) (hi : i < n) : f i = g i := by
 have h1 := hf.ge i hi
 have h2 := hg.ge i hi
 by_cases h : 0 ≤ f i
 · obtain ⟨d, hd⟩ := Int.eq_ofNat_of_zero_le h
   obtain ⟨h3, h4⟩ := hf.le hg d i hi hd
   obtain ⟨e, he⟩ := Int.eq_ofNat_of_zero_le h3
   have := hg.le hf e i hi he
   omega
 · by_cases h3 : 0 ≤ g i
   · obtain ⟨e, he⟩ := Int.eq_ofNat_of_zero_le h3
     have := hg.le hf e i hi he
     omega
   · omega
theorem Far.reach {j : Nat} (hf : Far n adj (fun k => k = j) f) (hj : j < n) (hs : ∀ i k, adj i k → adj k i) (i : Nat) (hi : i < n) : 0 ≤ f i ↔ Conn n adj j i := by
 constructor
 · intro h
   obtain ⟨d, hd⟩ := Int.eq_ofNat_of_zero_le h
   clear h
   induction d generalizing i with
   | zero =>
    have := (hf.zero i hi).1 hd
    subst this
    exact .refl _
   | succ d ih =>
    obtain ⟨k, hk, ha, he⟩ := hf.step i hi (by omega)
    exact (ih k hk (by omega)).trans (Conn.one hk hi (hs _ _ ha))
 · intro h
   induction h with
   | refl => have := (hf.zero j hj).2 rfl; omega
   | step _ h1 h2 h3 ih => exact (hf.low _ _ h2 h1 (hs _ _ h3) (ih h1)).1
end
theorem ZG : ∀ (n : Nat) (l : List Nat), l.Nodup → (∀ x, x ∈ l → x < n) → l.length ≤ n
 | 0, l, _, h => by cases l with
  | nil => simp
  | cons a l => exact absurd (h a (by simp)) (by omega)
 | n + 1, l, hn, h => by
  have h1 := ZG n (l.filter (· ≠ n)) (hn.filter _) (fun x hx => by
   have h2 := List.mem_filter.1 hx
   have h4 := h x h2.1
   have h3 : x ≠ n := by simpa using h2.2
   omega)
  have h2 : l.length ≤ (l.filter (· ≠ n)).length + 1 := by
   by_cases hm : n ∈ l
   · have : l.filter (· ≠ n) = l.erase n := by rw [hn.erase_eq_filter]; congr 1; funext x; by_cases e : x = n <;> simp [e]
     rw [this, List.length_erase_of_mem hm]; omega
   · rw [List.filter_eq_self.2 (fun x hx => by simp; rintro rfl; exact hm hx)]; omega
  omega
theorem Yx {n : Nat} {adj : Nat → Nat → Prop} {f : Nat → Int} (step : ∀ i, i < n → 0 < f i → ∃ k, k < n ∧ adj i k ∧ f k = f i - 1) {i : Nat} (hi : i < n) : f i < n := by
 by_cases h : 0 ≤ f i
 · obtain ⟨d, hd⟩ := Int.eq_ofNat_of_zero_le h
   have hall : ∀ e, e ≤ d → ∃ k, k < n ∧ f k = (e : Int) := by
    intro e he
    have : ∀ m, m ≤ d → ∃ k, k < n ∧ f k = ((d - m : Nat) : Int) := by
     intro m
     induction m with
     | zero => intro _; exact ⟨i, hi, by simpa using hd⟩
     | succ m ih =>
      intro hm
      obtain ⟨k, hk, hfk⟩ := ih (by omega)
      obtain ⟨k', hk', _, he'⟩ := step k hk (by omega)
      exact ⟨k', hk', by omega⟩
    obtain ⟨k, hk, hfk⟩ := this (d - e) (by omega)
    exact ⟨k, hk, by omega⟩
   have : ∃ l : List Nat, l.length = d + 1 ∧ l.Nodup ∧ ∀ x ∈ l, x < n := by
    have hc : ∀ m, m ≤ d + 1 → ∃ l : List Nat, l.length = m ∧ l.Nodup ∧ (∀ x ∈ l, x < n) ∧ ∀ x ∈ l, f x < (m : Int) := by
     intro m
     induction m with
     | zero => intro _; exact ⟨[], rfl, List.nodup_nil, by simp, by simp⟩
     | succ m ih =>
      intro hm
      obtain ⟨l, h1, h2, h3, h4⟩ := ih (by omega)
      obtain ⟨k, hk, hfk⟩ := hall m (by omega)
      refine ⟨k :: l, by simp [h1], List.nodup_cons.2 ⟨fun hkl => ?_, h2⟩, fun x hx => ?_, fun x hx => ?_⟩
      · have := h4 k hkl; omega
      · rcases List.mem_cons.1 hx with rfl | hx
        · exact hk
        · exact h3 x hx
      · rcases List.mem_cons.1 hx with rfl | hx
        · omega
        · have := h4 x hx; omega
    obtain ⟨l, h1, h2, h3, _⟩ := hc (d + 1) (Nat.le_refl _)
    exact ⟨l, h1, h2, h3⟩
   obtain ⟨l, h1, h2, h3⟩ := this
   have := ZG n l h2 h3
   omega
 · omega
end
section
theorem XH {l : List Int} {i j : Nat} {x d : Int} (h : i < l.length) : (l.set i x).getD j d = if j = i then x else l.getD j d := by
 rw [List.getD_eq_getElem?_getD, List.getD_eq_getElem?_getD, List.getElem?_set]
 by_cases e : i = j
 · subst e; simp [h]
 · rw [if_neg e, if_neg (fun e' => e e'.symm)]
theorem zF {l : List Int} {i : Nat} (h : i < l.length) (d : Int) : l.getD i d = l[i] := by rw [List.getD_eq_getElem?_getD, List.getElem?_eq_getElem h]; rfl
section
variable {n : Nat} {adj : Nat → Nat → Prop} {src : Nat → Prop}
structure Bfs (n : Nat) (adj : Nat → Nat → Prop) (src : Nat → Prop) (out : List Int) (q : List Nat) : Prop where
 len : out.length = n
 ge : ∀ i, i < n → -1 ≤ out.getD i 0
 zero : ∀ i, i < n → (out.getD i 0 = 0 ↔ src i)
 step : ∀ i, i < n → 0 < out.getD i 0 → ∃ k, k < n ∧ adj i k ∧ out.getD k 0 = out.getD i 0 - 1
 inq : ∀ x ∈ q, x < n ∧ 0 ≤ out.getD x 0
 asc : q.Pairwise (fun x y => out.getD x 0 ≤ out.getD y 0)
 near : ∀ x ∈ q, ∀ i, i < n → out.getD i 0 ≤ out.getD x 0 + 1
 done : ∀ k, k < n → 0 ≤ out.getD k 0 → k ∉ q → ∀ i, i < n → adj i k → 0 ≤ out.getD i 0 ∧ out.getD i 0 ≤ out.getD k 0 + 1
structure BfsH (n : Nat) (adj : Nat → Nat → Prop) (src : Nat → Prop) (h : Nat) (pre : List Nat) (out : List Int) (q : List Nat) : Prop where
 len : out.length = n
 ge : ∀ i, i < n → -1 ≤ out.getD i 0
 zero : ∀ i, i < n → (out.getD i 0 = 0 ↔ src i)
 step : ∀ i, i < n → 0 < out.getD i 0 → ∃ k, k < n ∧ adj i k ∧ out.getD k 0 = out.getD i 0 - 1
 inq : ∀ x ∈ q, x < n ∧ 0 ≤ out.getD x 0
 asc : q.Pairwise (fun x y => out.getD x 0 ≤ out.getD y 0)
 hlt : h < n
 hge : 0 ≤ out.getD h 0
 after : ∀ x ∈ q, out.getD h 0 ≤ out.getD x 0
 near : ∀ i, i < n → out.getD i 0 ≤ out.getD h 0 + 1
 done : ∀ k, k < n → 0 ≤ out.getD k 0 → k ∉ q → k ≠ h → ∀ i, i < n → adj i k → 0 ≤ out.getD i 0 ∧ out.getD i 0 ≤ out.getD k 0 + 1
 seen : ∀ t ∈ pre, 0 ≤ out.getD t 0
theorem Bfs.start (l : List Nat) (out : List Int) (hl : out.length = n) (h : ∀ i, i < n → out.getD i 0 = if i ∈ l then 0 else -1) (hm : ∀ x ∈ l, x < n) (hs : ∀ i, i < n → (src i ↔ i ∈ l)) : Bfs n adj src out l where
 len := hl
 ge := fun i hi => by rw [h i hi]; split <;> omega
 zero := fun i hi => by
  rw [h i hi, hs i hi]
  by_cases e : i ∈ l
  · simp [e]
  · simp [e]
 step := fun i hi h0 => by rw [h i hi] at h0; split at h0 <;> omega
 inq := fun x hx => ⟨hm x hx, by rw [h x (hm x hx), if_pos hx]; omega⟩
 asc := by
  refine List.pairwise_iff_forall_sublist.2 fun {a b} hab => ?_
  have ha := hab.subset (show a ∈ [a, b] by simp)
  have hb := hab.subset (show b ∈ [a, b] by simp)
  rw [h a (hm a ha), h b (hm b hb), if_pos ha, if_pos hb]; omega
 near := fun x hx i hi => by rw [h x (hm x hx), if_pos hx, h i hi]; split <;> omega
 done := fun k hk h0 hn => by rw [h k hk, if_neg hn] at h0; omega
theorem Bfs.pop {h : Nat} {out : List Int} {q : List Nat} (b : Bfs n adj src out (h :: q)) : BfsH n adj src h [] out q where
 len := b.len
 ge := b.ge
 zero := b.zero
 step := b.step
 inq := fun x hx => b.inq x (List.mem_cons_of_mem _ hx)
 asc := (List.pairwise_cons.1 b.asc).2
 hlt := (b.inq h (by simp)).1
 hge := (b.inq h (by simp)).2
 after := (List.pairwise_cons.1 b.asc).1
 near := b.near h (by simp)
 done := fun k hk h0 hq hne => b.done k hk h0 (by simp [hq, hne])
 seen := by simp
theorem BfsH.skip {h t : Nat} {pre : List Nat} {out : List Int} {q : List Nat} (b : BfsH n adj src h pre out q) (ht : 0 ≤ out.getD t 0) : BfsH n adj src h (pre ++ [t]) out q := by
 refine ⟨b.len, b.ge, b.zero, b.step, b.inq, b.asc, b.hlt, b.hge, b.after, b.near, b.done, fun x hx => ?_⟩
 rcases List.mem_append.1 hx with hx | hx
 · exact b.seen x hx
 · rw [List.mem_singleton] at hx; subst hx; exact ht
theorem BfsH.see {h t : Nat} {pre : List Nat} {out : List Int} {q : List Nat} (b : BfsH n adj src h pre out q) (hn : t < n) (ha : adj t h) (ht : out.getD t 0 < 0) :
  BfsH n adj src h (pre ++ [t]) (out.set t (out.getD h 0 + 1)) (q ++ [t]) := by
 have hth : t ≠ h := by rintro rfl; have := b.hge; omega
 have htl : t < out.length := by rw [b.len]; exact hn
 have gt : (out.set t (out.getD h 0 + 1)).getD t 0 = out.getD h 0 + 1 := by rw [XH htl, if_pos rfl]
 have go : ∀ j, j ≠ t → (out.set t (out.getD h 0 + 1)).getD j 0 = out.getD j 0 := fun j hj => by rw [XH htl, if_neg hj]
 have hge := b.hge
 have hq : ∀ x ∈ q, x ≠ t := fun x hx => by rintro rfl; have := (b.inq x hx).2; omega
 refine ⟨by rw [List.length_set]; exact b.len, fun i hi => ?_, fun i hi => ?_, fun i hi h0 => ?_, fun x hx => ?_, ?_, b.hlt, by rw [go h (Ne.symm hth)]; exact hge, fun x hx => ?_, fun i hi => ?_, fun k hk h0 hkq hkh i hi hai => ?_, fun x hx => ?_⟩
 · by_cases e : i = t
   · subst e; rw [gt]; omega
   · rw [go i e]; exact b.ge i hi
 · by_cases e : i = t
   · subst e
     rw [gt, ← b.zero i hi]
     omega
   · rw [go i e]; exact b.zero i hi
 · by_cases e : i = t
   · subst e
     exact ⟨h, b.hlt, ha, by rw [gt, go h (Ne.symm hth)]; omega⟩
   · rw [go i e] at h0 ⊢
     obtain ⟨k, hk, hak, he⟩ := b.step i hi h0
     exact ⟨k, hk, hak, by rw [go k (by rintro rfl; omega)]; exact he⟩
 · rcases List.mem_append.1 hx with hx | hx
   · rw [go x (hq x hx)]; exact b.inq x hx
   · rw [List.mem_singleton] at hx; subst hx; exact ⟨hn, by rw [gt]; omega⟩
 · refine List.pairwise_append.2 ⟨?_, List.pairwise_singleton _ _, fun x hx y hy => ?_⟩
   · exact b.asc.imp_of_mem fun {x y} hx hy h1 => by rw [go x (hq x hx), go y (hq y hy)]; exact h1
   · rw [List.mem_singleton] at hy; subst hy
     rw [gt, go x (hq x hx)]
     exact b.near x (b.inq x hx).1
 · rw [go h (Ne.symm hth)]
   rcases List.mem_append.1 hx with hx | hx
   · rw [go x (hq x hx)]; exact b.after x hx
   · rw [List.mem_singleton] at hx; subst hx; rw [gt]; omega
 · rw [go h (Ne.symm hth)]
   by_cases e : i = t
   · subst e; rw [gt]; omega
   · rw [go i e]; exact b.near i hi
 · have hkt : k ≠ t := by rintro rfl; exact hkq (by simp)
   rw [go k hkt] at h0 ⊢
   have := b.done k hk h0 (fun e => hkq (List.mem_append_left _ e)) hkh i hi hai
   have hit : i ≠ t := by rintro rfl; omega
   rw [go i hit]; exact this
 · rcases List.mem_append.1 hx with hx | hx
   · have h1 := b.seen x hx
     rw [go x (by rintro rfl; omega)]; exact h1
   · rw [List.mem_singleton] at hx; subst hx; rw [gt]; omega
theorem BfsH.close {h : Nat} {pre : List Nat} {out : List Int} {q : List Nat} (b : BfsH n adj src h pre out q) (hp : ∀ i, i < n → adj i h → i ∈ pre) : Bfs n adj src out q where
 len := b.len
 ge := b.ge
 zero := b.zero
 step := b.step
 inq := b.inq
 asc := b.asc
 near := fun x hx i hi => by have := b.near i hi; have := b.after x hx; omega
 done := fun k hk h0 hq i hi ha => by
  by_cases e : k = h
  · subst e
    exact ⟨b.seen i (hp i hi ha), b.near i hi⟩
  · exact b.done k hk h0 hq e i hi ha
theorem Bfs.far {out : List Int} (b : Bfs n adj src out []) : Far n adj src (fun i => out.getD i 0) where
 ge := b.ge
 zero := b.zero
 step := b.step
 low := fun i k hi hk ha h0 => b.done k hk h0 (by simp) i hi ha
theorem neg_set {out : List Int} {t : Nat} {x : Int} (ht : t < out.length) (h : out.getD t 0 < 0) (hx : 0 ≤ x) : ((out.set t x).filter (fun y => decide (y < 0))).length + 1 = (out.filter (fun y => decide (y < 0))).length := by
 rw [zF ht] at h
 rw [← List.countP_eq_length_filter, ← List.countP_eq_length_filter, List.countP_set ht]
 have h1 : decide (out[t] < 0) = true := by simpa using h
 have h2 : decide (x < 0) = false := by simpa using hx
 have h3 : 0 < out.countP (fun y => decide (y < 0)) := List.countP_pos_iff.2 ⟨out[t], List.getElem_mem ht, h1⟩
 rw [h1, h2]
 simp only [if_true, Bool.false_eq_true, if_false]
 omega
end
theorem far_list {n : Nat} {adj : Nat → Nat → Prop} {src : Nat → Prop} {a b : List Int} (hf : Far n adj src (fun i => a.getD i 0)) (hg : Far n adj src (fun i => b.getD i 0)) (ha : a.length = n) (hb : b.length = n) : a = b := by
 refine List.ext_getElem (by omega) fun i h1 h2 => ?_
 have := hf.uniq hg i (by omega)
 rwa [zF h1, zF h2] at this
theorem far_reach {n : Nat} {adj : Nat → Nat → Prop} {src : Nat → Prop} {f : Nat → Int} (hf : Far n adj src f) (hs : ∀ i k, adj i k → adj k i) (i : Nat) (hi : i < n) : 0 ≤ f i ↔ ∃ j, j < n ∧ src j ∧ Conn n adj j i := by
 constructor
 · intro h
   obtain ⟨d, hd⟩ := Int.eq_ofNat_of_zero_le h
   clear h
   induction d generalizing i with
   | zero => exact ⟨i, hi, (hf.zero i hi).1 hd, .refl _⟩
   | succ d ih =>
    obtain ⟨k, hk, ha, he⟩ := hf.step i hi (by omega)
    obtain ⟨j, hj, hsj, hc⟩ := ih k hk (by omega)
    exact ⟨j, hj, hsj, hc.trans (Conn.one hk hi (hs _ _ ha))⟩
 · rintro ⟨j, hj, hsj, hc⟩
   induction hc with
   | refl => have := (hf.zero j hj).2 hsj; omega
   | step _ h1 h2 h3 ih => exact (hf.low _ _ h2 h1 (hs _ _ h3) (ih h1)).1
section
variable {n : Nat} {adj : Nat → Nat → Prop}
noncomputable def yu (n : Nat) (adj : Nat → Nat → Prop) (i : Nat) : List Int :=
 (List.range n).map fun k => if yM n adj k < i then ((yF ((List.range i).map (yM n adj))).idxOf (yM n adj k) : Int) else -1
noncomputable def xW (n : Nat) (adj : Nat → Nat → Prop) (i : Nat) : Nat := (yF ((List.range i).map (yM n adj))).length
theorem kL (i : Nat) : (yu n adj i).length = n := by simp [yu]
theorem uo (i k : Nat) (hk : k < n) : (yu n adj i).getD k 0 = if yM n adj k < i then ((yF ((List.range i).map (yM n adj))).idxOf (yM n adj k) : Int) else -1 := by
 rw [zF (by rw [kL]; exact hk)]; simp [yu]
theorem XR : yu n adj 0 = List.replicate n (-1) := by
 refine List.ext_getElem (by simp [yu]) fun i h1 h2 => ?_
 simp [yu]
theorem Xk : xW n adj 0 = 0 := rfl
theorem nextTo_le (i : Nat) : xW n adj i ≤ i := by have := JU ((List.range i).map (yM n adj)); simpa [xW] using this
theorem Q3 : yu n adj n = kQ n adj := by
 refine List.ext_getElem (by rw [kL, ZT]) fun k h1 h2 => ?_
 have hk : k < n := by rwa [kL] at h1
 have e := Yt ((List.range n).map (yM n adj)) k (by simpa using hk)
 refine Eq.trans ?_ e.symm
 simp only [yu, List.getElem_map, List.getElem_range]
 rw [if_pos (Nat.lt_of_le_of_lt (YE k) hk)]
theorem ue (hs : ∀ i j, adj i j → adj j i) {i k : Nat} : yM n adj k ∈ (List.range i).map (yM n adj) ↔ yM n adj k < i := by
 constructor
 · intro h
   obtain ⟨j, hj, e⟩ := List.mem_map.1 h
   have := YE (n := n) (adj := adj) j
   have := List.mem_range.1 hj
   omega
 · intro h
   exact List.mem_map.2 ⟨yM n adj k, List.mem_range.2 h, ZU hs k⟩
theorem hP {i : Nat} {k : Nat} (hk : k < n) : 0 ≤ (yu n adj i).getD k 0 ↔ yM n adj k < i := by
 rw [uo i k hk]
 split
 · rename_i h; exact ⟨fun _ => h, fun _ => by omega⟩
 · rename_i h; exact ⟨fun h0 => by omega, fun h0 => absurd h0 h⟩
theorem XS (hs : ∀ i j, adj i j → adj j i) {i : Nat} (hi : i < n) (h : 0 ≤ (yu n adj i).getD i 0) : yu n adj (i + 1) = yu n adj i ∧ xW n adj (i + 1) = xW n adj i := by
 have hc := (hP hi).1 h
 have hu : yF ((List.range (i + 1)).map (yM n adj)) = yF ((List.range i).map (yM n adj)) := by
  rw [List.range_succ, List.map_append, List.map_cons, List.map_nil, xR]
  unfold xD
  rw [if_pos (yl.2 ((ue hs).2 hc))]
 refine ⟨?_, by unfold xW; rw [hu]⟩
 unfold yu
 refine List.map_congr_left fun k hk => ?_
 rw [hu]
 have e : yM n adj k < i + 1 ↔ yM n adj k < i := by
  constructor
  · intro h1
    by_cases e : yM n adj k = i
    · have := ZU hs (n := n) k
      rw [e] at this; omega
    · omega
  · omega
 simp only [e]
theorem Q2 (hs : ∀ i j, adj i j → adj j i) {i : Nat} (hi : i < n) (h : (yu n adj i).getD i 0 < 0) {d : List Int} (_hd : d.length = n) (hf : Far n adj (fun k => k = i) (fun k => d.getD k 0)) :
  (∀ k, k < n → (yu n adj (i + 1)).getD k 0 = if 0 ≤ d.getD k 0 then (xW n adj i : Int) else (yu n adj i).getD k 0) ∧ xW n adj (i + 1) = xW n adj i + 1 := by
 have hc : yM n adj i = i := by
  have h1 : ¬ yM n adj i < i := fun e => by have := (hP hi).2 e; omega
  have := YE (n := n) (adj := adj) i
  omega
 have hni : ¬ yM n adj i ∈ yF ((List.range i).map (yM n adj)) := fun e => by
  have := (ue hs).1 (yl.1 e); omega
 have hu : yF ((List.range (i + 1)).map (yM n adj)) = yF ((List.range i).map (yM n adj)) ++ [i] := by
  rw [List.range_succ, List.map_append, List.map_cons, List.map_nil, xR]
  unfold xD
  rw [if_neg hni, hc]
 refine ⟨fun k hk => ?_, by unfold xW; rw [hu]; simp⟩
 have hr := hf.reach hi hs k hk
 rw [← YF hs, hc] at hr
 rw [uo _ k hk, uo _ k hk, hu]
 by_cases h0 : 0 ≤ d.getD k 0
 · have e := (hr.1 h0).symm
   rw [if_pos h0, e, if_pos (by omega), List.idxOf_append, if_neg (by rw [hc] at hni; exact hni)]
   simp [xW]
 · have e : ¬ yM n adj k = i := fun e => h0 (hr.2 e.symm)
   rw [if_neg h0]
   by_cases h1 : yM n adj k < i
   · rw [if_pos h1, if_pos (by omega), List.idxOf_append, if_pos (yl.2 ((ue hs).2 h1))]
   · rw [if_neg h1, if_neg (by omega)]
end
end
section
def kU (c : List Int) (k : Int) : List Nat := (List.range c.length).filter fun i => decide (c.getD i 0 = k)
def ya (ps : List Nat) (cls : Nat → List Int) (i : Nat) : List (Nat × Nat) := ps.flatMap fun p => (kU (cls p) ((cls p).getD i 0)).map fun k => (k, p)
def yw (ps : List Nat) (cls : Nat → List Int) (i k : Nat) : Prop := ∃ p ∈ ps, (cls p).getD i 0 = (cls p).getD k 0
theorem Z3 (ps : List Nat) (cls : Nat → List Int) (i k : Nat) (h : yw ps cls i k) : yw ps cls k i := by obtain ⟨p, hp, e⟩ := h; exact ⟨p, hp, e.symm⟩
theorem mem_memE {c : List Int} {k : Int} {i : Nat} : i ∈ kU c k ↔ i < c.length ∧ c.getD i 0 = k := by simp [kU]
theorem jh {n : Nat} {ps : List Nat} {cls : Nat → List Int} (hl : ∀ p ∈ ps, (cls p).length = n) {i : Nat} {t : Nat × Nat} : t ∈ ya ps cls i ↔ t.1 < n ∧ t.2 ∈ ps ∧ (cls t.2).getD t.1 0 = (cls t.2).getD i 0 := by
 unfold ya
 simp only [List.mem_flatMap, List.mem_map, mem_memE]
 constructor
 · rintro ⟨p, hp, k, ⟨h1, h2⟩, rfl⟩
   exact ⟨by rw [← hl p hp]; exact h1, hp, h2⟩
 · rintro ⟨h1, h2, h3⟩
   exact ⟨t.2, h2, t.1, ⟨by rw [hl _ h2]; exact h1, h3⟩, rfl⟩
theorem nbr_adj {n : Nat} {ps : List Nat} {cls : Nat → List Int} (hl : ∀ p ∈ ps, (cls p).length = n) {i t : Nat} (ht : t < n) : t ∈ (ya ps cls i).map (·.1) ↔ yw ps cls t i := by
 rw [List.mem_map]
 constructor
 · rintro ⟨x, hx, rfl⟩
   obtain ⟨h1, h2, h3⟩ := (jh hl).1 hx
   exact ⟨x.2, h2, h3⟩
 · rintro ⟨p, hp, e⟩
   exact ⟨(t, p), (jh hl).2 ⟨ht, hp, e⟩, rfl⟩
theorem nbr_asc {ps : List Nat} {cls : Nat → List Int} (hp : ps.Pairwise (· < ·)) (i : Nat) : (ya ps cls i).Pairwise (fun a b => a.2 ≤ b.2) := by
 unfold ya
 induction ps with
 | nil => simp
 | cons p ps ih =>
  obtain ⟨h1, h2⟩ := List.pairwise_cons.1 hp
  rw [List.flatMap_cons]
  refine List.pairwise_append.2 ⟨?_, ih h2, fun x hx y hy => ?_⟩
  · exact List.pairwise_map.2 (List.Pairwise.imp (fun _ => Nat.le_refl _) (List.pairwise_of_forall (fun _ _ => trivial) : List.Pairwise (fun _ _ => True) _))
  · obtain ⟨k, _, rfl⟩ := List.mem_map.1 hx
    obtain ⟨q, hq, hy⟩ := List.mem_flatMap.1 hy
    obtain ⟨k', _, rfl⟩ := List.mem_map.1 hy
    exact Nat.le_of_lt (h1 q hq)
def xK (f : List Int) (d : Int) (b t : Nat × Nat) : Nat × Nat := if f.getD t.1 0 = d ∧ t.1 < b.1 then t else b
def xm (f : List Int) (d : Int) (n : Nat) (l : List (Nat × Nat)) : Nat × Nat := l.foldl (xK f d) (n, 0)
theorem Q5 (f : List Int) (d : Int) (n : Nat) (l : List (Nat × Nat)) (t : Nat × Nat) : xm f d n (l ++ [t]) = xK f d (xm f d n l) t := by simp [xm, List.foldl_append]
theorem YH (f : List Int) (d : Int) (n : Nat) : ∀ (l : List (Nat × Nat)) (b : Nat × Nat), (l.foldl (xK f d) b).1 ≤ b.1
 | [], b => Nat.le_refl _
 | t :: l, b => by
  rw [List.foldl_cons]
  refine Nat.le_trans (YH f d n l _) ?_
  unfold xK
  split
  · rename_i h; omega
  · exact Nat.le_refl _
theorem Z2 (f : List Int) (d : Int) (n : Nat) : ∀ (l : List (Nat × Nat)) (b : Nat × Nat), (l.Pairwise fun a b => a.2 ≤ b.2) →
  (∀ t ∈ l, f.getD t.1 0 = d → (l.foldl (xK f d) b).1 ≤ t.1) ∧
  ((l.foldl (xK f d) b) = b ∨ ((l.foldl (xK f d) b) ∈ l ∧ f.getD (l.foldl (xK f d) b).1 0 = d ∧ (l.foldl (xK f d) b).1 < b.1 ∧ ∀ t ∈ l, t.1 = (l.foldl (xK f d) b).1 → (l.foldl (xK f d) b).2 ≤ t.2))
 | [], b, _ => ⟨by simp, .inl rfl⟩
 | t :: l, b, hp => by
  obtain ⟨h1, h2⟩ := List.pairwise_cons.1 hp
  obtain ⟨i1, i2⟩ := Z2 f d n l (xK f d b t) h2
  have hle := YH f d n l (xK f d b t)
  rw [List.foldl_cons]
  generalize l.foldl (xK f d) (xK f d b t) = r at *
  by_cases hc : f.getD t.1 0 = d ∧ t.1 < b.1
  · have e : xK f d b t = t := if_pos hc
    rw [e] at i2 hle
    refine ⟨fun x hx hfx => ?_, .inr ?_⟩
    · rcases List.mem_cons.1 hx with rfl | hx
      · exact hle
      · exact i1 x hx hfx
    · rcases i2 with rfl | ⟨j1, j2, j3, j4⟩
      · exact ⟨by simp, hc.1, hc.2, fun x hx he => by
         rcases List.mem_cons.1 hx with rfl | hx
         · exact Nat.le_refl _
         · exact h1 x hx⟩
      · exact ⟨List.mem_cons_of_mem _ j1, j2, by omega, fun x hx he => by
         rcases List.mem_cons.1 hx with rfl | hx
         · omega
         · exact j4 x hx he⟩
  · have e : xK f d b t = b := if_neg hc
    rw [e] at i2 hle
    refine ⟨fun x hx hfx => ?_, ?_⟩
    · rcases List.mem_cons.1 hx with rfl | hx
      · have : ¬ x.1 < b.1 := fun h => hc ⟨hfx, h⟩
        omega
      · exact i1 x hx hfx
    · rcases i2 with h | ⟨j1, j2, j3, j4⟩
      · exact .inl h
      · refine .inr ⟨List.mem_cons_of_mem _ j1, j2, j3, fun x hx he => ?_⟩
        rcases List.mem_cons.1 hx with rfl | hx
        · have : ¬ x.1 < b.1 := fun h => hc ⟨by rw [he]; exact j2, h⟩
          omega
        · exact j4 x hx he
def jH (f : List Int) (n : Nat) (nb : Nat → List (Nat × Nat)) : Nat → Nat → List (Nat × Nat)
 | 0, _ => []
 | d + 1, i => xm f (d : Int) n (nb i) :: jH f n nb d (xm f (d : Int) n (nb i)).1
theorem Zv (f : List Int) (n : Nat) (nb : Nat → List (Nat × Nat)) : ∀ d i, (jH f n nb d i).length = d
 | 0, _ => rfl
 | d + 1, i => by rw [jH, List.length_cons, Zv]
end
section
def zS (set : List Bool) : List Nat := (List.range set.length).filter fun i => set.getD i false == false
theorem vD {set : List Bool} {i : Nat} : i ∈ zS set ↔ i < set.length ∧ set.getD i false = false := by simp [zS]
noncomputable def jU (n : Nat) (adj : Nat → Nat → Prop) (set : List Bool) : List Bool := (List.range n).map fun i => @decide (∀ j, j < n → Conn n adj j i → set.getD j false = true) (Classical.propDecidable _)
theorem kj (n : Nat) (adj : Nat → Nat → Prop) (set : List Bool) : (jU n adj set).length = n := by simp [jU]
theorem heldL_at (n : Nat) (adj : Nat → Nat → Prop) (set : List Bool) (i : Nat) (h : i < n) : (jU n adj set)[i]'(by rw [kj]; exact h) = true ↔ ∀ j, j < n → Conn n adj j i → set.getD j false = true := by simp [jU]
theorem gJ {n : Nat} {adj : Nat → Nat → Prop} {set : List Bool} {f : List Int} (hn : set.length = n) (hf : Far n adj (fun i => i ∈ zS set) (fun i => f.getD i 0)) (hl : f.length = n) (hs : ∀ i k, adj i k → adj k i) : jU n adj set = f.map fun d => decide (d < 0) := by
 refine List.ext_getElem (by rw [kj]; simp [hl]) fun i h1 h2 => ?_
 have hi : i < n := by rwa [kj] at h1
 rw [Bool.eq_iff_iff, heldL_at n adj set i hi, List.getElem_map, decide_eq_true_iff]
 have hr := far_reach hf hs i hi
 rw [← zF (by omega : i < f.length) 0]
 constructor
 · intro h
   refine Int.not_le.1 fun h0 => ?_
   obtain ⟨j, hj, hsj, hc⟩ := hr.1 h0
   have h3 := (vD.1 hsj).2
   rw [h j hj hc] at h3
   cases h3
 · intro h j hj hc
   cases hb : set.getD j false with
   | true => rfl
   | false => have := hr.2 ⟨j, hj, vD.2 ⟨by omega, hb⟩, hc⟩; omega
def xp (n : Nat) (adj : Nat → Nat → Prop) (src : Nat → Prop) : Nat → Nat → Prop
 | 0, i => src i
 | d + 1, i => ∃ k, k < n ∧ adj i k ∧ xp n adj src d k
noncomputable def uT (n : Nat) (adj : Nat → Nat → Prop) (src : Nat → Prop) (i : Nat) : Int :=
 @dite _ (∃ d, xp n adj src d i) (Classical.propDecidable _) (fun h => ((Classical.choose (qA (p := fun d => xp n adj src d i) (Classical.choose h) (Classical.choose_spec h)) : Nat) : Int)) (fun _ => -1)
theorem xt {n : Nat} {adj : Nat → Nat → Prop} {src : Nat → Prop} {i d : Nat} (h : xp n adj src d i) : ∃ m : Nat, uT n adj src i = (m : Int) ∧ m ≤ d ∧ xp n adj src m i ∧ ∀ k, k < m → ¬ xp n adj src k i := by
 have h1 : ∃ d, xp n adj src d i := ⟨d, h⟩
 unfold uT
 rw [dif_pos h1]
 obtain ⟨a1, a2, a3⟩ := Classical.choose_spec (qA (p := fun d => xp n adj src d i) (Classical.choose h1) (Classical.choose_spec h1))
 exact ⟨_, rfl, Nat.le_of_not_lt fun hlt => a3 d hlt h, a2, a3⟩
theorem kK {n : Nat} {adj : Nat → Nat → Prop} {src : Nat → Prop} {i : Nat} (h : ¬ ∃ d, xp n adj src d i) : uT n adj src i = -1 := by
 unfold uT
 rw [dif_neg h]
theorem distN_far (n : Nat) (adj : Nat → Nat → Prop) (src : Nat → Prop) : Far n adj src (uT n adj src) where
 ge := fun i _ => by
  by_cases h : ∃ d, xp n adj src d i
  · obtain ⟨d, hd⟩ := h
    obtain ⟨m, e, _⟩ := xt hd
    omega
  · rw [kK h]; omega
 zero := fun i _ => by
  constructor
  · intro h0
    by_cases h : ∃ d, xp n adj src d i
    · obtain ⟨d, hd⟩ := h
      obtain ⟨m, e, _, h2, _⟩ := xt hd
      obtain rfl : m = 0 := by omega
      exact h2
    · rw [kK h] at h0; omega
  · intro h0
    obtain ⟨m, e, h1, _⟩ := xt (d := 0) (show xp n adj src 0 i from h0)
    omega
 step := fun i _ h0 => by
  by_cases h : ∃ d, xp n adj src d i
  · obtain ⟨d, hd⟩ := h
    obtain ⟨m, e, _, h2, h3⟩ := xt hd
    obtain ⟨m', rfl⟩ : ∃ m', m = m' + 1 := ⟨m - 1, by omega⟩
    obtain ⟨k, hk, ha, hr⟩ := h2
    obtain ⟨j, e2, hj, hj2, _⟩ := xt hr
    refine ⟨k, hk, ha, ?_⟩
    have : ¬ j < m' := fun hlt => h3 (j + 1) (by omega) ⟨k, hk, ha, hj2⟩
    omega
  · rw [kK h] at h0; omega
 low := fun i k _ hk ha h0 => by
  by_cases h : ∃ d, xp n adj src d k
  · obtain ⟨d, hd⟩ := h
    obtain ⟨m, e, _, h2, _⟩ := xt hd
    obtain ⟨j, e2, hj, _⟩ := xt (d := m + 1) (show xp n adj src (m + 1) i from ⟨k, hk, ha, h2⟩)
    omega
  · rw [kK h] at h0; omega
theorem far_ex (n : Nat) (adj : Nat → Nat → Prop) (src : Nat → Prop) : ∃ f : List Int, f.length = n ∧ Far n adj src (fun i => f.getD i 0) := by
 refine ⟨(List.range n).map (uT n adj src), by simp, ?_⟩
 have h := distN_far n adj src
 have e : ∀ i, i < n → ((List.range n).map (uT n adj src)).getD i 0 = uT n adj src i := fun i hi => by rw [zF (by simpa using hi)]; simp
 refine ⟨fun i hi => by simp only [e i hi]; exact h.ge i hi, fun i hi => by simp only [e i hi]; exact h.zero i hi, fun i hi h0 => ?_, fun i k hi hk ha h0 => ?_⟩
 · simp only [e i hi] at h0 ⊢
   obtain ⟨k, hk, ha, hd⟩ := h.step i hi h0
   exact ⟨k, hk, ha, by rw [e k hk]; exact hd⟩
 · simp only [e i hi, e k hk] at h0 ⊢
   exact h.low i k hi hk ha h0
def qj (bs : List Bool) (k : Nat) : List Bool := bs.take k ++ List.replicate (bs.length - k) false
theorem ul (bs : List Bool) : qj bs 0 = List.replicate bs.length false := by simp [qj]
theorem gS (bs : List Bool) : qj bs bs.length = bs := by simp [qj]
theorem gR (bs : List Bool) {k : Nat} (hk : k ≤ bs.length) : (qj bs k).length = bs.length := by simp [qj]; omega
theorem gQ (bs : List Bool) {k : Nat} (hk : k < bs.length) : (qj bs k).set k bs[k] = qj bs (k + 1) := by
 unfold qj
 rw [List.take_succ_eq_append_getElem hk, List.set_append_right _ _ (by simp; omega)]
 rw [show bs.length - k = (bs.length - (k + 1)) + 1 by omega, List.replicate_succ]
 rw [show k - (bs.take k).length = 0 by simp; omega, List.set_cons_zero, List.append_assoc]
 rfl
end
end Go.Proofs.YtdkmpccfnnpnbaaGreat
