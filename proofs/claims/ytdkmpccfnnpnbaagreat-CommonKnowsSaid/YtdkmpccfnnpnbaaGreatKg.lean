/- Parts CmnF CmnC CmnD CmnO CmnH CmnW CmnV EqS Aw39 RgtB Pcnt Scene ParP KnwP. -/
import Derived.Test.YtdkmpccfnnpnbaaGreatProg
import Derived.Test.YtdkmpccfnnpnbaaGreatKf
import Derived.Test.YtdkmpccfnnpnbaaGreatKc
import Derived.Test.YtdkmpccfnnpnbaaGreatKd
import Derived.Deep.LoopGhost
import Derived.Test.YtdkmpccfnnpnbaaGreatKe
import Derived.Test.YtdkmpccfnnpnbaaGreatKa
import Derived.Test.YtdkmpccfnnpnbaaGreatKb
import Derived.Deep.QuietTactic
import Derived.BigQuiet

namespace Go.Proofs.YtdkmpccfnnpnbaaGreat
set_option maxHeartbeats 4000000
section
open Go.RowKit Go.Shelf
attribute [local go_sem] Oper.semAt_some
def xA (n : Nat) (L : List Nat) : List Int := (List.range n).map fun i => if i ∈ L then 0 else -1
theorem qu (n : Nat) (L : List Nat) : (xA n L).length = n := by simp [xA]
theorem initL_nil (n : Nat) : xA n [] = List.replicate n (-1) := by
 refine List.ext_getElem (by simp [xA]) fun i h1 h2 => ?_
 simp [xA]
theorem initL_at (n : Nat) (L : List Nat) (i : Nat) (h : i < n) : (xA n L).getD i 0 = if i ∈ L then 0 else -1 := by
 rw [zF (by rw [qu]; exact h)]; simp [xA]
theorem initL_set (n : Nat) (L : List Nat) (x : Nat) (_hx : x < n) : (xA n L).set x 0 = xA n (L ++ [x]) := by
 refine List.ext_getElem (by simp [xA]) fun i h1 h2 => ?_
 rw [List.getElem_set]
 by_cases e : x = i
 · subst e; simp [xA]
 · have e' : ¬ i = x := fun h => e h.symm
   simp [xA, e, e']
structure FlIn (B b5 b6 g : Nat) (No : Nat → Prop) (C : Array Value) (out : List Int) (q : List Nat) (w W : World) : Prop where
 below : Below B w W
 b0 : W.heap[B]? = some (.cells C 126 (0, 0))
 h5 : W.heap[b5]? = some (.cells #[.slice (some ⟨g, 0, none⟩) out.length out.length] 38 (0, 0))
 row : RowAt W g out
 h6 : ∃ v, W.heap[b6]? = some (.cells #[v] 38 (0, 0)) ∧ Tail W B v (zM q) ∧ ∀ z, v.ownBlock = some z → z ≠ g ∧ ¬ No z
 l5 : B < b5
 l6 : B < b6
 lg : B < g
 n56 : b5 ≠ b6
section
variable {B b5 b6 g : Nat} {No : Nat → Prop} {C : Array Value} {out : List Int} {q : List Nat} {w W W' : World}
theorem qW {base : Nat} {v : Value} {xs : List Int} (h : Tail W base v xs) {k : Nat} {cs : Array Value} {t : TypeId} (hk : W.heap[k]? = some (.cells cs t (0, 0))) (ht : t ≠ 3) : v.ownBlock ≠ some k := fun e => by
 obtain ⟨cur, hc⟩ := h.cells k e
 rw [hk] at hc
 cases hc
 exact ht rfl
theorem FlIn.ne5 (h : FlIn B b5 b6 g No C out q w W) : b5 ≠ g := fun e => by
 have h1 := h.h5
 rw [e, h.row] at h1
 injection h1 with h1
 injection h1 with _ h2 _
 exact absurd h2 (by decide)
theorem FlIn.ne6 (h : FlIn B b5 b6 g No C out q w W) : b6 ≠ g := fun e => by
 obtain ⟨v, h1, _⟩ := h.h6
 rw [e, h.row] at h1
 injection h1 with h1
 injection h1 with _ h2 _
 exact absurd h2 (by decide)
theorem FlIn.on (h : FlIn B b5 b6 g No C out q w W) (hb : Below W.heap.size W W') : FlIn B b5 b6 g No C out q w W' := by
 obtain ⟨v, h1, h2, h3⟩ := h.h6
 have hB := zd h.b0
 exact ⟨h.below.trans (hb.mono (by omega)), (hb.block _ (zd h.b0)).trans h.b0, (hb.block _ (zd h.h5)).trans h.h5, (hb.block _ h.row.lt).trans h.row, ⟨v, (hb.block _ (zd h1)).trans h1, h2.same fun k e => hb.block _ (h2.lt k e).2, h3⟩, h.l5, h.l6, h.lg, h.n56⟩
theorem FlIn.reno {No' : Nat → Prop} (h : FlIn B b5 b6 g No C out q w W) (hn : ∀ z, No' z → No z ∨ W.heap.size ≤ z) : FlIn B b5 b6 g No' C out q w W := by
 obtain ⟨v, h1, h2, h3⟩ := h.h6
 refine ⟨h.below, h.b0, h.h5, h.row, ⟨v, h1, h2, fun z e => ⟨(h3 z e).1, fun hz => ?_⟩⟩, h.l5, h.l6, h.lg, h.n56⟩
 rcases hn z hz with h4 | h4
 · exact (h3 z e).2 h4
 · have := (h2.lt z e).2; omega
theorem FlIn.turn {row : Option Nat} (h : FlIn B b5 b6 g No C out q w W) (hg : W.grownBy W' row) (hr : ∀ r, row = some r → B ≤ r ∧ ∃ o : Obj, W.heap[r]? = some o ∧ o.isCells = false) : FlIn B b5 b6 g No C out q w W' := by
 obtain ⟨v, h1, h2, h3⟩ := h.h6
 have hB := zd h.b0
 refine ⟨h.below.grown hg (by omega) (fun k hk => (hr k hk).1), (grownBy_keeps_cells hg (fun r e => (hr r e).2) h.b0 rfl).trans h.b0, (grownBy_keeps_cells hg (fun r e => (hr r e).2) h.h5 rfl).trans h.h5,
  (grownBy_keeps_cells hg (fun r e => (hr r e).2) h.row rfl).trans h.row, ⟨v, (grownBy_keeps_cells hg (fun r e => (hr r e).2) h1 rfl).trans h1, h2.same fun k e => ?_, h3⟩, h.l5, h.l6, h.lg, h.n56⟩
 obtain ⟨cur, hc⟩ := h2.cells k e
 exact (grownBy_keeps_cells hg (fun r e => (hr r e).2) hc rfl)
theorem FlIn.set (h : FlIn B b5 b6 g No C out q w W) (k : Nat) (u : Int) : FlIn B b5 b6 g No C (out.set k u) q w (W.setCell ⟨g, k, none⟩ (.int .i64 u)) := by
 obtain ⟨v, h1, h2, h3⟩ := h.h6
 have hlg := h.lg
 have old : ∀ j, j ≠ g → (W.setCell ⟨g, k, none⟩ (.int .i64 u)).heap[j]? = W.heap[j]? := fun j hj => Below.heap_setCell W ⟨g, k, none⟩ _ j hj
 have n1 := h.ne5
 have n2 := h.ne6
 exact ⟨h.below.setCell (by show B ≤ g; omega) _, (old _ (by omega)).trans h.b0, by rw [List.length_set]; exact (old _ n1).trans h.h5, h.row.set k u, ⟨v, (old _ n2).trans h1, h2.same fun j e => old j (h3 j e).1, h3⟩, h.l5, h.l6, hlg, h.n56⟩
theorem FlIn.wait {q' : List Nat} {v v' : Value} (h : FlIn B b5 b6 g No C out q w W) (h6 : W.heap[b6]? = some (.cells #[v] 38 (0, 0))) (hb : Below B W W') (hs : ∀ j, j < W.heap.size → v.ownBlock ≠ some j → W'.heap[j]? = W.heap[j]?) (hv : Tail W B v (zM q)) (hvn : ∀ z, v.ownBlock = some z → z ≠ g ∧ ¬ No z)
  (hv' : Tail W' B v' (zM q')) (hg' : v'.ownBlock = v.ownBlock ∨ ∃ z, v'.ownBlock = some z ∧ W.heap.size ≤ z) (hNo : ∀ z, No z → z < W.heap.size) : FlIn B b5 b6 g No C out q' w (W'.setCell ⟨b6, 0, none⟩ v') := by
 have hB := zd h.b0
 have hl6 := h.l6
 have o0 := (hs B (by omega) (qW hv h.b0 (by decide))).trans h.b0
 have o5 := (hs b5 (zd h.h5) (qW hv h.h5 (by decide))).trans h.h5
 have og : W'.heap[g]? = _ := (hs g h.row.lt (fun e => (hvn g e).1 rfl)).trans h.row
 have o6 := (hs b6 (zd h6) (qW hv h6 (by decide))).trans h6
 have n1 := h.ne5
 have n2 := h.ne6
 have n3 := h.n56
 obtain ⟨x1, x2, x3⟩ := kD o6 v'
 have hglt := h.row.lt
 refine ⟨(h.below.trans hb).setCell (by show B ≤ b6; omega) _, (x3 _ (by omega)).trans o0, (x3 _ n3).trans o5, (x3 _ (Ne.symm n2)).trans og, ⟨v', x1, hv'.same fun j e => x3 j (fun e2 => qW hv' o6 (by decide) (by rw [e, e2])), fun z e => ?_⟩, h.l5, h.l6, h.lg, n3⟩
 rcases hg' with h1 | ⟨z', h1, h2⟩
 · exact hvn z (by rw [← h1]; exact e)
 · rw [h1] at e
   cases e
   exact ⟨by omega, fun h4 => by have := hNo _ h4; omega⟩
end
theorem clone_own (A : Option Addr) (cap : Nat) (xs : List Int) (w : World) (hA : IAt w w.heap.size A xs) (hl : xs.length ≤ 1000000) :
  Calls Tryz.prog 129 #[.slice A xs.length cap] w fun e w' => ∃ v, e = .returned v ∧ Own w' w.heap.size v xs ∧ Below w.heap.size w w' :=
 (ZW A xs.length cap (xs.map (Value.int .i64)) w (by simp) (Xz hA) (XA xs) hl).mono fun e w' ⟨v, h1, h2, h3⟩ => ⟨v, h1, h2, h3⟩
set_option maxRecDepth 100000 in
theorem gV (n : Nat) (h1 : 1 ≤ n) (hn : n ≤ 100000) (Ap : Option Addr) (kp bC bM : Nat) (ps : List Nat) (hpl : ps.length ≤ 100) (cls : Nat → List Int) (L : List Nat) (hL : ∀ x ∈ L, x < n) (hLl : L.length ≤ 100000) (AL : Option Addr) (cl : Nat) (w : World)
  (hS : StAt w w.heap.size Ap bC bM n ps cls) (hI : IAt w w.heap.size AL (zM L)) :
  Calls Tryz.prog 72 #[.agg (stC n Ap ps.length kp bC bM), .slice AL L.length cl] w fun e w' => ∃ (out : List Int) (g : Nat), e = .returned (.slice (some ⟨g, 0, none⟩) n n) ∧ w.heap.size ≤ g ∧ RowAt w' g out ∧ out.length = n ∧ Far n (yw ps cls) (fun i => i ∈ L) (fun i => out.getD i 0) ∧ Below w.heap.size w w' := by
 have HS := zH hS
 have HI := zH hI
 have HL := zH hL
 have HNB := zH (fun (i : Nat) (hi : i < n) (bx bp : Nat) (X : World) (hx : X.heap[bx]? = some (.cells (stC n Ap ps.length kp bC bM) 126 (0, 0))) (hp : X.heap[bp]? = some (.cells #[.int .i64 (i : Int)] 3 (0, 0))) (hSX : StAt X w.heap.size Ap bC bM n ps cls) (hB : w.heap.size ≤ X.heap.size) => ZH n i hn hi Ap kp bC bM ps hpl cls w.heap.size bx bp X hx hp hSX hB)
 have HNA := zH (fun (i : Int) (X : World) => Xm n Ap ps.length kp bC bM i X)
 unfold stC at HNB HNA ⊢
 clear hS hI hL
 refine yq Tryz.func72 rfl ?_
 simp only [Tryz.ntmps72, List.size_toArray, List.length_cons, List.length_nil, Nat.reduceAdd, Nat.reduceSub, Array.replicate_succ, Array.replicate_zero, List.push_toArray, List.append_toArray, List.nil_append, List.cons_append]
 go_wp2_with fail
 obtain ⟨w2, hw2, d0, d1, hs2, hB⟩ := yj w #[.int .i64 (n : Int), .slice Ap ps.length kp, .map (some bC), .map (some bM)] #[.int .i64 (-1)] 126 3
 rw [hw2]
 refine (ja n (w.heap.size + 1) h1 hn (-1) w2 d1).mono ?_
 rintro e w3 ⟨g, rfl, hgg, hrow, hB3⟩
 go_wp2_with fail
 have hB4 := zI w3 (.cells #[.slice (some ⟨g, 0, none⟩) n n] 38)
 obtain ⟨w4, hw4, e4, hs4, _⟩ := zi w3 #[.slice (some ⟨g, 0, none⟩) n n] 38
 rw [hw4] at hB4 ⊢
 have hb4 : Below w.heap.size w w4 := (hB.trans (hB3.mono (by omega))).trans (hB4.mono (by have := hB3.size; omega))
 have hcl := clone_own AL cl (zM L) w4 ((HI.out.keep hb4).more hb4.size) (by rw [zw]; omega)
 rw [zw] at hcl
 refine hcl.mono ?_
 rintro e w5 ⟨v, rfl, ho5, hB5⟩
 have hFL : FlIn w.heap.size w3.heap.size w5.heap.size g (fun _ => False) #[.int .i64 (n : Int), .slice Ap ps.length kp, .map (some bC), .map (some bM)] (xA n []) L w (w5.alloc (.cells #[v] 38)) := by
  have hs3 := hB3.size
  have hs5 := hB5.size
  have hgl := hrow.lt
  have k0 : w5.heap[w.heap.size]? = _ := (hB5.block _ (by omega)).trans ((hB4.block _ (by omega)).trans ((hB3.block _ (by omega)).trans d0))
  have kg : w5.heap[g]? = _ := (hB5.block _ (by omega)).trans ((hB4.block _ (by omega)).trans hrow)
  have k5 := (hB5.block _ (by omega)).trans e4
  refine ⟨(hb4.trans (hB5.mono (by omega))).trans ((zI w5 _).mono (by omega)), ye k0 _, ?_, ?_, ⟨v, zh w5 _, (Tail.of_own ((ho5.low (by omega)).alloc _)), fun z e => ⟨?_, fun h => h⟩⟩, by omega, by omega, by omega, by omega⟩
  · rw [qu]; exact ye k5 _
  · rw [initL_nil]; exact ye kg _
  · have := (ho5.lt _ e).1; omega
 obtain ⟨A5, c5, rfl, _, _, _⟩ := ho5.form
 rw [zw]
 obtain ⟨b6, hb6⟩ : ∃ b6, w5.heap.size = b6 := ⟨_, rfl⟩
 obtain ⟨b5, hb5⟩ : ∃ b5, w3.heap.size = b5 := ⟨_, rfl⟩
 rw [hb6, hb5] at hFL
 have HFL := zH hFL
 clear hFL hw4 hB4 e4 hs4 hb4 hcl ho5 hB5 hw2 d0 d1 hB hB3 hrow
 go_wp2_with fail
 obtain ⟨w6, hw6⟩ : ∃ w6, w5.alloc (.cells #[.slice A5 (zM L).length c5] 38) = w6 := ⟨_, rfl⟩
 rw [zw] at hw6
 rw [zw, hw6] at HFL
 rw [hw6]
 clear hw6 hb6 hb5 hs2 hgg
 go_loopw [19] (fun j wr => ∃ k : Nat, k ≤ L.length ∧ j = .int .i64 (k : Int) ∧ Hid (FlIn w.heap.size b5 b6 g (fun _ => False) #[.int .i64 (n : Int), .slice Ap ps.length kp, .map (some bC), .map (some bM)] (xA n (L.take k)) L w wr)) (fun j _ => L.length - (intOf j).toNat)
 case atStart => exact ⟨0, by omega, rfl, by rw [List.take_zero]; exact HFL.out⟩
 case round =>
  obtain ⟨k, hk, rfl, hF⟩ := hrel
  clear HFL
  by_cases hlt : k < L.length
  · obtain ⟨b, o, eA, hbl, z⟩ := (HI.out.keep hF.out.below).at_ k (by rw [zw]; exact hlt)
    rw [wk] at z
    subst eA
    obtain ⟨x, hx⟩ : ∃ x, L[k] = x := ⟨_, rfl⟩
    have hxn : x < n := by rw [← hx]; exact HL.out _ (List.getElem_mem hlt)
    rw [hx] at z
    have hset := hF.out.set x 0
    rw [initL_set n _ x hxn, ← hx, ← List.take_succ_eq_append_getElem hlt] at hset
    rw [hx] at hset
    have c5' := za hF.out.h5 0 rfl
    rw [qu] at c5'
    have rr := hF.out.row.cell x (by rw [qu]; exact hxn)
    have fr := hF.out.row.froz x
    have HSET := zH hset
    have hk0 : (0 : Int) ≤ (k : Int) := by omega
    have hk1 : (k : Int) < (L.length : Int) := by omega
    have hx0 : (0 : Int) ≤ (x : Int) := by omega
    have hx1 : (x : Int) < (n : Int) := by omega
    clear hset hx
    go_wp2_with fail
    go_roundw
    case rel => exact ⟨k + 1, by omega, by go_num, HSET.out⟩
    case measure => simp [intOf]; omega
  · obtain rfl : k = L.length := by omega
    rw [List.take_length] at hF
    have hbfs : Bfs n (yw ps cls) (fun i => i ∈ L) (xA n L) L := Bfs.start L (xA n L) (qu n L) (fun i hi => initL_at n L i hi) HL.out (fun i _ => Iff.rfl)
    go_wp2_with fail
    have HBF := zH hbfs
    have hm00 : ((xA n L).filter (fun y => decide (y < 0))).length + L.length ≤ 200000 := by
     have := List.length_filter_le (fun y => decide (y < 0)) (xA n L)
     rw [qu] at this
     omega
    refine wp_loop_ghost (fun (m : Nat) (a' : Act) (w' : World) => ∃ (ds : List Deferred) (out : List Int) (q : List Nat) (u8 u9 u21 u22 u23 u24 u25 u26 u27 u28 u29 u30 u31 u32 u33 u34 u35 u36 u37 : Value), (m = (out.filter (fun y => decide (y < 0))).length + q.length ∧ m ≤ 200000 ∧ Hid (FlIn w.heap.size b5 b6 g (fun _ => False) #[.int .i64 (n : Int), .slice Ap ps.length kp, .map (some bC), .map (some bM)] out q w w') ∧ Hid (Bfs n (yw ps cls) (fun i => i ∈ L) out q) ∧ Hid (Marks w.heap.size ds w')) ∧ a' = { tmps := #[.agg #[.int .i64 (n : Int), .slice Ap ps.length kp, .map (some bC), .map (some bM)], .slice AL L.length cl, .pointer (some ⟨w.heap.size, 0, none⟩), undef, .slice none 0 0, .pointer (some ⟨b5, 0, none⟩), .pointer (some ⟨b6, 0, none⟩), undef, u8, u9, undef, .slice (some ⟨w.heap.size + 1, 0, none⟩) 1 1, .pointer (some ⟨w.heap.size, 0, none⟩), .int .i64 (n : Int), .slice (some ⟨g, 0, none⟩) n n, .slice AL L.length cl, .slice A5 L.length c5, .slice AL L.length cl, .int .i64 (L.length : Int), .int .i64 (L.length : Int), .bool false, u21, u22, u23, u24, u25, u26, u27, u28, u29, u30, u31, u32, u33, u34, u35, u36, u37, undef, undef, undef, undef, undef, undef, undef, undef, undef, undef, undef, undef, undef, undef, undef, undef, undef, undef, undef, undef, undef, undef], defers := ds }) (((xA n L).filter (fun y => decide (y < 0))).length + L.length) ?_ ?_
    · exact ⟨[], xA n L, L, _, _, _, _, _, _, _, _, _, _, _, _, _, _, _, _, _, _, _, ⟨rfl, hm00, hF, HBF, Marks.nil _ _⟩, rfl⟩
    clear hF HBF hbfs hk hlt
    rintro m a' W ⟨ds, out, q, u8, u9, u21, u22, u23, u24, u25, u26, u27, u28, u29, u30, u31, u32, u33, u34, u35, u36, u37, ⟨hm, hm20, HF, HBF, MK⟩, rfl⟩
    obtain ⟨v, hv6, hvT, hvn⟩ := HF.out.h6
    obtain ⟨Aq, cq, rfl, hq1, hq2, hqI⟩ := hvT.form
    rw [zw] at hv6
    have c6 := za hv6 0 rfl
    have c5' := za HF.out.h5 0 rfl
    have hol := HBF.out.len
    rw [hol] at c5'
    cases q with
    | nil =>
     have HFAR := zH HBF.out.far
     clear HNB HNA HS HI HL hv6 hvT hvn hq1 hq2 hqI
     go_wp2_with fail
     refine yS MK.out (v := .slice (some ⟨g, 0, none⟩) n n) (fun W => by kernel_rfl) ?_
     intro X hX
     refine ⟨out, g, rfl, Nat.le_of_lt HF.out.lg, ?_, hol, HFAR.out, HF.out.below.trans hX.below⟩
     exact hX.same _ _ HF.out.row rfl
    | cons h q' =>
     have hpop := HBF.out.pop
     have hhn := hpop.hlt
     obtain ⟨bq, oq, eAq, hbq, zq⟩ := hqI.at_ 0 (by rw [zw]; simp)
     rw [wk] at zq
     have zq : W.cell? ⟨bq, oq, none⟩ = some (.int .i64 (h : Int)) := by simpa using zq
     have hvT2 : Tail W w.heap.size (.slice Aq ((zM q').length + 1) cq) ((h : Int) :: zM q') := hvT
     obtain ⟨A2, hrun, hT2, hob⟩ := hvT2.cut
     rw [zw] at hT2 hob hrun
     subst eAq
     have hv6' : W.heap[b6]? = some (.cells #[.slice (some ⟨bq, oq, none⟩) (q'.length + 1) cq] 38 (0, 0)) := hv6
     have c6' : W.cell? ⟨b6, 0, none⟩ = some (.slice (some ⟨bq, oq, none⟩) (q'.length + 1) cq) := c6
     have hq1' : q'.length + 1 ≤ cq := by simpa [zw] using hq1
     have hgW := HF.out.row.lt
     have HPOP := zH hpop
     have HVT : Hid (Tail W w.heap.size (.slice (some ⟨bq, oq, none⟩) (q'.length + 1) cq) (zM (h :: q'))) := by
      have := hvT
      rw [zw] at this
      exact this
     have HVN : Hid (∀ z, (Value.slice (some ⟨bq, oq, none⟩) (q'.length + 1) cq).ownBlock = some z → z ≠ g ∧ ¬ False) := by
      have := hvn
      rw [zw] at this
      exact this
     have HT2 := zH hT2
     have HOB := zH hob
     have HV6 := zH hv6'
     have HM2 : Hid (q'.length ≤ 200000) := by
      show q'.length ≤ 200000
      rw [List.length_cons] at hm
      omega
     have HM : Hid (m = (out.filter (fun y => decide (y < 0))).length + (q'.length + 1)) := hm
     clear hpop c6 hv6 hqI hq1 hvT hvT2 hT2 hvn hob hv6' hm
     go_upto_region 10 with fail
     obtain ⟨W1, hW1, d9, hz1, hB1⟩ := zi W #[.int .i64 (h : Int)] 3
     rw [hW1]
     obtain ⟨b9, hb9⟩ : ∃ b9, W.heap.size = b9 := ⟨_, rfl⟩
     have g6 := (hB1.block _ (zd HV6.out)).trans HV6.out
     have hF1 := HF.out.on hB1
     have hl6 := zd HV6.out
     have hl69 : b6 < b9 := by omega
     have c61 := za g6 0 rfl
     have f61 := zb g6 0
     rw [hb9] at d9 hz1 ⊢
     have HD9 := zH d9
     have HB1 := zH hB1
     have HG6 := zH g6
     clear hW1 d9 c6' hB1 zq g6 hF1
     go_upto_region 11 with fail
     obtain ⟨W2, hW2⟩ : ∃ W2, W1.setCell ⟨b6, 0, none⟩ (.slice A2 q'.length (cq - 1)) = W2 := ⟨_, rfl⟩
     rw [hW2]
     have hne69 : b9 ≠ b6 := by omega
     have hF2 : FlIn w.heap.size b5 b6 g (fun z => z = b9) #[.int .i64 (n : Int), .slice Ap ps.length kp, .map (some bC), .map (some bM)] out q' w W2 := by
      rw [← hW2]
      have hFr := (HF.out.reno (No' := fun z => z = b9) (fun z hz => .inr (by omega)))
      have hFo := hFr.on HB1.out
      exact hFo.wait HG6.out (Below.refl _ _) (fun _ _ _ => rfl) (HVT.out.same fun j e => HB1.out.block j ((HVT.out.lt j e).2)) (fun z e => ⟨(HVN.out z e).1, fun e2 => by have := (HVT.out.lt z e).2; omega⟩) (HT2.out.same fun j e => HB1.out.block j (HT2.out.lt j e).2) (.inl HOB.out) (fun z hz => by omega)
     have hd9 : W2.heap[b9]? = some (.cells #[.int .i64 (h : Int)] 3 (0, 0)) := by rw [← hW2]; exact (Below.heap_setCell W1 ⟨b6, 0, none⟩ _ b9 hne69).trans HD9.out
     have hs2 : W2.heap.size = b9 + 1 := by rw [← hW2]; simp [World.setCell]; exact hz1
     have MK2 : Hid (Marks w.heap.size ds W2) := xq (w := W) MK.out fun y hy => by
      rw [← hW2]
      refine (Below.heap_setCell W1 ⟨b6, 0, none⟩ _ y (fun e => ?_)).trans ((HB1.out.block y (by rw [hb9]; have := (Array.getElem?_eq_some_iff.1 hy).1; omega)).trans hy)
      have e' : y = b6 := e
      rw [e', HV6.out] at hy; cases hy
     have HF2 := zH hF2
     have HD92 := zH hd9
     have p0 := za hF2.b0 0 rfl
     have p1 := za hF2.b0 1 rfl
     have p2 := za hF2.b0 2 rfl
     have p3 := za hF2.b0 3 rfl
     have z9 := za hd9 0 rfl
     clear hF2 hd9 hW2 HD9 HB1 HG6 c61 f61 HF HVT HVN HT2 HOB HV6 MK hrun
     go_wp2_with fail
     refine (HNA.out (h : Int) W2).mono ?_
     rintro e W3 ⟨rfl, hW3⟩
     obtain ⟨V3, hV3, y0, y1, hs3, hB3⟩ := yj W2 #[.int .i64 (n : Int), .slice Ap ps.length kp, .map (some bC), .map (some bM)] #[.int .i64 (h : Int)] 126 3
     rw [hW3] at hV3
     subst hV3
     have hs3' : W3.heap.size = W2.heap.size + 2 := by rw [← hW3]; simp
     rw [hs2] at y0 y1 hs3' ⊢
     have HF3 := zH ((HF2.out.reno (No' := fun z => b9 ≤ z ∧ z ≤ b9 + 1 + 1) (fun z hz => if e : z = b9 then .inl e else .inr (by omega))).on hB3)
     have HD93 := zH ((hB3.block _ (by omega : b9 < W2.heap.size)).trans HD92.out)
     have MK3 : Hid (Marks w.heap.size ds W3) := xq (w := W2) MK2.out fun y hy => (hB3.block y (Array.getElem?_eq_some_iff.1 hy).1).trans hy
     have hBW : w.heap.size < b9 := by have := zd HF2.out.b0; have := HF2.out.l6; omega
     have hgl9 : g < b9 := by rw [← hb9]; exact hgW
     have HIT := zH (HNB.out h hhn (b9 + 1) (b9 + 1 + 1) W3 y0 y1 (HS.out.keep HF3.out.below) HF3.out.below.size)
     clear hW3 y0 y1 hs3 hB3 HD92 MK2 HF2 p0 p1 p2 p3 z9 HNB HNA HI
     go_wp2_with fail
     refine qT rfl (enters_of Tryz.func131 (by kernel_rfl) rfl) HIT.out (by rintro x (h | rfl | rfl) <;> omega) (fun _ => rfl)
      (fun (pre : List { x : Nat × Nat // x ∈ ya ps cls h }) (X : World) => ∃ (out2 : List Int) (q2 : List Nat), FlIn w.heap.size b5 b6 g (fun z => b9 ≤ z ∧ z ≤ b9 + 1 + 1) #[.int .i64 (n : Int), .slice Ap ps.length kp, .map (some bC), .map (some bM)] out2 q2 w X ∧ BfsH n (yw ps cls) (fun i => i ∈ L) h (pre.map fun x => x.1.1) out2 q2 ∧ (out2.filter (fun y => decide (y < 0))).length + q2.length = (out.filter (fun y => decide (y < 0))).length + q'.length ∧ X.heap[b9]? = some (.cells #[.int .i64 (h : Int)] 3 (0, 0)) ∧ W3.heap.size ≤ X.heap.size ∧ (∀ y : Nat, W3.heap[y]? = some (Obj.deferred (some [])) → X.heap[y]? = some (Obj.deferred (some []))))
      (fun _ _ _ => False)
      ?hI (fun _ _ _ _ _ h _ _ => h)
      ⟨out, q', HF3.out, HPOP.out, rfl, HD93.out, Nat.le_refl _, fun _ h => h⟩ (fun x => #[.int .i64 x.1, .int .i64 x.2]) 75 ?a1 ?assign ?body ?done ?stop (fun _ _ h => by obtain ⟨_, _, _, _, _, _, h5, _⟩ := h; exact h5)
     case hI =>
      rintro pre X X' row ⟨out2, q2, k1, k2, k3, k4, k5, k6⟩ hg hr
      refine ⟨out2, q2, k1.turn hg (fun r e => ⟨by have := (hr r e).1; omega, (hr r e).2⟩), k2, k3, (grownBy_keeps_cells hg (fun r e => (hr r e).2) k4 rfl).trans k4, Nat.le_trans k5 hg.size, fun y hy => ?_⟩
      have hy2 := k6 y hy
      have hyl := (Array.getElem?_eq_some_iff.1 hy).1
      exact (hg.block y (by omega) (fun e => by have := (hr y e.symm).1; omega)).trans hy2
     case assign =>
      intro l pre x X K' hI hK
      obtain ⟨g', hg'⟩ : ∃ g', g' = X.heap.size := ⟨_, rfl⟩
      obtain ⟨out2, q2, k1, k2, k3, k4, k5, k6⟩ := hI
      have HK := zH (hK g' hg' ⟨out2, q2, k1.on (zI X _), k2, k3, ye k4 _, by simp; omega, fun y hy => (Below.heap_alloc X _ y (Array.getElem?_eq_some_iff.1 (k6 y hy)).1).trans (k6 y hy)⟩)
      have HG := zH hg'
      clear hK hg' k1 k2 k3 k4 k5 k6
      gi_wp2
      rw [← HG.out]
      exact HK.out
     case body =>
      rintro l pre x g9 W4 hg9 hgb ⟨out2, q2, k1, k2, k3, k4, k5, k6⟩ hlt
      obtain ⟨hm1, hm2, hm3⟩ := (jh HS.out.len).1 x.2
      obtain ⟨t, ht⟩ : ∃ t, x.1.1 = t := ⟨_, rfl⟩
      obtain ⟨p, hp⟩ : ∃ p, x.1.2 = p := ⟨_, rfl⟩
      rw [ht] at hm1 hm3 hgb
      rw [hp] at hm2 hm3 hgb
      have hadj : yw ps cls t h := ⟨p, hm2, hm3⟩
      have hpre : (pre ++ [x]).map (fun x => x.1.1) = pre.map (fun x => x.1.1) ++ [t] := by rw [List.map_append, List.map_cons, List.map_nil, ht]
      have c5 := za k1.h5 0 rfl
      rw [k2.len] at c5
      have htl : t < out2.length := by rw [k2.len]; exact hm1
      have hhl : h < out2.length := by rw [k2.len]; exact hhn
      have rt := k1.row.cell t htl
      rw [← zF htl 0] at rt
      obtain ⟨ot, hot⟩ : ∃ ot, out2.getD t 0 = ot := ⟨_, rfl⟩
      rw [hot] at rt
      have g0 := za hgb 0 rfl
      have ht0 : (0 : Int) ≤ (t : Int) := by omega
      have ht1 : (t : Int) < (n : Int) := by omega
      have K1 := zH k1
      have K2 := zH k2
      have K3 := zH k3
      have K4 := zH k4
      have K6 := zH k6
      have HPR := zH hpre
      have HAD := zH hadj
      by_cases hneg : ot < 0
      case neg =>
       clear k1 k2 k3 k4 k6 hpre hadj HIT HF3 HD93 MK3 HPOP HM hm2 hm3
       gi_wp2_with fail
       refine ⟨⟨Nat.le_refl _, fun _ _ _ h _ => h⟩, KeepB.refl _ _, out2, q2, K1.out, ?_, K3.out, K4.out, by omega, K6.out⟩
       rw [HPR.out]
       exact K2.out.skip (by rw [hot]; omega)
      case pos =>
       have rh := k1.row.cell h hhl
       rw [← zF hhl 0] at rh
       have hoh0 := k2.hge
       have hoh1 := Yx (f := fun i => out2.getD i 0) k2.step hhn
       obtain ⟨oh, hoh⟩ : ∃ oh, out2.getD h 0 = oh := ⟨_, rfl⟩
       change out2.getD h 0 < (n : Int) at hoh1
       rw [hoh] at rh hoh0 hoh1
       have hwr : IntKind.i64.wrap (oh + 1) = oh + 1 := by rw [IntKind.wrap_i64]; omega
       have ft := k1.row.froz t
       have z9 := za k4 0 rfl
       have hh0 : (0 : Int) ≤ (h : Int) := by omega
       have hh1 : (h : Int) < (n : Int) := by omega
       have hlg := k1.row.lt
       clear k1 k2 k3 k4 k6 hpre hadj HIT HF3 HD93 MK3 HPOP HM hm2 hm3
       gi_wp2_with fail
       refine qy 9 (by kernel_rfl) (by kernel_rfl) (by kernel_rfl) (by rintro ⟨_, _, h⟩; exact h) ?_
       simp only [List.take_succ_cons, List.take_zero, List.drop_succ_cons, List.drop_zero]
       repeat still_step
       try refine wpStill_nil ?_
       change wpList _ _ _ _ _ W4.drew
       go_wp2_with fail
       have HF5 := zH ((K1.out.set t (oh + 1)).on (W' := (W4.setCell ⟨g, t, none⟩ (.int .i64 (oh + 1))).drew) (Below.refl _ _).drew)
       have hW5o : Hid (∀ k, k ≠ g → (W4.setCell ⟨g, t, none⟩ (.int .i64 (oh + 1))).drew.heap[k]? = W4.heap[k]?) := fun k hk => Below.heap_setCell W4 ⟨g, t, none⟩ _ k hk
       have hW5s : (W4.setCell ⟨g, t, none⟩ (.int .i64 (oh + 1))).drew.heap.size = W4.heap.size := by simp [World.setCell]
       obtain ⟨W5, hW5⟩ : ∃ W5, (W4.setCell ⟨g, t, none⟩ (.int .i64 (oh + 1))).drew = W5 := ⟨_, rfl⟩
       rw [hW5] at HF5 hW5o hW5s ⊢
       have hgb5 := (hW5o.out g9 (by omega)).trans hgb
       have K45 := (hW5o.out b9 (by omega)).trans K4.out
       have HK45 := zH K45
       obtain ⟨v5, hv5, hvT5, hvn5⟩ := HF5.out.h6
       obtain ⟨A5', c5'', rfl, hq51, hq52, _⟩ := hvT5.form
       rw [zw] at hv5 hvT5 hvn5
       have c6 := za hv5 0 rfl
       have g05 := za hgb5 0 rfl
       have hneg2 := neg_set (out := out2) (t := t) (x := oh + 1) htl (by rw [hot]; exact hneg) (by omega)
       have hql : q2.length ≤ 400000 := by
        have e1 := K3.out
        have e2 : (out.filter (fun y => decide (y < 0))).length ≤ n := by rw [← hol]; exact List.length_filter_le _ _
        have e3 := HM2.out
        omega
       have HV5 := zH hv5
       have HVT5 := zH hvT5
       have HVN5 := zH hvn5
       have HN2 := zH hneg2
       clear hW5 rt rh ft z9 g0 c5 hgb hgb5 K45 hvT5 hvn5 hv5 hneg2
       gi_wp2_with (gi_at_builtin; go_must (refine Zk _ rfl _ _ rfl w.heap.size (.slice A5' q2.length c5'') (zM q2) (t : Int) (by simp [go_sem]) (HVT5.out.same fun j e => Below.heap_alloc W5 _ j (HVT5.out.lt j e).2) ⟨W5.heap.size, 0, none⟩ (by simp [go_sem]) (za (zh W5 _) 0 rfl) (by rw [zw]; omega) (by have := HF5.out.below.size; simp; omega) ?_); intro v' W7 hown7 hg7 hat7
                    have hb7 : Below w.heap.size W5 W7 := (zI W5 (.cells #[.int .i64 (t : Int)] 3)).mono HF5.out.below.size |>.grown hg7 (by have := HF5.out.below.size; simp; omega) (fun k hk => (HVT5.out.lt k hk).1)
                    have hs7 : ∀ j, j < W5.heap.size → (Value.slice A5' q2.length c5'').ownBlock ≠ some j → W7.heap[j]? = W5.heap[j]? := fun j hj hne => (hg7.block j (by simp; omega) (fun e => hne e.symm)).trans (Below.heap_alloc W5 _ j hj)
                    have h67 := (hs7 b6 (zd HV5.out) (qW HVT5.out HV5.out (by decide))).trans HV5.out
                    have q6 := za h67 0 rfl
                    have f6 := zb h67 0
                    have l6 := zd h67
                    obtain ⟨A7, k7, rfl, h71, h72, _⟩ := hown7.form
                    have HT7 := zH hown7
                    have HB7 := zH hb7
                    have HS7 := zH hs7
                    have HAT := zH hat7
                    clear h67 hown7 hg7 hat7 hb7 hs7)
       have hv' : Tail W7 w.heap.size (.slice A7 ((zM q2).length + 1) k7) (zM (q2 ++ [t])) := by
        have := HT7.out
        rw [List.length_append, List.length_singleton] at this
        rw [XB]
        exact this
       have hsB := HF5.out.below.size
       have hgt : (Value.slice A7 ((zM q2).length + 1) k7).ownBlock = (Value.slice A5' q2.length c5'').ownBlock ∨ ∃ z, (Value.slice A7 ((zM q2).length + 1) k7).ownBlock = some z ∧ W5.heap.size ≤ z := by
        have := HAT.out
        rw [List.length_append, List.length_singleton] at this
        exact this.imp id fun e => ⟨_, e, by simp⟩
       have hwait := HF5.out.wait (q' := q2 ++ [t]) HV5.out HB7.out HS7.out HVT5.out HVN5.out hv' hgt (fun z hz => by omega)
       have l65 := zd HV5.out
       have ch : ∀ k, k < W4.heap.size → k ≠ g → k ≠ b6 → (Value.slice A5' q2.length c5'').ownBlock ≠ some k → (W7.setCell ⟨b6, 0, none⟩ (.slice A7 ((zM q2).length + 1) k7)).heap[k]? = W4.heap[k]? := fun k hk h1 h2 h3 =>
        (Below.heap_setCell W7 ⟨b6, 0, none⟩ _ k h2).trans ((HS7.out k (by omega) h3).trans (hW5o.out k h1))
       have hszf : (W7.setCell ⟨b6, 0, none⟩ (.slice A7 ((zM q2).length + 1) k7)).heap.size = W7.heap.size := by simp [World.setCell]
       have hs57 := HB7.out.size
       have hn6 := K1.out.ne6
       obtain ⟨v4, hv4, _, _⟩ := K1.out.h6
       have nocell : ∀ (k : Nat) (o : Obj), W4.heap[k]? = some o → o.isCells = false → (W7.setCell ⟨b6, 0, none⟩ (.slice A7 ((zM q2).length + 1) k7)).heap[k]? = some o := fun k o hk ho => by
        have e1 : k ≠ g := by rintro rfl; have := K1.out.row; unfold RowAt at this; rw [this] at hk; cases hk; cases ho
        have e2 : k ≠ b6 := by rintro rfl; rw [hv4] at hk; cases hk; cases ho
        refine (ch k (zd hk) e1 e2 fun e => ?_).trans hk
        obtain ⟨cur, hc⟩ := HVT5.out.cells k e
        rw [(hW5o.out k e1).trans hk] at hc
        cases hc; cases ho
       refine ⟨⟨by omega, fun k o _ hk ho => nocell k o hk ho⟩, ⟨by omega, fun k hk hl => by
        have hk' : k < w.heap.size ∨ k = b9 + 1 ∨ k = b9 + 1 + 1 := hk
        have y1 := HF5.out.lg
        have y2 := HF5.out.l6
        exact ch k hl (by omega) (by omega) (fun e => by have h1 := (HVT5.out.lt k e).1; have h2 := (HVN5.out k e).2; omega)⟩, out2.set t (oh + 1), q2 ++ [t], hwait, ?_, ?_, ?_, by omega, fun y hy => nocell y _ (K6.out y hy) rfl⟩
       · rw [HPR.out, ← hoh]
         exact K2.out.see hm1 HAD.out (by rw [hot]; exact hneg)
       · have h1 := HN2.out
         have h2 := K3.out
         rw [List.length_append, List.length_singleton]
         omega
       · refine (ch b9 (by omega) (by omega) (by omega) (fun e => ?_)).trans K4.out
         have h2 := (HVN5.out b9 e).2
         omega
     case done =>
      rintro D ys W4 hD hys ⟨out2, q2, k1, k2, k3, k4, k5, k6⟩ hDk
      have hmap : ys.map (fun x => x.1.1) = (ya ps cls h).map (·.1) := by rw [show ys.map (fun x => x.1.1) = (ys.map (·.1)).map (·.1) by rw [List.map_map]; rfl, hys]
      have hbf := k2.close (fun i hi ha => by rw [hmap]; exact (nbr_adj HS.out.len hi).2 ha)
      have HF4 := zH (k1.reno (No' := fun _ => False) (fun z hz => hz.elim))
      have HBF4 := zH hbf
      have MK4 : Hid (Marks w.heap.size ({ target := .collected D, args := #[] } :: ds) W4) := Marks.cons MK3.out (fun y hy => k6 y hy) HF3.out.below.size hD hDk
      clear hmap hbf k1 k2 k4 k6 hys hDk HIT HF3 HD93 MK3 HPOP
      try dsimp only
      go_wp2_with fail
      refine ⟨_, ?_, _, out2, q2, _, _, _, _, _, _, _, _, _, _, _, _, _, _, _, _, _, _, _, ⟨rfl, by have := HM.out; omega, HF4.out, HBF4.out, MK4.out⟩, rfl⟩
      rw [HM.out, k3]
      omega
     case stop =>
      intro D c pre W _ _ h
      exact h.elim
end
section
open Go.RowKit Go.Shelf
attribute [local go_sem] Oper.semAt_some
def ki (a b : List Int) (k : Nat) : List Int := a.take k ++ b.drop k
theorem uc (a b : List Int) : ki a b 0 = b := by simp [ki]
theorem gF {a b : List Int} (h : a.length = b.length) {k : Nat} (hk : k = b.length) : ki a b k = a := by subst hk; simp [ki, ← h]
theorem jg {a b : List Int} (h : a.length = b.length) (k : Nat) : (ki a b k).length = b.length := by simp [ki]; omega
theorem Yr {a b : List Int} (h : a.length = b.length) {k : Nat} (hk : k < b.length) : (ki a b k)[k]'(by rw [jg h]; exact hk) = b[k] := by
 unfold ki
 rw [List.getElem_append_right (by simp; omega)]
 simp [show min k a.length = k by omega]
theorem Xr {a b : List Int} (h : a.length = b.length) {k : Nat} (hk : k ≤ b.length) (i : Nat) : (ki a b k)[i]? = if i < k then a[i]? else b[i]? := by
 unfold ki
 by_cases e : i < k
 · rw [if_pos e, List.getElem?_append_left (by simp; omega), List.getElem?_take, if_pos e]
 · rw [if_neg e, List.getElem?_append_right (by simp; omega), List.getElem?_drop]
   congr 1
   simp
   omega
theorem vC {a b : List Int} (h : a.length = b.length) {k : Nat} (hk : k < b.length) : (ki a b k).set k (a[k]'(by omega)) = ki a b (k + 1) := by
 refine List.ext_getElem? fun i => ?_
 rw [List.getElem?_set, Xr h (by omega), Xr h (by omega), jg h]
 by_cases e : k = i
 · subst e
   rw [if_pos rfl, if_pos hk, if_pos (by omega), List.getElem?_eq_getElem]
 · rw [if_neg e]
   by_cases e2 : i < k
   · rw [if_pos e2, if_pos (by omega)]
   · rw [if_neg e2, if_neg (by omega)]
theorem ud {a b : List Int} (h : a.length = b.length) {k : Nat} (hk : k < b.length) (e : a[k]'(by omega) = b[k]) : ki a b k = ki a b (k + 1) := by
 rw [← vC h hk, e, ← Yr h hk]
 exact (List.set_getElem_self _).symm
structure CmIn (B g : Nat) (C : Array Value) (out : List Int) (w W : World) : Prop where
 below : Below B w W
 b0 : W.heap[B]? = some (.cells C 126 (0, 0))
 row : RowAt W g out
 lg : B < g
theorem CmIn.on {B g : Nat} {C : Array Value} {out : List Int} {w W W' : World} (h : CmIn B g C out w W) (hb : Below W.heap.size W W') : CmIn B g C out w W' :=
 ⟨h.below.trans (hb.mono (by have := zd h.b0; omega)), (hb.block _ (zd h.b0)).trans h.b0, (hb.block _ h.row.lt).trans h.row, h.lg⟩
theorem CmIn.set {B g : Nat} {C : Array Value} {out : List Int} {w W : World} (h : CmIn B g C out w W) (k : Nat) (u : Int) : CmIn B g C (out.set k u) w (W.setCell ⟨g, k, none⟩ (.int .i64 u)) := by
 have hlg := h.lg
 exact ⟨h.below.setCell (by show B ≤ g; omega) _, (Below.heap_setCell W ⟨g, k, none⟩ _ B (by show B ≠ g; omega)).trans h.b0, h.row.set k u, hlg⟩
set_option maxRecDepth 100000 in
theorem comps_any (n : Nat) (h1 : 1 ≤ n) (hn : n ≤ 100000) (Ap : Option Addr) (kp bC bM : Nat) (ps : List Nat) (hpl : ps.length ≤ 100) (cls : Nat → List Int) (w : World) (hS : StAt w w.heap.size Ap bC bM n ps cls) :
  Calls Tryz.prog 66 #[.agg (stC n Ap ps.length kp bC bM)] w fun e w' => ∃ g : Nat, e = .returned (.slice (some ⟨g, 0, none⟩) n n) ∧ w.heap.size ≤ g ∧ RowAt w' g (kQ n (yw ps cls)) ∧ Below w.heap.size w w' := by
 have hs := Z3 ps cls
 have HS := zH hS
 have HSK := zH (fun (i : Nat) (hi : i < n) (h : 0 ≤ (yu n (yw ps cls) i).getD i 0) => XS hs hi h)
 have HNW := zH (fun (i : Nat) (hi : i < n) (h : (yu n (yw ps cls) i).getD i 0 < 0) (d : List Int) (hd : d.length = n) (hf : Far n (yw ps cls) (fun k => k = i) (fun k => d.getD k 0)) => Q2 hs hi h hd hf)
 have HEND : Hid (yu n (yw ps cls) n = kQ n (yw ps cls)) := Q3
 have HZ : Hid (yu n (yw ps cls) 0 = List.replicate n (-1)) := XR
 have HZ2 : Hid (xW n (yw ps cls) 0 = 0) := Xk
 have HLE := zH (fun i => nextTo_le (n := n) (adj := yw ps cls) i)
 have HLN := zH (fun i => kL (n := n) (adj := yw ps cls) i)
 have HFI := zH (fun (i : Nat) (hi : i < n) (A : Option Addr) (X : World) (hX : StAt X X.heap.size Ap bC bM n ps cls) (hI : IAt X X.heap.size A (zM [i])) => gV n h1 hn Ap kp bC bM ps hpl cls [i] (by simpa using hi) (by simp) A 1 X hX hI)
 obtain ⟨CT, hCT⟩ : ∃ CT, yu n (yw ps cls) = CT := ⟨_, rfl⟩
 obtain ⟨NT, hNT⟩ : ∃ NT, xW n (yw ps cls) = NT := ⟨_, rfl⟩
 obtain ⟨R, hR⟩ : ∃ R, kQ n (yw ps cls) = R := ⟨_, rfl⟩
 rw [hCT] at HSK HNW HEND HZ HLN
 rw [hNT] at HSK HNW HZ2 HLE
 rw [hR] at HEND ⊢
 unfold stC at HFI ⊢
 clear hS hCT hNT hR hs
 go_enter Tryz.func66, Tryz.ntmps66
 go_wp2_with fail
 obtain ⟨w2, hw2, d0, d1, hs2, hB⟩ := yj w #[.int .i64 (n : Int), .slice Ap ps.length kp, .map (some bC), .map (some bM)] #[.int .i64 (-1)] 126 3
 rw [hw2]
 refine (ja n (w.heap.size + 1) h1 hn (-1) w2 d1).mono ?_
 rintro e w3 ⟨g, rfl, hgg, hrow, hB3⟩
 have hF : CmIn w.heap.size g #[.int .i64 (n : Int), .slice Ap ps.length kp, .map (some bC), .map (some bM)] (CT 0) w w3 :=
  ⟨hB.trans (hB3.mono (by omega)), (hB3.block _ (by omega)).trans d0, by rw [HZ.out]; exact hrow, by omega⟩
 have HF := zH hF
 clear hF hw2 d0 d1 hB hrow hB3 hs2 hgg
 go_wp2_with fail
 go_loopw [4, 14] (fun nx i wr => ∃ k : Nat, k ≤ n ∧ i = .int .i64 (k : Int) ∧ nx = .int .i64 ((NT k : Nat) : Int) ∧ Hid (CmIn w.heap.size g #[.int .i64 (n : Int), .slice Ap ps.length kp, .map (some bC), .map (some bM)] (CT k) w wr)) (fun _ i _ => n - (intOf i).toNat)
 case atStart => exact ⟨0, by omega, rfl, by rw [HZ2.out]; rfl, HF.out⟩
 case round =>
  obtain ⟨k, hk, rfl, rfl, hF⟩ := hrel
  clear HF HZ HZ2
  by_cases hlt : k < n
  · have hrl : k < (CT k).length := by rw [HLN.out]; exact hlt
    have rk := hF.out.row.cell k hrl
    rw [← zF hrl 0] at rk
    obtain ⟨o, ho⟩ : ∃ o, (CT k).getD k 0 = o := ⟨_, rfl⟩
    rw [ho] at rk
    have hk0 : (0 : Int) ≤ (k : Int) := by omega
    have hk1 : (k : Int) < (n : Int) := by omega
    by_cases h0 : 0 ≤ o
    · obtain ⟨e1, e2⟩ := HSK.out k hlt (by rw [ho]; exact h0)
      have hF2 : Hid (CmIn w.heap.size g #[.int .i64 (n : Int), .slice Ap ps.length kp, .map (some bC), .map (some bM)] (CT (k + 1)) w wr) := by rw [e1]; exact hF
      have E2 := zH e2
      clear HNW HSK HFI e1 e2 hF
      go_wp2_with fail
      go_roundw
      case rel => exact ⟨k + 1, by omega, by go_num, by rw [E2.out], hF2.out⟩
      case measure => simp [intOf]; omega
    · have hneg : (CT k).getD k 0 < 0 := by omega
      have HNK := zH (HNW.out k hlt hneg)
      have p0 := za hF.out.b0 0 rfl
      have p1 := za hF.out.b0 1 rfl
      have p2 := za hF.out.b0 2 rfl
      have p3 := za hF.out.b0 3 rfl
      clear HNW HSK hneg
      go_wp2_with fail
      obtain ⟨w4, hw4, d4, hs4, hB4⟩ := zi wr #[.int .i64 (k : Int)] 3
      rw [hw4]
      have hF4 := hF.out.on hB4
      have hi4 : IAt w4 w4.heap.size (some ⟨wr.heap.size, 0, none⟩) (zM [k]) := fun _ => ⟨_, 0, rfl, zd d4, fun i hi => by
       have : i = 0 := by simp [zM] at hi; omega
       subst this
       exact za d4 0 rfl⟩
      refine (HFI.out k hlt _ w4 ((HS.out.keep hF4.below).more hF4.below.size) hi4).mono ?_
      rintro e w5 ⟨d, gd, rfl, hgd, hrd, hdl, hfar, hB5⟩
      have hfar2 : Far n (yw ps cls) (fun j => j = k) (fun j => d.getD j 0) := ⟨hfar.ge, fun i hi => by rw [hfar.zero i hi]; simp, hfar.step, hfar.low⟩
      obtain ⟨e1, e2⟩ := HNK.out d hdl hfar2
      have hF5 := hF4.on hB5
      have hgl := hF4.row.lt
      have HF5 := zH hF5
      have HRD := zH hrd
      have E1 := zH e1
      have E2 := zH e2
      have hneg : ¬ gd = g := by omega
      have hle := HLE.out k
      clear hw4 d4 hs4 hB4 hF4 hi4 hB5 hrd hfar hfar2 e1 e2 hF5 HNK hF HFI p0 p1 p2 p3 rk hgl hgd
      go_wp2_with fail
      go_loopw [27] (fun j wr => ∃ m : Nat, m ≤ n ∧ j = .int .i64 (m : Int) ∧ Hid (CmIn w.heap.size g #[.int .i64 (n : Int), .slice Ap ps.length kp, .map (some bC), .map (some bM)] (ki (CT (k + 1)) (CT k) m) w wr) ∧ Hid (RowAt wr gd d)) (fun j _ => n - (intOf j).toNat)
      case atStart => exact ⟨0, by omega, rfl, by rw [uc]; exact HF5.out, HRD.out⟩
      case round =>
       obtain ⟨m, hm, rfl, hFm, hRm⟩ := hrel
       clear HF5 HRD
       have hln : (CT (k + 1)).length = (CT k).length := by rw [HLN.out, HLN.out]
       by_cases hml : m < n
       · have hmk : m < (CT k).length := by rw [HLN.out]; exact hml
         have hmd : m < d.length := by omega
         have rd := hRm.out.cell m hmd
         rw [← zF hmd 0] at rd
         obtain ⟨dm, hdm⟩ : ∃ dm, d.getD m 0 = dm := ⟨_, rfl⟩
         rw [hdm] at rd
         have hE := E1.out m hml
         rw [hdm] at hE
         have hm0 : (0 : Int) ≤ (m : Int) := by omega
         have hm1 : (m : Int) < (n : Int) := by omega
         by_cases hd0 : 0 ≤ dm
         · have rg := hFm.out.row.cell m (by rw [jg hln]; exact hmk)
           have fg := hFm.out.row.froz m
           have hset := hFm.out.set m ((NT k : Nat) : Int)
           have hv : (CT (k + 1))[m]'(by omega) = ((NT k : Nat) : Int) := by
            rw [← zF (by omega) 0, hE, if_pos hd0]
           rw [← hv, vC hln hmk, hv] at hset
           have HSET := zH hset
           have HR2 : Hid (RowAt (wr.setCell ⟨g, m, none⟩ (.int .i64 ((NT k : Nat) : Int))) gd d) := (Below.heap_setCell wr ⟨g, m, none⟩ _ gd hneg).trans hRm.out
           clear hset hv hE hFm hRm
           go_wp2_with fail
           go_roundw
           case rel => exact ⟨m + 1, by omega, by go_num, HSET.out, HR2.out⟩
           case measure => simp [intOf]; omega
         · have hv : (CT (k + 1))[m]'(by omega) = (CT k)[m] := by
            rw [← zF (by omega) 0, hE, if_neg hd0, zF hmk]
           have hF2 : Hid (CmIn w.heap.size g #[.int .i64 (n : Int), .slice Ap ps.length kp, .map (some bC), .map (some bM)] (ki (CT (k + 1)) (CT k) (m + 1)) w wr) := by
            rw [← ud hln hmk hv]; exact hFm
           clear hv hE hFm
           go_wp2_with fail
           go_roundw
           case rel => exact ⟨m + 1, by omega, by go_num, hF2.out, hRm.out⟩
           case measure => simp [intOf]; omega
       · obtain rfl : m = n := by omega
         have hF2 : Hid (CmIn w.heap.size g #[.int .i64 (m : Int), .slice Ap ps.length kp, .map (some bC), .map (some bM)] (CT (k + 1)) w wr) := by
          have := hFm.out
          rw [gF hln (by rw [HLN.out])] at this
          exact this
         clear hFm hRm
         go_wp2_with fail
         go_roundw
         case rel => exact ⟨k + 1, by omega, by go_num, by rw [E2.out]; go_num, hF2.out⟩
         case measure => simp [intOf]; omega
  · obtain rfl : k = n := by omega
    have hF2 : Hid (CmIn w.heap.size g #[.int .i64 (k : Int), .slice Ap ps.length kp, .map (some bC), .map (some bM)] R w wr) := by rw [← HEND.out]; exact hF
    clear hF HNW HSK HFI HEND
    go_wp2_with fail
    go_ret
    exact ⟨g, rfl, Nat.le_of_lt hF2.out.lg, hF2.out.row, hF2.out.below⟩
end
section
open Go.RowKit Go.Shelf
attribute [local go_sem] Oper.semAt_some
def JQ (xs : List Int) (n : Int) (w : World) (e : Ending) (w' : World) : Prop := ∃ A c, e = .returned (.tuple #[.slice A xs.length c, .int .i64 n]) ∧ IAt w' w'.heap.size A xs ∧ Below w.heap.size w w'
theorem RowAt.iat {w : World} {g : Nat} {xs : List Int} (h : RowAt w g xs) : IAt w w.heap.size (some ⟨g, 0, none⟩) xs := fun _ => ⟨g, 0, rfl, h.lt, fun i hi => by rw [Nat.zero_add]; exact h.cell i hi⟩
set_option maxRecDepth 100000 in
theorem gZ (s : Sy) (hs : LowS s) (hf : xb s.p) (g : Int) (A SV AV AX : Option Addr) (kc ks kv kx : Nat) (w : World) (hS : SyAt w w.heap.size A SV AV AX s) :
  Calls Tryz.prog 19 #[.agg (s.vs_ A kc SV ks AV kv AX kx), .int .i64 g] w (JQ (jq s g).1 (jq s g).2 w) := by
 obtain ⟨w1, hw1, d0, hs1, hB⟩ := zi w (s.vs_ A kc SV ks AV kv AX kx) 35
 have HR := zH (Y8 s hs hf g A SV AV AX kc ks kv kx w1 (hS.up hB))
 have HF := zH (fun h => xy (s := s) (g := g) hf h)
 have HE0 : Hid (zK s g ≠ 0 → jq s g = ([], zK s g)) := fun h => if_pos h
 have HE1 : Hid (zK s g = 0 → jq s g = (kQ (ptn s) (yw (psG s g) (zY s)), 0)) := fun h => by unfold jq xf; rw [if_neg (by simpa using h)]
 unfold JO stC yU at HR
 unfold Sy.vs_ at hw1 d0 HR ⊢
 obtain ⟨r, hr⟩ : ∃ r, zK s g = r := ⟨_, rfl⟩
 rw [hr] at HR HF HE0 HE1
 obtain ⟨R, hRR⟩ : ∃ R, jq s g = R := ⟨_, rfl⟩
 rw [hRR] at HE0 HE1 ⊢
 have HW1 := zH hw1
 have HB := zH hB
 obtain ⟨p0, p1, p2, p3, p4, p5, p6, p7, p8, p9⟩ := zx d0
 clear hw1 d0 hB hS hr hRR hs hf
 go_enter Tryz.func19, Tryz.ntmps19
 go_wp2_with fail
 rw [HW1.out]
 go_wp2_with fail
 refine HR.out.mono ?_
 rintro e w2 ⟨hb2, (⟨hne, rfl⟩ | ⟨h0, Ap, kp, bC, bM, rfl, hSt⟩)⟩
 · have HB2 := zH (HB.out.trans (hb2.mono (by omega)))
   have hR : Hid (R = ([], r)) := HE0.out hne
   have e0 : (r != 0) = true := by simpa using hne
   clear p0 p1 p2 p3 p4 p5 p6 p7 p8 p9 hb2 HR HW1 HF HE0 HE1 hne
   go_wp2_with fail
   obtain ⟨w3, hw3, d3, hs3, hB3⟩ := zi w2 #[.int .i64 0, .slice none 0 0, .map none, .map none] 126
   rw [hw3]
   go_wp2_with fail
   go_ret2
   rw [hR.out]
   exact ⟨none, 0, rfl, IAt.nil _ _ _, HB2.out.trans (hB3.mono HB2.out.size)⟩
 · have HB2 := zH (HB.out.trans (hb2.mono (by omega)))
   have hR : Hid (R = (kQ (ptn s) (yw (psG s g) (zY s)), 0)) := HE1.out h0
   obtain ⟨f1, f2, f3⟩ := HF.out h0
   have HCO := zH (fun (X : World) (hX : StAt X X.heap.size Ap bC bM (ptn s) (psG s g) (zY s)) => comps_any (ptn s) f1 (by omega) Ap kp bC bM (psG s g) (by omega) (zY s) X hX)
   have HCL : Hid ((kQ (ptn s) (yw (psG s g) (zY s))).length = ptn s) := ZT _ _
   unfold stC at HCO
   have HST := zH (hSt w2 fun _ _ _ => rfl)
   subst h0
   obtain ⟨PN, hPN⟩ : ∃ PN, ptn s = PN := ⟨_, rfl⟩
   obtain ⟨PS, hPS⟩ : ∃ PS, psG s g = PS := ⟨_, rfl⟩
   rw [hPN, hPS] at hR HCO HST HCL ⊢
   clear p0 p1 p2 p3 p4 p5 p6 p7 p8 p9 hb2 HR HW1 HF HE0 HE1 hSt hPN hPS f1 f2 f3
   go_wp2_with fail
   obtain ⟨w3, hw3, d3, hs3, hB3⟩ := zi w2 #[.int .i64 (PN : Int), .slice Ap PS.length kp, .map (some bC), .map (some bM)] 126
   rw [hw3]
   have x0 := za d3 0 rfl
   have x1 := za d3 1 rfl
   have x2 := za d3 2 rfl
   have x3 := za d3 3 rfl
   have HB3 := zH hB3
   have HS3 := zH ((HST.out.keep hB3).more hB3.size)
   clear hw3 d3 hB3 HST
   go_wp2_with fail
   refine (HCO.out w3 HS3.out).mono ?_
   rintro e w4 ⟨g4, rfl, hg4, hr4, hb4⟩
   have HR4 := zH hr4
   have HB4 := zH (HB2.out.trans ((HB3.out.trans (hb4.mono (by omega))).mono HB2.out.size))
   clear hr4 hb4 x0 x1 x2 x3
   go_wp2_with fail
   go_ret2
   rw [hR.out]
   exact ⟨some ⟨g4, 0, none⟩, PN, by rw [HCL.out]; rfl, HR4.out.iat, HB4.out⟩
end
section
open Go.RowKit Go.Shelf
attribute [local go_sem] Oper.semAt_some
def Zj (s : Sy) (g : Int) (set : List Bool) (w : World) (e : Ending) (w' : World) : Prop := Below w.heap.size w w' ∧ ((zt s g set ≠ 0 ∧ e = .returned (.tuple #[yU, .slice none 0 0, .int .i64 (zt s g set)])) ∨
 (zt s g set = 0 ∧ ∃ Ap kp bC bM AO co, e = .returned (.tuple #[.agg (stC (ptn s) Ap (psG s g).length kp bC bM), .slice AO (zS set).length co, .int .i64 0]) ∧ ∀ W, (∀ k, w.heap.size ≤ k → k < w'.heap.size → W.heap[k]? = w'.heap[k]?) → StAt W w'.heap.size Ap bC bM (ptn s) (psG s g) (zY s) ∧ IAt W w'.heap.size AO (zM (zS set))))
theorem offE_take (set : List Bool) (k : Nat) (h : k < set.length) : zS (set.take (k + 1)) = if set[k] = false then zS (set.take k) ++ [k] else zS (set.take k) := by
 rw [List.take_succ_eq_append_getElem h, offE_snoc, List.length_take, Nat.min_eq_left (Nat.le_of_lt h)]
set_option maxRecDepth 100000 in
theorem jc (s : Sy) (hs : LowS s) (hf : xb s.p) (g : Int) (set : List Bool) (A SV AV AX AB : Option Addr) (kc ks kv kx kb : Nat) (w : World) (hS : SyAt w w.heap.size A SV AV AX s) (hB0 : BAt w w.heap.size AB set) (hsl : set.length ≤ 1000000) :
  Calls Tryz.prog 71 #[.agg (s.vs_ A kc SV ks AV kv AX kx), .int .i64 g, .slice AB set.length kb] w (Zj s g set w) := by
 obtain ⟨w1, hw1, d0, d1, hs1, hB⟩ := yj w (s.vs_ A kc SV ks AV kv AX kx) #[.int .i64 0, .slice none 0 0, .map none, .map none] 35 126
 have HR := zH (Y8 s hs hf g A SV AV AX kc ks kv kx w1 (hS.up hB))
 have HF := zH (fun h => xy (s := s) (g := g) hf h)
 have HBB := zH ((hB0.keep hB).more hB.size)
 have HE0 : Hid (zK s g ≠ 0 → zt s g set = zK s g) := fun h => if_pos h
 have HE1 : Hid (zK s g = 0 → set.length ≠ ptn s → zt s g set = 15) := fun h h1 => by unfold zt; rw [if_neg (by simpa using h), if_pos h1]
 have HE2 : Hid (zK s g = 0 → set.length = ptn s → zt s g set = 0) := fun h h1 => by unfold zt; rw [if_neg (by simpa using h), if_neg (by simpa using h1)]
 unfold Zj stC yU
 unfold JO stC yU at HR
 unfold Sy.vs_ at hw1 d0 HR ⊢
 obtain ⟨r, hr⟩ : ∃ r, zK s g = r := ⟨_, rfl⟩
 rw [hr] at HR HF HE0 HE1 HE2
 obtain ⟨R, hRR⟩ : ∃ R, zt s g set = R := ⟨_, rfl⟩
 rw [hRR] at HE0 HE1 HE2 ⊢
 have HW1 := zH hw1
 have HB := zH hB
 have HD1 := zH d1
 obtain ⟨p0, p1, p2, p3, p4, p5, p6, p7, p8, p9⟩ := zx d0
 clear hw1 d0 d1 hB hS hr hRR hs hf hB0
 go_enter Tryz.func71, Tryz.ntmps71
 go_wp2_with fail
 rw [HW1.out]
 go_wp2_with fail
 refine HR.out.mono ?_
 rintro e w2 ⟨hb2, (⟨hne, rfl⟩ | ⟨h0, Ap, kp, bC, bM, rfl, hSt⟩)⟩
 · have HB2 := zH (HB.out.trans (hb2.mono (by omega)))
   have hR : Hid (R = r) := HE0.out hne
   have e0 : (r != 0) = true := by simpa using hne
   have d1 := (hb2.block _ (by omega : w.heap.size + 1 < w1.heap.size)).trans HD1.out
   have HD2 := zH d1
   clear p0 p1 p2 p3 p4 p5 p6 p7 p8 p9 hb2 HR HW1 HF HE0 HE1 HE2 hne d1 HD1
   go_upto_region 2 with fail
   obtain ⟨w3, hw3, d3, hs3, hB3⟩ := zi w2 #[.int .i64 0, .slice none 0 0, .map none, .map none] 126
   rw [hw3]
   have d1 := (hB3.block _ (zd HD2.out)).trans HD2.out
   have c0 := za d1 0 rfl
   have c1 := za d1 1 rfl
   have c2 := za d1 2 rfl
   have c3 := za d1 3 rfl
   have f0 := zb d1 0
   have f1 := zb d1 1
   have f2 := zb d1 2
   have f3 := zb d1 3
   have l1 := zd d1
   have HD3 := zH d1
   have HB3 := zH (HB2.out.trans (hB3.mono HB2.out.size))
   clear d1 HD2 hw3 d3 hB3
   go_wp2_with fail
   obtain ⟨W, hW, e1, _, e3⟩ := Qg HD3.out (.int .i64 0) (.slice none 0 0) (.map none) (.map none)
   rw [hW]
   have q0 := za e1 0 rfl
   have q1 := za e1 1 rfl
   have q2 := za e1 2 rfl
   have q3 := za e1 3 rfl
   refine bodyPost_ret (v := .tuple #[yU, .slice none 0 0, .int .i64 r]) (by simp [results, Tryz.results71, go_sem, q0, q1, q2, q3, yU]) rfl ?_
   rw [hR.out]
   exact ⟨HB3.out.trans (e3 _ (by omega)), .inl ⟨by simpa using e0, rfl⟩⟩
 · have HB2 := zH (HB.out.trans (hb2.mono (by omega)))
   have HBB2 := zH ((HBB.out.keep hb2).more hb2.size)
   have HST := zH (fun (W : World) (h : ∀ k, w1.heap.size ≤ k → k < w2.heap.size → W.heap[k]? = w2.heap[k]?) => hSt W h)
   have HN1 : Hid (set.length ≠ ptn s → R = 15) := fun h => HE1.out h0 h
   have HN2 : Hid (set.length = ptn s → R = 0) := fun h => HE2.out h0 h
   obtain ⟨f1, f2, f3⟩ := HF.out h0
   have d1 := (hb2.block _ (by omega : w.heap.size + 1 < w1.heap.size)).trans HD1.out
   have HD2 := zH d1
   subst h0
   obtain ⟨PN, hPN⟩ : ∃ PN, ptn s = PN := ⟨_, rfl⟩
   obtain ⟨PS, hPS⟩ : ∃ PS, psG s g = PS := ⟨_, rfl⟩
   rw [hPN, hPS] at HST
   have HPN := zH hPN
   have HPS := zH hPS
   have hb2s := hb2.size
   rw [hPN] at HN1 HN2 f1 f2
   clear p0 p1 p2 p3 p4 p5 p6 p7 p8 p9 hb2 HR HW1 HF HE0 HE1 HE2 hSt hPN hPS f3 d1 HD1 HBB
   go_upto_region 2 with fail
   rw [HPN.out, HPS.out]
   obtain ⟨w3, hw3, d3, hs3, hB3⟩ := zi w2 #[.int .i64 (PN : Int), .slice Ap PS.length kp, .map (some bC), .map (some bM)] 126
   rw [hw3]
   have x0 := za d3 0 rfl
   have HX3 := zH d3
   have HB23 := zH hB3
   have HBB3 := zH ((HBB2.out.keep hB3).more hB3.size)
   have d1 := (hB3.block _ (zd HD2.out)).trans HD2.out
   have HD3 := zH d1
   have HB3 := zH (HB2.out.trans (hB3.mono HB2.out.size))
   have c0 := za d1 0 rfl
   have c1 := za d1 1 rfl
   have c2 := za d1 2 rfl
   have c3 := za d1 3 rfl
   have f0 := zb d1 0
   have f1 := zb d1 1
   have f2 := zb d1 2
   have f3 := zb d1 3
   have l1 := zd d1
   clear hw3 d3 hB3 HBB2 HD2 d1 HB2
   by_cases hl : set.length = PN
   case neg =>
    have e1 : ((set.length : Int) != (PN : Int)) = true := by simp; omega
    have hR : Hid (R = 15) := HN1.out hl
    clear HN1 HN2 hl
    go_wp2_with fail
    obtain ⟨W, hW, e1, _, e3⟩ := Qg HD3.out (.int .i64 0) (.slice none 0 0) (.map none) (.map none)
    rw [hW]
    have q0 := za e1 0 rfl
    have q1 := za e1 1 rfl
    have q2 := za e1 2 rfl
    have q3 := za e1 3 rfl
    refine bodyPost_ret (v := .tuple #[yU, .slice none 0 0, .int .i64 15]) (by simp [results, Tryz.results71, go_sem, q0, q1, q2, q3, yU]) rfl ?_
    rw [hR.out]
    exact ⟨HB3.out.trans (e3 _ (by omega)), .inl ⟨by decide, rfl⟩⟩
   case pos =>
    have e1 : ((set.length : Int) != (PN : Int)) = false := by rw [hl]; simp
    have hR : Hid (R = 0) := HN2.out hl
    clear HN1 HN2 hl
    go_wp2_with fail
    go_loopw [11, 32] (fun o i wr => ∃ k : Nat, k ≤ set.length ∧ i = .int .i64 (k : Int) ∧ Hid (Own wr w3.heap.size o (zM (zS (set.take k)))) ∧ Hid (Below w3.heap.size w3 wr)) (fun _ i _ => set.length - (intOf i).toNat)
    case atStart => exact ⟨0, by omega, rfl, Own.nil _ _, Below.refl _ _⟩
    case round =>
     obtain ⟨k, hk, rfl, HO, hb⟩ := hrel
     by_cases hlt : k < set.length
     · obtain ⟨b, off, eA, hbl, z0⟩ := (HBB3.out.keep hb.out).at_ k hlt
       subst eA
       have HT := zH (offE_take set k hlt)
       obtain ⟨y, hy⟩ : ∃ y, set[k] = y := ⟨_, rfl⟩
       rw [hy] at HT z0
       have hll : (zM (zS (set.take k))).length ≤ 1000000 := by
        rw [zw]
        have := gA (set.take k)
        simp at this; omega
       have hk0 : (0 : Int) ≤ (k : Int) := by omega
       have hk1 : (k : Int) < (set.length : Int) := by omega
       clear hy c0 c1 c2 c3 f0 f1 f2 f3 x0
       cases y with
       | false =>
        have HT2 : Hid (zS (set.take (k + 1)) = zS (set.take k) ++ [k]) := HT.out.trans (if_pos rfl)
        clear HT
        go_wp2_with (at_builtin; go_must (refine kV rfl _ _ rfl w3.heap.size u11 _ (k : Int) rfl HO.out rfl (by omega) hb.out.size ?_); intro v' w5 hown1 hg1 hb1)
        go_roundw
        case rel => exact ⟨k + 1, by omega, by go_num, by show Own _ _ _ _; rw [HT2.out]; simpa [zM] using hown1, hb.out.trans hb1⟩
        case measure => simp [intOf]; omega
       | true =>
        have HT2 : Hid (zS (set.take (k + 1)) = zS (set.take k)) := HT.out.trans (if_neg (by simp))
        clear HT
        go_wp2_with fail
        go_roundw
        case rel => exact ⟨k + 1, by omega, by go_num, by rw [HT2.out]; exact HO, hb⟩
        case measure => simp [intOf]; omega
     · obtain rfl : k = set.length := by omega
       have hO := HO.out
       rw [List.take_length] at hO
       obtain ⟨AO, cO, eO, _, _, hI⟩ := hO.form
       rw [zw] at eO
       subst eO
       have HO2 := zH hO
       have d1 := (hb.out.block _ (by omega)).trans HD3.out
       have d3 := (hb.out.block _ (zd HX3.out)).trans HX3.out
       have HD4 := zH d1
       clear c0 c1 c2 c3 f0 f1 f2 f3 x0 HD3 HX3 hI hO HO hlt
       have c0 := za d1 0 rfl
       have c1 := za d1 1 rfl
       have c2 := za d1 2 rfl
       have c3 := za d1 3 rfl
       have f0 := zb d1 0
       have f1 := zb d1 1
       have f2 := zb d1 2
       have f3 := zb d1 3
       have l2 := zd d1
       have x0 := za d3 0 rfl
       have x1 := za d3 1 rfl
       have x2 := za d3 2 rfl
       have x3 := za d3 3 rfl
       clear d1 d3
       go_wp2_with fail
       obtain ⟨W, hW, e1, e2, e3⟩ := Qg HD4.out (.int .i64 (PN : Int)) (.slice Ap PS.length kp) (.map (some bC)) (.map (some bM))
       rw [hW]
       have q0 := za e1 0 rfl
       have q1 := za e1 1 rfl
       have q2 := za e1 2 rfl
       have q3 := za e1 3 rfl
       refine bodyPost_ret (v := .tuple #[.agg #[.int .i64 (PN : Int), .slice Ap PS.length kp, .map (some bC), .map (some bM)], .slice AO (zS set).length cO, .int .i64 0]) (by simp [results, Tryz.results71, go_sem, q0, q1, q2, q3]) rfl ?_
       have hsz : W.heap.size = wr.heap.size := by rw [← hW]; simp [World.setCell]
       rw [HPN.out, HPS.out]
       refine ⟨(HB3.out.trans (hb.out.mono (by omega))).trans (e3 _ (by omega)), .inr ⟨hR.out, Ap, kp, bC, bM, AO, cO, rfl, fun W9 h9 => ⟨?_, ?_⟩⟩⟩
       · refine (HST.out W9 fun q h1 h2 => ?_).more (by have := hb.out.size; omega)
         have := hb.out.size
         exact (h9 q (by omega) (by omega)).trans ((e2 q (by omega)).trans ((hb.out.block q (by omega)).trans (HB23.out.block q h2)))
       · rw [hsz]
         refine gq HO2.out fun q h1 h2 => (h9 q (by omega) (by omega)).trans (e2 q (by omega))
end
section
open Go.RowKit Go.Shelf
attribute [local go_sem] Oper.semAt_some
def RetBA (xs : List Bool) (n : Int) (w : World) (e : Ending) (w' : World) : Prop := ∃ A c, e = .returned (.tuple #[.slice A xs.length c, .int .i64 n]) ∧ BAt w' w'.heap.size A xs ∧ Below w.heap.size w w'
set_option maxRecDepth 100000 in
theorem j8 (s : Sy) (hs : LowS s) (hf : xb s.p) (g : Int) (set : List Bool) (A SV AV AX AB : Option Addr) (kc ks kv kx kb : Nat) (w : World) (hS : SyAt w w.heap.size A SV AV AX s) (hB0 : BAt w w.heap.size AB set) (hsl : set.length ≤ 1000000) :
  Calls Tryz.prog 24 #[.agg (s.vs_ A kc SV ks AV kv AX kx), .int .i64 g, .slice AB set.length kb] w (JQ (kS s g set).1 (kS s g set).2 w) := by
 obtain ⟨w1, hw1, d0, hs1, hB⟩ := zi w (s.vs_ A kc SV ks AV kv AX kx) 35
 have HR := zH (jc s hs hf g set A SV AV AX AB kc ks kv kx kb w1 (hS.up hB) ((hB0.keep hB).more hB.size) hsl)
 have HF := zH (fun h => xy (s := s) (g := g) hf h)
 have HG := zH (fun h => xY (s := s) (g := g) (set := set) h)
 have HE0 : Hid (zt s g set ≠ 0 → kS s g set = ([], zt s g set)) := fun h => if_pos h
 have HE1 : Hid (zt s g set = 0 → kS s g set = (jD (ptn s) (yw (psG s g) (zY s)) (zS set), 0)) := fun h => by unfold kS xf; rw [if_neg (by simpa using h)]
 unfold Zj stC yU at HR
 unfold Sy.vs_ at hw1 d0 HR ⊢
 obtain ⟨r, hr⟩ : ∃ r, zt s g set = r := ⟨_, rfl⟩
 rw [hr] at HR HG HE0 HE1
 obtain ⟨R, hRR⟩ : ∃ R, kS s g set = R := ⟨_, rfl⟩
 rw [hRR] at HE0 HE1 ⊢
 have HW1 := zH hw1
 have HB := zH hB
 obtain ⟨p0, p1, p2, p3, p4, p5, p6, p7, p8, p9⟩ := zx d0
 clear hw1 d0 hB hS hr hRR hs hf hB0
 go_enter Tryz.func24, Tryz.ntmps24
 go_wp2_with fail
 rw [HW1.out]
 go_wp2_with fail
 refine HR.out.mono ?_
 rintro e w2 ⟨hb2, (⟨hne, rfl⟩ | ⟨h0, Ap, kp, bC, bM, AO, cO, rfl, hSO⟩)⟩
 · have HB2 := zH (HB.out.trans (hb2.mono (by omega)))
   have hR : Hid (R = ([], r)) := HE0.out hne
   have e0 : (r != 0) = true := by simpa using hne
   clear p0 p1 p2 p3 p4 p5 p6 p7 p8 p9 hb2 HR HW1 HF HE0 HE1 hne HG
   go_wp2_with fail
   obtain ⟨w3, hw3, d3, hs3, hB3⟩ := zi w2 #[.int .i64 0, .slice none 0 0, .map none, .map none] 126
   rw [hw3]
   go_wp2_with fail
   go_ret2
   rw [hR.out]
   exact ⟨none, 0, rfl, IAt.nil _ _ _, HB2.out.trans (hB3.mono HB2.out.size)⟩
 · have HB2 := zH (HB.out.trans (hb2.mono (by omega)))
   have hR : Hid (R = (jD (ptn s) (yw (psG s g) (zY s)) (zS set), 0)) := HE1.out h0
   obtain ⟨g1, g2⟩ := HG.out h0
   obtain ⟨f1, f2, f3⟩ := HF.out g1
   have HFI := zH (fun (X : World) (hX : StAt X X.heap.size Ap bC bM (ptn s) (psG s g) (zY s)) (hI : IAt X X.heap.size AO (zM (zS set))) => gV (ptn s) f1 (by omega) Ap kp bC bM (psG s g) (by omega) (zY s) (zS set) (Js g2) (by have := gA set; omega) AO cO X hX hI)
   unfold stC at HFI
   obtain ⟨hSt, hO⟩ := hSO w2 fun _ _ _ => rfl
   have HST := zH hSt
   have HO := zH hO
   clear hSO
   have HFQ := zH (fun (f : List Int) (hl : f.length = ptn s) (h : Far (ptn s) (yw (psG s g) (zY s)) (fun i => i ∈ zS set) (fun i => f.getD i 0)) => kH hl h)
   subst h0
   obtain ⟨PN, hPN⟩ : ∃ PN, ptn s = PN := ⟨_, rfl⟩
   obtain ⟨PS, hPS⟩ : ∃ PS, psG s g = PS := ⟨_, rfl⟩
   rw [hPN, hPS] at hR HFI HST HFQ ⊢
   obtain ⟨OL, hOL⟩ : ∃ OL, zS set = OL := ⟨_, rfl⟩
   rw [hOL] at hR HFI HFQ HO ⊢
   clear p0 p1 p2 p3 p4 p5 p6 p7 p8 p9 hb2 HR HW1 HF HE0 HE1 hSt hPN hPS f1 f2 f3 g1 g2 HG hO hOL
   go_wp2_with fail
   obtain ⟨w3, hw3, d3, hs3, hB3⟩ := zi w2 #[.int .i64 (PN : Int), .slice Ap PS.length kp, .map (some bC), .map (some bM)] 126
   rw [hw3]
   have x0 := za d3 0 rfl
   have x1 := za d3 1 rfl
   have x2 := za d3 2 rfl
   have x3 := za d3 3 rfl
   have HB3 := zH hB3
   have HS3 := zH ((HST.out.keep hB3).more hB3.size)
   have HO3 := zH ((HO.out.keep hB3).more hB3.size)
   clear hw3 d3 hB3 HST HO
   go_wp2_with fail
   refine (HFI.out w3 HS3.out HO3.out).mono ?_
   rintro e w4 ⟨out, g4, rfl, hg4, hr4, hl4, hfar, hb4⟩
   have HR4 := zH hr4
   have HB4 := zH (HB2.out.trans ((HB3.out.trans (hb4.mono (by omega))).mono HB2.out.size))
   have hR2 : Hid (R = (out, 0)) := by rw [Hid, hR.out, HFQ.out out hl4 hfar]
   have HL4 := zH hl4
   clear hr4 hb4 x0 x1 x2 x3 hR HFQ hfar hl4
   go_wp2_with fail
   go_ret2
   rw [hR2.out]
   exact ⟨some ⟨g4, 0, none⟩, PN, by rw [HL4.out]; rfl, HR4.out.iat, HB4.out⟩
set_option maxRecDepth 100000 in
theorem gK (s : Sy) (hs : LowS s) (hf : xb s.p) (g : Int) (set : List Bool) (A SV AV AX AB : Option Addr) (kc ks kv kx kb : Nat) (w : World) (hS : SyAt w w.heap.size A SV AV AX s) (hB0 : BAt w w.heap.size AB set) (hsl : set.length ≤ 1000000) :
  Calls Tryz.prog 22 #[.agg (s.vs_ A kc SV ks AV kv AX kx), .int .i64 g, .slice AB set.length kb] w (RetBA (kn s g set).1 (kn s g set).2 w) := by
 obtain ⟨w1, hw1, d0, hs1, hB⟩ := zi w (s.vs_ A kc SV ks AV kv AX kx) 35
 have HR := zH (j8 s hs hf g set A SV AV AX AB kc ks kv kx kb w1 (hS.up hB) ((hB0.keep hB).more hB.size) hsl)
 have HE0 : Hid (zt s g set ≠ 0 → kS s g set = ([], zt s g set) ∧ kn s g set = ([], zt s g set)) := fun h => ⟨if_pos h, if_pos h⟩
 have HE1 : Hid (zt s g set = 0 → (kS s g set).2 = 0 ∧ (kS s g set).1.length ≤ 700 ∧ kn s g set = ((kS s g set).1.map fun d => decide (d < 0), 0)) := fun h => by
  obtain ⟨h1, h2⟩ := xY h
  obtain ⟨f1, f2, f3⟩ := xy hf h1
  have hex := far_ex (ptn s) (xf s g) (fun i => i ∈ zS set)
  obtain ⟨f, hl, hfar⟩ := hex
  have e1 : kS s g set = (f, 0) := by unfold kS; rw [if_neg (by simpa using h), kH hl hfar]
  rw [e1]
  refine ⟨rfl, by rw [hl]; exact f2, ?_⟩
  unfold kn
  rw [if_neg (by simpa using h), gJ h2 hfar hl (yT s g)]
 unfold Sy.vs_ at hw1 d0 HR ⊢
 obtain ⟨r, hr⟩ : ∃ r, zt s g set = r := ⟨_, rfl⟩
 rw [hr] at HE0 HE1
 obtain ⟨R, hRR⟩ : ∃ R, kn s g set = R := ⟨_, rfl⟩
 obtain ⟨Q, hQQ⟩ : ∃ Q, kS s g set = Q := ⟨_, rfl⟩
 rw [hRR, hQQ] at HE0 HE1
 rw [hRR]
 rw [hQQ] at HR
 have HW1 := zH hw1
 have HB := zH hB
 obtain ⟨p0, p1, p2, p3, p4, p5, p6, p7, p8, p9⟩ := zx d0
 clear hw1 d0 hB hS hr hRR hs hf hB0 hQQ
 go_enter Tryz.func22, Tryz.ntmps22
 go_wp2_with fail
 rw [HW1.out]
 go_wp2_with fail
 refine HR.out.mono ?_
 rintro e w2 ⟨AO, cO, rfl, hI, hb2⟩
 have HB2 := zH (HB.out.trans (hb2.mono (by omega)))
 have HI := zH hI
 clear p0 p1 p2 p3 p4 p5 p6 p7 p8 p9 hb2 HR HW1 hI
 by_cases h0 : r = 0
 · obtain ⟨e1, e2, e3⟩ := HE1.out h0
   rw [e1]
   have hR := zH e3
   obtain ⟨q, hq⟩ : ∃ q, Q.1 = q := ⟨_, rfl⟩
   rw [hq] at HI hR e2 ⊢
   have hmk := kG q.length (by omega)
   clear HE0 HE1 e1 e3 hq h0
   go_wp2_with fail
   obtain ⟨w3, hw3, d3, hs3, hB3⟩ := zi w2 (qM (List.replicate q.length false)) 4
   rw [hw3]
   have HI3 := zH (HI.out.keep hB3)
   have HB3 := zH (HB2.out.trans (hB3.mono HB2.out.size))
   have HD3 := zH d3
   obtain ⟨bs, hbs⟩ : ∃ bs : List Bool, q.map (fun d => decide (d < 0)) = bs := ⟨_, rfl⟩
   have hbl : bs.length = q.length := by rw [← hbs, List.length_map]
   have HBL := zH hbl
   have HAT : Hid (∀ k (h : k < q.length), bs[k]? = some (decide (q[k] < 0))) := fun k h => by subst hbs; simp [h]
   rw [hbs] at hR
   have hz0 : BRow w3 w2.heap.size (qj bs 0) := by rw [ul, hbl]; exact HD3.out
   have HZ0 := zH hz0
   clear hw3 d3 hB3 HI hmk hbs hbl hz0
   go_wp2_with fail
   go_loopw [28] (fun i wr => ∃ k : Nat, k ≤ q.length ∧ i = .int .i64 (k : Int) ∧ Hid (BRow wr w2.heap.size (qj bs k)) ∧ Hid (Below w2.heap.size w3 wr)) (fun i _ => q.length - (intOf i).toNat)
   case atStart => exact ⟨0, by omega, rfl, HZ0.out, Below.refl _ _⟩
   case round =>
    obtain ⟨k, hk, rfl, hbr, hb⟩ := hrel
    clear HZ0
    by_cases hlt : k < q.length
    · obtain ⟨b, off, eA, hbl, z0⟩ := (HI3.out.keep hb.out).at_ k hlt
      subst eA
      have hkb : k < bs.length := by rw [HBL.out]; exact hlt
      have hml := gR bs (Nat.le_of_lt hkb)
      have y0 := za hbr.out k (vK (qj bs k) k (by omega))
      have f0 := zb hbr.out k
      have hnew : BRow (wr.setCell ⟨w2.heap.size, k, none⟩ (.bool (decide (q[k] < 0)))) w2.heap.size (qj bs (k + 1)) := by
       have hat : bs[k]'hkb = decide (q[k] < 0) := by
        have := HAT.out k hlt
        rw [List.getElem?_eq_getElem hkb] at this
        exact Option.some.inj this
       rw [← hat, ← gQ bs hkb]
       unfold BRow
       rw [heap_setCell_same wr _ k _ _ _ hbr.out, ut]
      have HNEW := zH hnew
      have HBN := zH (hb.out.setCell (p := ⟨w2.heap.size, k, none⟩) (by show w2.heap.size ≤ w2.heap.size; omega) (.bool (decide (q[k] < 0))))
      obtain ⟨x, hx⟩ : ∃ x, q[k] = x := ⟨_, rfl⟩
      rw [hx] at z0 HNEW HBN
      obtain ⟨y, hy⟩ : ∃ y, (qj bs k)[k]'(by omega) = y := ⟨_, rfl⟩
      rw [hy] at y0
      have hk0 : (0 : Int) ≤ (k : Int) := by omega
      have hk1 : (k : Int) < (q.length : Int) := by omega
      have hl3 := zd hbr.out
      clear hnew hml hkb hx hy hbr hb
      go_wp2_with fail
      go_roundw
      case rel => exact ⟨k + 1, by omega, by go_num, HNEW, HBN⟩
      case measure => simp [intOf]; omega
    · obtain rfl : k = q.length := by omega
      have hbe := hbr.out
      rw [← HBL.out, gS] at hbe
      have HBE := zH hbe
      clear hbe hbr
      go_wp2_with fail
      go_ret2
      rw [hR.out]
      exact ⟨some ⟨w2.heap.size, 0, none⟩, q.length, by rw [HBL.out]; rfl, HBE.out.at_ HBE.out.lt, HB3.out.trans (hb.out.mono HB2.out.size)⟩
 · obtain ⟨e1, e2⟩ := HE0.out h0
   rw [e1]
   have hR := zH e2
   have e0 : (r != 0) = true := by simpa using h0
   clear HE0 HE1 e1 e2 h0 HI
   go_wp2_with fail
   go_ret2
   rw [hR.out]
   exact ⟨none, 0, rfl, BAt.nil _ _ _, HB2.out⟩
end
section
open Go.RowKit Go.Shelf
attribute [local go_sem] Oper.semAt_some
def RetTA (x : (List (Int × Int) × Bool) × Int) (w : World) (e : Ending) (w' : World) : Prop := ∃ A c, e = .returned (.tuple #[.slice A x.1.1.length c, .bool x.1.2, .int .i64 x.2]) ∧ x.1.1.length ≤ c ∧ c ≤ maxLen ∧ TAt w' w'.heap.size A x.1.1 ∧ Below w.heap.size w w'
structure WtIn (B D : Nat) (wD : World) (pt : Nat) (w W : World) : Prop where
 below : Below B w W
 pt : W.heap[B + 1]? = some (.cells #[.int .i64 (pt : Int)] 3 (0, 0))
 old : ∀ k, B + 2 ≤ k → k < D → W.heap[k]? = wD.heap[k]?
 size : D ≤ W.heap.size
section
variable {B D pt : Nat} {wD w W W' : World}
theorem WtIn.free (h : WtIn B D wD pt w W) (hb : Below D W W') (hD : B + 2 ≤ D) : WtIn B D wD pt w W' :=
 ⟨h.below.trans (hb.mono (by omega)), (hb.block _ (by omega)).trans h.pt, fun k h1 h2 => (hb.block k h2).trans (h.old k h1 h2), Nat.le_trans h.size hb.size⟩
theorem WtIn.on (h : WtIn B D wD pt w W) (hb : Below W.heap.size W W') (hD : B + 2 ≤ D) : WtIn B D wD pt w W' := h.free (hb.mono h.size) hD
theorem WtIn.turn {row : Option Nat} (h : WtIn B D wD pt w W) (hg : W.grownBy W' row) (hr : ∀ r, row = some r → D ≤ r) (hD : B + 2 ≤ D) : WtIn B D wD pt w W' :=
 h.free ((Below.refl D W).grown hg h.size hr) hD
theorem WtIn.move (h : WtIn B D wD pt w W) (q : Nat) (_hD : B + 2 ≤ D) : WtIn B D wD q w (W.setCell ⟨B + 1, 0, none⟩ (.int .i64 (q : Int))) :=
 ⟨h.below.setCell (by show B ≤ B + 1; omega) _, by rw [heap_setCell_same W (B + 1) 0 _ _ _ h.pt]; rfl, fun k h1 h2 => (Below.heap_setCell W ⟨B + 1, 0, none⟩ _ k (by show k ≠ B + 1; omega)).trans (h.old k h1 h2), by simp [World.setCell]; exact h.size⟩
theorem jx {K : Kd} {base : Nat} {v : Value} {n : Nat} {cs : List Value} (h : OwnR K W base v n cs) (hs : ∀ k, v.ownBlock = some k → W'.heap[k]? = W.heap[k]?) : OwnR K W' base v n cs := by
 refine ⟨h.1, ?_⟩
 rcases h.2 with hn | ⟨g, cap, cur, rfl, hb, hg, rest⟩
 · exact .inl hn
 · exact .inr ⟨g, cap, cur, rfl, hb, (hs g rfl).trans hg, rest⟩
theorem Qt {K : Kd} {base : Nat} {v : Value} {n : Nat} {cs : List Value} (h : OwnR K W base v n cs) (hs : ∀ (k : Nat) (o : Obj), W.heap[k]? = some o → o.isCells = true → W'.heap[k]? = some o) : OwnR K W' base v n cs := by
 refine ⟨h.1, ?_⟩
 rcases h.2 with hn | ⟨g, cap, cur, rfl, hb, hg, rest⟩
 · exact .inl hn
 · exact .inr ⟨g, cap, cur, rfl, hb, hs g _ hg rfl, rest⟩
theorem ownR_ne {K : Kd} {base : Nat} {v : Value} {n y : Nat} {cs : List Value} {d : Option (List Deferred)} (h : OwnR K W base v n cs) (hy : W.heap[y]? = some (Obj.deferred d)) : v.ownBlock ≠ some y := fun e => by
 rcases h.2 with ⟨rfl, _⟩ | ⟨g, cap, cur, rfl, hb, hg, rest⟩
 · cases e
 · have : g = y := by simpa [Value.ownBlock] using e
   subst this
   rw [hg] at hy
   cases hy
theorem ownR_one {g base : Nat} {x y : Int} (h : W.heap[g]? = some (.cells #[.int .i64 x, .int .i64 y] 75 (0, 0))) (hb : base ≤ g) : OwnR kSt W base (.slice (some ⟨g, 0, none⟩) 1 1) 1 (kR [(x, y)]) :=
 ⟨by simp [kR, kSt], .inr ⟨g, 1, _, rfl, hb, h, Nat.le_refl _, by unfold maxLen; omega, by simp [kSt], by simp [kR, kSt]⟩⟩
end
theorem set2 {w : World} {g : Nat} {x0 x1 : Value} {t : TypeId} (h : w.heap[g]? = some (.cells #[x0, x1] t (0, 0))) (y0 y1 : Value) :
  ∃ W, ((w.setCell ⟨g, 0, none⟩ y0).setCell ⟨g, 1, none⟩ y1) = W ∧ W.heap[g]? = some (.cells #[y0, y1] t (0, 0)) ∧ (∀ k, k ≠ g → W.heap[k]? = w.heap[k]?) ∧ ∀ B, B ≤ g → Below B w W := by
 refine ⟨_, rfl, ?_, fun k hk => ?_, fun B hB => ?_⟩
 · have a1 := heap_setCell_same w g 0 _ _ y0 h
   exact heap_setCell_same _ g 1 _ _ y1 a1
 · exact (Below.heap_setCell _ ⟨g, 1, none⟩ y1 k hk).trans (Below.heap_setCell _ ⟨g, 0, none⟩ y0 k hk)
 · exact ((Below.refl B w).setCell (by show B ≤ g; omega) y0).setCell (by show B ≤ g; omega) y1
theorem best_ok {f : List Int} {n : Nat} {L : List Nat} {ps : List Nat} {cls : Nat → List Int} (hl : ∀ p ∈ ps, (cls p).length = n) (hp : ps.Pairwise (· < ·)) (hf : Far n (yw ps cls) (fun i => i ∈ L) (fun i => f.getD i 0)) {i d : Nat} (hi : i < n) (hd : f.getD i 0 = (d : Int) + 1) :
  (xm f (d : Int) n (ya ps cls i)).1 < n ∧ f.getD (xm f (d : Int) n (ya ps cls i)).1 0 = (d : Int) := by
 obtain ⟨k, hk, ha, he⟩ := hf.step i hi (by show 0 < f.getD i 0; omega)
 have he' : f.getD k 0 = (d : Int) := by have : f.getD k 0 = f.getD i 0 - 1 := he; omega
 obtain ⟨p, hpp, e⟩ := ha
 have hm : (k, p) ∈ ya ps cls i := (jh hl).2 ⟨hk, hpp, e.symm⟩
 obtain ⟨h1, h2⟩ := Z2 f (d : Int) n (ya ps cls i) (n, 0) (nbr_asc hp i)
 have h3 := h1 _ hm he'
 change (xm f (d : Int) n (ya ps cls i)).1 ≤ k at h3
 refine ⟨by omega, ?_⟩
 rcases h2 with e2 | ⟨_, e2, _⟩
 · exfalso
   have e3 : xm f (d : Int) n (ya ps cls i) = (n, 0) := e2
   rw [e3] at h3
   simp at h3; omega
 · exact e2
set_option maxRecDepth 100000 in
theorem YQ (s : Sy) (hs : LowS s) (hf : xb s.p) (g pt : Int) (set : List Bool) (A SV AV AX AB : Option Addr) (kc ks kv kx kb : Nat) (w : World) (hS : SyAt w w.heap.size A SV AV AX s) (hB0 : BAt w w.heap.size AB set) (hsl : set.length ≤ 1000000) :
  Calls Tryz.prog 27 #[.agg (s.vs_ A kc SV ks AV kv AX kx), .int .i64 g, .int .i64 pt, .slice AB set.length kb] w (RetTA (wF s g pt set) w) := by
 obtain ⟨w1, hw1, d0, d1, hs1, hB⟩ := yj w (s.vs_ A kc SV ks AV kv AX kx) #[.int .i64 pt] 35 3
 have HR := zH (jc s hs hf g set A SV AV AX AB kc ks kv kx kb w1 (hS.up hB) ((hB0.keep hB).more hB.size) hsl)
 have HF := zH (fun h => xy (s := s) (g := g) hf h)
 have HG := zH (fun h => xY (s := s) (g := g) (set := set) h)
 have HE0 : Hid (zt s g set ≠ 0 → wF s g pt set = (([], false), zt s g set)) := fun h => if_pos h
 have HE1 : Hid (zt s g set = 0 → pt < 0 ∨ (ptn s : Int) ≤ pt → wF s g pt set = (([], false), 6)) := fun h h1 => by unfold wF; rw [if_neg (by simpa using h), if_pos h1]
 have HE2 : Hid (∀ (q : Nat) (f : List Int), zt s g set = 0 → q < ptn s → pt = (q : Int) → f.length = ptn s → Far (ptn s) (yw (psG s g) (zY s)) (fun i => i ∈ zS set) (fun i => f.getD i 0) → f.getD q 0 < 0 → wF s g pt set = (([], false), 0)) := fun q f h h1 h2 h3 h4 h5 => by
  subst h2
  unfold wF xf
  rw [if_neg (by simpa using h), if_neg (by omega), kH h3 h4, Int.toNat_natCast, if_pos h5]
 have HE3 : Hid (∀ (q : Nat) (f : List Int), zt s g set = 0 → q < ptn s → pt = (q : Int) → f.length = ptn s → Far (ptn s) (yw (psG s g) (zY s)) (fun i => i ∈ zS set) (fun i => f.getD i 0) → ¬ f.getD q 0 < 0 → wF s g pt set = ((kW f (ptn s) (ya (psG s g) (zY s)) q, true), 0)) := fun q f h h1 h2 h3 h4 h5 => by
  subst h2
  unfold wF xf
  rw [if_neg (by simpa using h), if_neg (by omega), kH h3 h4, Int.toNat_natCast, if_neg h5]
 unfold Zj stC yU at HR
 unfold Sy.vs_ at hw1 d0 HR ⊢
 obtain ⟨r, hr⟩ : ∃ r, zt s g set = r := ⟨_, rfl⟩
 rw [hr] at HR HG HE0 HE1 HE2 HE3
 obtain ⟨R, hRR⟩ : ∃ R, wF s g pt set = R := ⟨_, rfl⟩
 rw [hRR] at HE0 HE1 HE2 HE3 ⊢
 have HW1 := zH hw1
 have HB := zH hB
 have HD1 := zH d1
 have HNB := zH (fun (n i : Nat) (hn : n ≤ 100000) (hi : i < n) (Ap : Option Addr) (kp bC bM : Nat) (ps : List Nat) (hpl : ps.length ≤ 100) (cls : Nat → List Int) (B bx bp : Nat) (X : World) (hx : X.heap[bx]? = some (.cells #[.int .i64 (n : Int), .slice Ap ps.length kp, .map (some bC), .map (some bM)] 126 (0, 0)))
  (hp : X.heap[bp]? = some (.cells #[.int .i64 (i : Int)] 3 (0, 0))) (hS : StAt X B Ap bC bM n ps cls) (hB : B ≤ X.heap.size) => ZH n i hn hi Ap kp bC bM ps hpl cls B bx bp X hx hp hS hB)
 have HNA := zH (fun (n : Nat) (Ap : Option Addr) (m kp bC bM : Nat) (i : Int) (X : World) => Xm n Ap m kp bC bM i X)
 unfold stC at HNA
 obtain ⟨p0, p1, p2, p3, p4, p5, p6, p7, p8, p9⟩ := zx d0
 have q1 := za d1 0 rfl
 clear hw1 d0 d1 hB hS hr hRR hs hf hB0
 refine yq Tryz.func27 rfl ?_
 simp only [Tryz.ntmps27, List.size_toArray, List.length_cons, List.length_nil, Nat.reduceAdd, Nat.reduceSub, Array.replicate_succ, Array.replicate_zero, List.push_toArray, List.append_toArray, List.nil_append, List.cons_append]
 go_wp2_with fail
 rw [HW1.out]
 go_wp2_with fail
 refine HR.out.mono ?_
 rintro e w2 ⟨hb2, (⟨hne, rfl⟩ | ⟨h0, Ap, kp, bC, bM, AO, cO, rfl, hSO⟩)⟩
 · have HB2 := zH (HB.out.trans (hb2.mono (by omega)))
   have hR : Hid (R = (([], false), r)) := HE0.out hne
   have e0 : (r != 0) = true := by simpa using hne
   clear p0 p1 p2 p3 p4 p5 p6 p7 p8 p9 q1 hb2 HR HW1 HF HE0 HE1 HE2 HE3 hne HG HNB HNA HD1
   go_wp2_with fail
   obtain ⟨w3, hw3, d3, hs3, hB3⟩ := zi w2 #[.int .i64 0, .slice none 0 0, .map none, .map none] 126
   rw [hw3]
   go_wp2_with fail
   refine yS (Marks.nil w.heap.size w3) (v := .tuple #[.slice none 0 0, .bool false, .int .i64 r]) (fun W => by kernel_rfl) ?_
   intro X hX
   rw [hR.out]
   exact ⟨none, 0, rfl, Nat.le_refl _, Nat.zero_le _, TAt.nil _ _ _, (HB2.out.trans (hB3.mono HB2.out.size)).trans hX.below⟩
 · have HB2 := zH (HB.out.trans (hb2.mono (by omega)))
   have HSO := zH hSO
   have hR1 : Hid (pt < 0 ∨ (ptn s : Int) ≤ pt → R = (([], false), 6)) := HE1.out h0
   have hR2 := zH (fun (q : Nat) (f : List Int) => HE2.out q f h0)
   have hR3 := zH (fun (q : Nat) (f : List Int) => HE3.out q f h0)
   obtain ⟨g1, g2⟩ := HG.out h0
   obtain ⟨f1, f2, f3⟩ := HF.out g1
   have HFI := zH (fun (X : World) (hX : StAt X X.heap.size Ap bC bM (ptn s) (psG s g) (zY s)) (hI : IAt X X.heap.size AO (zM (zS set))) => gV (ptn s) f1 (by omega) Ap kp bC bM (psG s g) (by omega) (zY s) (zS set) (Js g2) (by have := gA set; omega) AO cO X hX hI)
   have HLN : Hid (∀ p ∈ psG s g, (zY s p).length = ptn s) := fun p _ => hU s p
   have HAS : Hid ((psG s g).Pairwise (· < ·)) := psG_asc s g
   unfold stC at HFI
   subst h0
   have d1 := (hb2.block _ (by omega : w.heap.size + 1 < w1.heap.size)).trans HD1.out
   have HD2 := zH d1
   obtain ⟨PN, hPN⟩ : ∃ PN, ptn s = PN := ⟨_, rfl⟩
   obtain ⟨PS, hPS⟩ : ∃ PS, psG s g = PS := ⟨_, rfl⟩
   obtain ⟨CLS, hCLS⟩ : ∃ CLS, zY s = CLS := ⟨_, rfl⟩
   obtain ⟨OL, hOL⟩ : ∃ OL, zS set = OL := ⟨_, rfl⟩
   rw [hPN, hPS, hCLS, hOL] at hR2 hR3 HFI HSO
   rw [hPN, hPS, hCLS] at HLN
   rw [hPN] at hR1 f1 f2
   rw [hPS] at f3 HAS
   have HPN := zH hPN
   have HPS := zH hPS
   have HOL := zH hOL
   have hb2s := hb2.size
   have HB12 := zH hb2
   clear p0 p1 p2 p3 p4 p5 p6 p7 p8 p9 q1 hb2 HR HW1 HF HE0 HE1 HE2 HE3 hPN hPS hCLS hOL g1 g2 HG hSO d1 HD1
   go_upto_region 2 with fail
   rw [HPN.out, HPS.out, HOL.out]
   obtain ⟨w3, hw3, d3, hs3, hB3⟩ := zi w2 #[.int .i64 (PN : Int), .slice Ap PS.length kp, .map (some bC), .map (some bM)] 126
   rw [hw3]
   have x0 := za d3 0 rfl
   have x1 := za d3 1 rfl
   have x2 := za d3 2 rfl
   have x3 := za d3 3 rfl
   have HX3 := zH d3
   have HB23 := zH hB3
   have d1 := (hB3.block _ (zd HD2.out)).trans HD2.out
   have HD3 := zH d1
   have HB3 := zH (HB2.out.trans (hB3.mono HB2.out.size))
   have q1 := za d1 0 rfl
   clear hw3 d3 hB3 HD2 d1 HB2 HPN HPS HOL
   by_cases hpt : pt < 0 ∨ (PN : Int) ≤ pt
   case pos =>
    have hR : Hid (R = (([], false), 6)) := hR1.out hpt
    clear hR1 hR2 hR3 HFI HNB HNA
    by_cases h1 : pt < 0
    · go_wp2_with fail
      refine yS (Marks.nil w.heap.size w3) (v := .tuple #[.slice none 0 0, .bool false, .int .i64 6]) (fun W => by kernel_rfl) ?_
      intro X hX
      rw [hR.out]
      exact ⟨none, 0, rfl, Nat.le_refl _, Nat.zero_le _, TAt.nil _ _ _, HB3.out.trans hX.below⟩
    · have h2 : (PN : Int) ≤ pt := by omega
      go_wp2_with fail
      refine yS (Marks.nil w.heap.size w3) (v := .tuple #[.slice none 0 0, .bool false, .int .i64 6]) (fun W => by kernel_rfl) ?_
      intro X hX
      rw [hR.out]
      exact ⟨none, 0, rfl, Nat.le_refl _, Nat.zero_le _, TAt.nil _ _ _, HB3.out.trans hX.below⟩
   case neg =>
   obtain ⟨q0, hq0⟩ := Int.eq_ofNat_of_zero_le (show 0 ≤ pt by omega)
   have h1 : ¬ pt < 0 := by omega
   have h2 : ¬ (PN : Int) ≤ pt := by omega
   have hq1 : q0 < PN := by omega
   have HST3 : Hid (StAt w3 w3.heap.size Ap bC bM PN PS CLS ∧ IAt w3 w3.heap.size AO (zM OL)) := by
    obtain ⟨a1, a2⟩ := HSO.out w3 fun k _ hk => HB23.out.block k hk
    exact ⟨a1.more HB23.out.size, a2.more HB23.out.size⟩
   clear hR1 hpt
   go_wp2_with fail
   refine (HFI.out w3 HST3.out.1 HST3.out.2).mono ?_
   rintro e w4 ⟨f, g4, rfl, hg4, hr4, hl4, hfar, hb4⟩
   go_upto_region 7 with fail
   obtain ⟨w5, hw5, d5, hs5, hB5⟩ := zi w4 #[.slice (some ⟨g4, 0, none⟩) PN PN] 38
   rw [hw5]
   have HB45 := zH hB5
   have HB34 := zH hb4
   have HB35 := zH (hb4.trans (hB5.mono hb4.size))
   have HROW := zH (show RowAt w5 g4 f from (hB5.block _ hr4.lt).trans hr4)
   have HB5 := zH (HB3.out.trans (HB35.out.mono HB3.out.size))
   have HD5 := zH d5
   have d1 := (HB35.out.block _ (zd HD3.out)).trans HD3.out
   have q1 : w5.cell? ⟨w.heap.size + 1, 0, none⟩ = some (.int .i64 (q0 : Int)) := by rw [← hq0]; exact za d1 0 rfl
   have z0 := za d5 0 rfl
   have y0 := HROW.out.cell q0 (by omega)
   rw [← zF (by omega : q0 < f.length) 0] at y0
   have HL4 := zH hl4
   have HFAR := zH hfar
   have HD15 := zH d1
   have hR2' : Hid (f.getD q0 0 < 0 → R = (([], false), 0)) := hR2.out q0 f hq1 hq0 hl4 hfar
   have hR3' : Hid (¬ f.getD q0 0 < 0 → R = ((kW f PN (ya PS CLS) q0, true), 0)) := fun h => hR3.out q0 f hq1 hq0 hl4 hfar (by omega)
   obtain ⟨d, hd⟩ : ∃ d, f.getD q0 0 = d := ⟨_, rfl⟩
   rw [hd] at y0 hR2' hR3'
   have hq00 : (0 : Int) ≤ (q0 : Int) := by omega
   have hq01 : (q0 : Int) < (PN : Int) := by omega
   have HDD := zH hd
   have HQ0 := zH hq0
   have hg4l := HROW.out.lt
   have HSZ : Hid (w.heap.size + 2 ≤ w1.heap.size ∧ w3.heap.size = w2.heap.size + 1 ∧ w5.heap.size = w4.heap.size + 1 ∧ w3.heap.size ≤ w4.heap.size ∧ w1.heap.size ≤ w2.heap.size ∧ w3.heap.size ≤ g4) := by
    have := HB34.out.size
    exact ⟨hs1, hs3, hs5, by omega, hb2s, hg4⟩
   clear hw5 d5 hB5 hb4 hr4 hl4 hfar d1 hR2 hR3 hd hq0 HFI x0 x1 x2 x3 h1 h2 HST3 HD3 hs1 hs3 hs5 hb2s hg4
   by_cases hd0 : d < 0
   case pos =>
    have hR : Hid (R = (([], false), 0)) := hR2'.out hd0
    clear hR2' hR3' HNB HNA
    go_wp2_with fail
    refine yS (Marks.nil w.heap.size w5) (v := .tuple #[.slice none 0 0, .bool false, .int .i64 0]) (fun W => by kernel_rfl) ?_
    intro X hX
    rw [hR.out]
    exact ⟨none, 0, rfl, Nat.le_refl _, Nat.zero_le _, TAt.nil _ _ _, HB5.out.trans hX.below⟩
   case neg =>
   have hR : Hid (R = ((kW f PN (ya PS CLS) q0, true), 0)) := hR3'.out hd0
   clear hR2' hR3'
   go_wp2_with fail
   obtain ⟨m0, hm0⟩ := Int.eq_ofNat_of_zero_le (show 0 ≤ d by omega)
   have HB11 : Hid (w5.heap[w2.heap.size]? = some (.cells #[.int .i64 (PN : Int), .slice Ap PS.length kp, .map (some bC), .map (some bM)] 126 (0, 0))) := (HB35.out.block _ (zd HX3.out)).trans HX3.out
   have HSTD : Hid (∀ W, (∀ k, w.heap.size + 2 ≤ k → k < w5.heap.size → W.heap[k]? = w5.heap[k]?) → StAt W w5.heap.size Ap bC bM PN PS CLS) := fun W h => by
    obtain ⟨a1, a2, a3, a4, a5, a6⟩ := HSZ.out
    refine (HSO.out W fun k h1 h2 => ?_).1.more (by omega)
    exact (h k (by omega) (by omega)).trans ((HB35.out.block k (by omega)).trans (HB23.out.block k h2))
   have HWT0 : Hid (WtIn w.heap.size w5.heap.size w5 q0 w (w5.alloc (.cells #[.int .i64 (q0 : Int), .int .i64 (-1)] 75))) := by
    refine ⟨HB5.out.trans ((zI w5 _).mono HB5.out.size), ?_, fun k _ hk => Below.heap_alloc w5 _ k hk, by simp⟩
    refine (Below.heap_alloc w5 _ _ (zd HD15.out)).trans ?_
    rw [← HQ0.out]; exact HD15.out
   have HO0 : Hid (OwnR kSt (w5.alloc (.cells #[.int .i64 (q0 : Int), .int .i64 (-1)] 75)) w5.heap.size (.slice (some ⟨w5.heap.size, 0, none⟩) 1 1) 1 (kR [((q0 : Int), -1)])) := ownR_one (zh w5 _) (Nat.le_refl _)
   have HL0 : Hid ([((q0 : Int), (-1 : Int))] ++ ZA (jH f PN (ya PS CLS) m0 q0) = kW f PN (ya PS CLS) q0) := by
    unfold kW
    rw [HDD.out, hm0]; rfl
   have hdm : f.getD q0 0 = (m0 : Int) := HDD.out.trans hm0
   have hmP : m0 ≤ PN := by
    have h9 := Yx (f := fun i => f.getD i 0) HFAR.out.step hq1
    change f.getD q0 0 < (PN : Int) at h9
    omega
   have HTOT : Hid ((kW f PN (ya PS CLS) q0).length ≤ PN + 1) := by
    unfold kW ZA
    rw [HDD.out, hm0, List.length_cons, List.length_map, Zv, Int.toNat_natCast]
    show _ ≤ _
    omega
   refine wp_loop_ghost (fun (m : Nat) (a' : Act) (w' : World) => ∃ (ds : List Deferred) (v : Value) (p : Nat) (l : List (Int × Int)) (u16 u18 u19 u20 u21 u22 u23 u24 u25 u26 u27 u28 u29 u30 u31 u32 u33 u34 u35 u36 u37 u38 u39 u40 u41 u42 u43 u44 u45 u46 u47 u48 u49 u50 u51 u52 u53 u54 u55 u56 u57 u58 u79 u80 u81 u82 u83 u84 : Value), (p < PN ∧ Hid (f.getD p 0 = (m : Int)) ∧ Hid (WtIn w.heap.size w5.heap.size w5 p w w') ∧ Hid (OwnR kSt w' w5.heap.size v l.length (kR l)) ∧ Hid (l ++ ZA (jH f PN (ya PS CLS) m p) = kW f PN (ya PS CLS) q0) ∧ Hid (Marks w.heap.size ds w')) ∧ a' = { tmps := #[.agg #[.int .i64 s.p.t.n, .int .i64 s.p.t.ins, .int .i64 s.p.t.outs, .slice A s.p.t.cases.length kc, .int .i64 s.p.a.n, .slice SV s.p.a.sts.length ks, .int .i64 s.p.k, .int .i64 s.n, .slice AV s.vs.length kv, .slice AX s.xs.length kx], .int .i64 g, .int .i64 (q0 : Int), .slice AB set.length kb, .pointer (some ⟨w.heap.size, 0, none⟩), undef, .pointer (some ⟨w.heap.size + 1, 0, none⟩), undef, .slice none 0 0, .bool false, .int .i64 0, .pointer (some ⟨w2.heap.size, 0, none⟩), .slice AO OL.length cO, .int .i64 0, .pointer (some ⟨w4.heap.size, 0, none⟩), v, u16, undef, u18, u19, u20, u21, u22, u23, u24, u25, u26, u27, u28, u29, u30, u31, u32, u33, u34, u35, u36, u37, u38, u39, u40, u41, u42, u43, u44, u45, u46, u47, u48, u49, u50, u51, u52, u53, u54, u55, u56, u57, u58, undef, undef, undef, undef, undef, undef, undef, undef, undef, undef, undef, undef, undef, undef, undef, undef, undef, undef, undef, undef, u79, u80, u81, u82, u83, u84, undef], defers := ds }) m0 ?_ ?_
   · exact ⟨[], _, q0, [((q0 : Int), -1)], _, _, _, _, _, _, _, _, _, _, _, _, _, _, _, _, _, _, _, _, _, _, _, _, _, _, _, _, _, _, _, _, _, _, _, _, _, _, _, _, _, _, _, _, _, _, _, _, ⟨hq1, hdm, HWT0, HO0, HL0, Marks.nil _ _⟩, rfl⟩
   clear HWT0 HO0 HL0 hdm hmP hm0 HDD hd0 y0 z0 q1 hq00 hq01 hq1 HD15 HQ0
   rintro m a' W ⟨ds, v, p, l, u16, u18, u19, u20, u21, u22, u23, u24, u25, u26, u27, u28, u29, u30, u31, u32, u33, u34, u35, u36, u37, u38, u39, u40, u41, u42, u43, u44, u45, u46, u47, u48, u49, u50, u51, u52, u53, u54, u55, u56, u57, u58, u79, u80, u81, u82, u83, u84, ⟨hpn, HM, HW, HO, HL, MK⟩, rfl⟩
   obtain ⟨AQ, cq, rfl, hle, hmx, _⟩ := HO.out.form
   have d1 := HW.out.pt
   obtain ⟨a1, a2, a3, a4, a5, a6⟩ := HSZ.out
   have d14 := (HW.out.old w4.heap.size (by omega) (by omega)).trans HD5.out
   have d11 := (HW.out.old w2.heap.size (by omega) (by omega)).trans HB11.out
   have hrow : RowAt W g4 f := (HW.out.old g4 (by omega) (by omega)).trans HROW.out
   have q1 := za d1 0 rfl
   have z0 := za d14 0 rfl
   have hpf : p < f.length := by rw [HL4.out]; exact hpn
   have y0 := hrow.cell p hpf
   rw [← zF hpf 0, HM.out] at y0
   have hp0 : (0 : Int) ≤ (p : Int) := by omega
   have hp1 : (p : Int) < (PN : Int) := by omega
   have hlen : l.length ≤ PN + 1 := by
    have h1 := HTOT.out
    rw [← HL.out, List.length_append] at h1
    omega
   cases m with
   | zero =>
    have hRl : l = kW f PN (ya PS CLS) q0 := by
     have := HL.out
     simpa [jH, ZA] using this
    have HRL := zH hRl
    clear hRl HNB HNA HSTD d14 d11 hrow hpf d1
    go_wp2_with fail
    refine yS MK.out (v := .tuple #[.slice AQ l.length cq, .bool true, .int .i64 0]) (fun W => by kernel_rfl) ?_
    intro X hX
    rw [hR.out, ← HRL.out]
    refine ⟨AQ, cq, rfl, hle, hmx, ?_, HW.out.below.trans hX.below⟩
    refine TAt.of_own (K := kSt) (base := w5.heap.size) (n := l.length) (c := cq) (Qt HO.out fun k o h1 h2 => hX.same _ _ h1 h2) rfl
   | succ m =>
    have y0 : W.cell? ⟨g4, p, none⟩ = some (.int .i64 ((m : Int) + 1)) := y0
    have HX11 := zH d11
    have HX1 := zH d1
    have HBO := zH (best_ok HLN.out HAS.out HFAR.out hpn HM.out)
    have hWs := HW.out.size
    have c11 := za d11 0 rfl
    clear d14 d11 hrow d1 hle hmx hpf
    go_upto_region 12 with fail
    obtain ⟨W1, hW1, d16, hs16, hb16⟩ := zi W #[.int .i64 (PN : Int), .int .i64 0] 75
    rw [hW1]
    have d11 := (hb16.block _ (zd HX11.out)).trans HX11.out
    have d1 := (hb16.block _ (zd HX1.out)).trans HX1.out
    have x0 := za d11 0 rfl
    have x1 := za d11 1 rfl
    have x2 := za d11 2 rfl
    have x3 := za d11 3 rfl
    have r1 : W1.cell? ⟨w.heap.size + 1, 0, none⟩ = some (.int .i64 (p : Int)) := za d1 0 rfl
    have HW1 := zH (HW.out.on hb16 (by omega))
    have HO1 := zH (HO.out.below hb16 (Nat.le_refl _))
    have HVB : Hid (∀ z, (Value.slice AQ l.length cq).ownBlock = some z → w5.heap.size ≤ z ∧ z < W.heap.size) := HO.out.lt
    have HD16 := zH d16
    have MK1 : Hid (Marks w.heap.size ds W1) := xq (w := W) MK.out fun y hy => (hb16.block y (Array.getElem?_eq_some_iff.1 hy).1).trans hy
    clear hW1 d16 hb16 d11 d1 q1 z0 y0 HW HO MK HX11 HX1 c11
    go_wp2_with fail
    refine (HNA.out PN Ap PS.length kp bC bM (p : Int) W1).mono ?_
    rintro e W3 ⟨rfl, hW3⟩
    obtain ⟨V3, hV3, k0, k1, hs3, hB3⟩ := yj W1 #[.int .i64 (PN : Int), .slice Ap PS.length kp, .map (some bC), .map (some bM)] #[.int .i64 (p : Int)] 126 3
    rw [hW3] at hV3
    subst hV3
    have hs3' : W3.heap.size = W.heap.size + 1 + 2 := by rw [← hW3]; simp; omega
    rw [hs16] at k0 k1 ⊢
    have HW3 := zH (HW1.out.on hB3 (by omega))
    have HO3 := zH (HO1.out.below hB3 (Nat.le_refl _))
    have HD3 := zH ((hB3.block _ (zd HD16.out)).trans HD16.out)
    have MK3 : Hid (Marks w.heap.size ds W3) := xq (w := W1) MK1.out fun y hy => (hB3.block y (Array.getElem?_eq_some_iff.1 hy).1).trans hy
    have HIT := zH (HNB.out PN p (by omega) hpn Ap kp bC bM PS (by omega) CLS w5.heap.size (W.heap.size + 1) (W.heap.size + 1 + 1) W3 k0 k1 (HSTD.out W3 HW3.out.old) HW3.out.size)
    clear hW3 k0 k1 hs3 hB3 HD16 MK1 HW1 HO1 x0 x1 x2 x3 r1 HNB HNA hs16
    go_wp2_with fail
    refine qT rfl (enters_of Tryz.func131 (by kernel_rfl) rfl) HIT.out (by rintro x (h | rfl | rfl) <;> omega) (fun _ => rfl)
     (fun (pre : List { x : Nat × Nat // x ∈ ya PS CLS p }) (X : World) => WtIn w.heap.size w5.heap.size w5 p w X ∧ OwnR kSt X w5.heap.size (.slice AQ l.length cq) l.length (kR l) ∧ X.heap[W.heap.size]? = some (.cells #[.int .i64 (((xm f (m : Int) PN (pre.map (·.1))).1 : Nat) : Int), .int .i64 (((xm f (m : Int) PN (pre.map (·.1))).2 : Nat) : Int)] 75 (0, 0)) ∧ W3.heap.size ≤ X.heap.size ∧ (∀ y : Nat, W3.heap[y]? = some (Obj.deferred (some [])) → X.heap[y]? = some (Obj.deferred (some []))))
     (fun _ _ _ => False)
     ?hI (fun _ _ _ _ _ h _ _ => h)
     ⟨HW3.out, HO3.out, HD3.out, Nat.le_refl _, fun _ h => h⟩ (fun x => #[.int .i64 x.1, .int .i64 x.2]) 75 ?a1 ?assign ?body ?done ?stop (fun _ _ h => h.2.2.2.1)
    case hI =>
     rintro pre X X' row ⟨k1, k2, k3, k4, k5⟩ hg hr
     refine ⟨k1.turn hg (fun r e => by have := (hr r e).1; omega) (by omega), jx k2 fun z e => ?_, (grownBy_keeps_cells hg (fun r e => (hr r e).2) k3 rfl).trans k3, Nat.le_trans k4 hg.size, fun y hy => ?_⟩
     · have h2 := k2.lt z e
       exact hg.block z h2.2 (fun e2 => by have h3 := (hr z e2.symm).1; have h4 := (HVB.out z e).2; omega)
     · have hy2 := k5 y hy
       have hyl := (Array.getElem?_eq_some_iff.1 hy).1
       exact (hg.block y (by omega) (fun e => by have := (hr y e.symm).1; omega)).trans hy2
    case assign =>
     intro l9 pre x X K' hI hK
     obtain ⟨g', hg'⟩ : ∃ g', g' = X.heap.size := ⟨_, rfl⟩
     obtain ⟨k1, k2, k3, k4, k5⟩ := hI
     have HK := zH (hK g' hg' ⟨k1.on (zI X _) (by omega), k2.below (zI X _) (Nat.le_refl _), ye k3 _, by simp; omega, fun y hy => (Below.heap_alloc X _ y (Array.getElem?_eq_some_iff.1 (k5 y hy)).1).trans (k5 y hy)⟩)
     have HG := zH hg'
     clear hK hg' k1 k2 k3 k4 k5
     gi_wp2
     rw [← HG.out]
     exact HK.out
    case body =>
     rintro l9 pre x g9 W4 hg9 hgb ⟨k1, k2, k3, k4, k5⟩ hlt
     obtain ⟨t, ht⟩ : ∃ t, x.1.1 = t := ⟨_, rfl⟩
     obtain ⟨c, hc⟩ : ∃ c, x.1.2 = c := ⟨_, rfl⟩
     obtain ⟨hm1, _, _⟩ := (jh HLN.out).1 x.2
     rw [ht] at hm1 hgb
     rw [hc] at hgb
     have hbs : xm f (m : Int) PN ((pre ++ [x]).map (·.1)) = xK f (m : Int) (xm f (m : Int) PN (pre.map (·.1))) (t, c) := by
      rw [List.map_append, List.map_cons, List.map_nil, Q5, show x.1 = (t, c) from Prod.ext ht hc]
     have hble : (xm f (m : Int) PN (pre.map (·.1))).1 ≤ PN := YH f _ PN _ _
     obtain ⟨bb, hbb⟩ : ∃ bb, xm f (m : Int) PN (pre.map (·.1)) = bb := ⟨_, rfl⟩
     rw [hbb] at hbs k3 hble
     have d14 := (k1.old w4.heap.size (by omega) (by omega)).trans HD5.out
     have hrow : RowAt W4 g4 f := (k1.old g4 (by omega) (by omega)).trans HROW.out
     have htf : t < f.length := by rw [HL4.out]; exact hm1
     have hpf : p < f.length := by rw [HL4.out]; exact hpn
     have u0 : W4.drew.cell? ⟨w4.heap.size, 0, none⟩ = some (.slice (some ⟨g4, 0, none⟩) PN PN) := za d14 0 rfl
     have u1 : W4.drew.cell? ⟨g9, 0, none⟩ = some (.int .i64 (t : Int)) := za hgb 0 rfl
     have u2 : W4.drew.cell? ⟨g4, t, none⟩ = some (.int .i64 (f.getD t 0)) := by rw [zF htf]; exact hrow.cell t htf
     have u3 : W4.drew.cell? ⟨w.heap.size + 1, 0, none⟩ = some (.int .i64 (p : Int)) := za k1.pt 0 rfl
     have u4 : W4.drew.cell? ⟨g4, p, none⟩ = some (.int .i64 ((m : Int) + 1)) := by
      have := hrow.cell p hpf
      rw [← zF hpf 0, HM.out] at this
      exact this
     have u5 : W4.drew.cell? ⟨W.heap.size, 0, none⟩ = some (.int .i64 (bb.1 : Int)) := za k3 0 rfl
     have hwr : IntKind.i64.wrap (m : Int) = (m : Int) := by
      have h9 := Yx (f := fun i => f.getD i 0) HFAR.out.step hpn
      change f.getD p 0 < (PN : Int) at h9
      rw [HM.out] at h9
      rw [IntKind.wrap_i64]; omega
     have hft : Hid (∀ b : Nat × Nat, xK f (m : Int) b (t, c) = if f.getD t 0 = (m : Int) ∧ t < b.1 then (t, c) else b) := fun _ => rfl
     obtain ⟨ft, hft0⟩ : ∃ ft, f.getD t 0 = ft := ⟨_, rfl⟩
     rw [hft0] at u2 hft
     have ht0 : (0 : Int) ≤ (t : Int) := by omega
     have ht1 : (t : Int) < (PN : Int) := by omega
     have HBS := zH hbs
     have K1 := zH k1
     have K2 := zH k2
     have K3 := zH k3
     have K5 := zH k5
     have K4 := zH k4
     have HGB := zH hgb
     have hbelow : Hid (Below w5.heap.size W4 W4.drew) := (Below.refl _ W4).drew
     by_cases e1 : ft = (m : Int)
     · subst e1
       by_cases e2 : t < bb.1
       · have hnew : Hid (xm f (m : Int) PN ((pre ++ [x]).map (·.1)) = (t, c)) := HBS.out.trans ((hft.out bb).trans (if_pos ⟨rfl, e2⟩))
         have e3 : (t : Int) < (bb.1 : Int) := by omega
         have u6 : W4.drew.cell? ⟨g9, 1, none⟩ = some (.int .i64 (c : Int)) := za hgb 1 rfl
         have u7 : W4.drew.cell? ⟨W.heap.size, 1, none⟩ = some (.int .i64 (bb.2 : Int)) := za k3 1 rfl
         have f5 : W4.drew.frozen? ⟨W.heap.size, 0, none⟩ = false := zb k3 0
         have f7 : W4.drew.frozen? ⟨W.heap.size, 1, none⟩ = false := zb k3 1
         have l5 : W.heap.size < W4.drew.heap.size := zd k3
         clear k1 k2 k3 k5 hgb hbs hft d14 hrow htf hpf hft0 HBS hlt HIT HBO hm1
         gi_wp2_with fail
         refine yY [(0, true), (1, true), (2, true), (3, true), (4, true), (5, true), (6, true), (7, true), (8, true), (9, true), (10, true), (11, true), (12, true), (13, true), (14, true), (15, true), (16, true), (17, true)] (fun X => X = W4.drew) (by kernel_rfl) (by kernel_rfl) (by kernel_rfl) (by rintro ⟨_, _, h⟩; exact h) rfl ?_
         repeat
          apply zA rfl
          · rintro K' hK' X rfl
            go_simp
            exact hK'
         refine zG ?_
         have K3d : Hid (W4.drew.heap[W.heap.size]? = some (.cells #[.int .i64 (bb.1 : Int), .int .i64 (bb.2 : Int)] 75 (0, 0))) := K3.out
         have K1d := zH (K1.out.free hbelow.out (by omega))
         have K2d : Hid (OwnR kSt W4.drew w5.heap.size (.slice AQ l.length cq) l.length (kR l)) := K2.out
         have K5d : Hid (∀ y : Nat, W3.heap[y]? = some (Obj.deferred (some [])) → W4.drew.heap[y]? = some (Obj.deferred (some []))) := K5.out
         have s5 : Hid (W4.drew.heap.size = W4.heap.size) := rfl
         have o5 : Hid (∀ k : Nat, W4.drew.heap[k]? = W4.heap[k]?) := fun _ => rfl
         obtain ⟨W5, hW5⟩ : ∃ W5, W4.drew = W5 := ⟨_, rfl⟩
         rw [hW5] at u1 u5 u6 u7 f5 f7 l5 K3d K1d K2d K5d s5 o5 ⊢
         clear hW5 u0 u2 u3 u4 K1 K2 K5 hbelow
         gi_wp2_with fail
         obtain ⟨Wf, hWf, r1, r2, r3⟩ := set2 (w := W5) (g := W.heap.size) K3d.out (.int .i64 (t : Int)) (.int .i64 (c : Int))
         rw [hWf]
         have hsf : Wf.heap.size = W4.heap.size := by rw [← hWf, ← s5.out]; simp [World.setCell]
         refine ⟨⟨by omega, fun k o _ hk ho => (r2 k (by rintro rfl; rw [K3.out] at hk; cases hk; cases ho)).trans ((o5.out k).trans hk)⟩, ⟨by omega, fun k hk hl => (r2 k (by
          have hk' : k < w5.heap.size ∨ k = W.heap.size + 1 ∨ k = W.heap.size + 1 + 1 := hk
          omega)).trans (o5.out k)⟩, K1d.out.free (r3 _ (by omega)) (by omega), jx K2d.out fun z e => r2 z (by have := (HVB.out z e).2; omega), ?_, by omega, fun y hy => (r2 y (by rintro rfl; have h2 := K5d.out _ hy; rw [K3d.out] at h2; cases h2)).trans (K5d.out y hy)⟩
         rw [hnew.out]
         exact r1
       · have hnew : Hid (xm f (m : Int) PN ((pre ++ [x]).map (·.1)) = bb) := HBS.out.trans ((hft.out bb).trans (if_neg (fun h => e2 h.2)))
         have e3 : ¬ (t : Int) < (bb.1 : Int) := by omega
         clear k1 k2 k3 k5 hgb hbs hft d14 hrow htf hpf hft0 HBS hlt HIT HBO hm1
         gi_wp2_with fail
         refine yY [(0, true), (1, true), (2, true), (3, true), (4, true), (5, true), (6, true), (7, true), (8, true), (9, true), (10, true), (11, true), (12, true), (13, true), (14, true), (15, true), (16, true), (17, true)] (fun X => X = W4.drew) (by kernel_rfl) (by kernel_rfl) (by kernel_rfl) (by rintro ⟨_, _, h⟩; exact h) rfl ?_
         repeat
          apply zA rfl
          · rintro K' hK' X rfl
            go_simp
            exact hK'
         refine zG ?_
         gi_wp2_with fail
         refine ⟨⟨Nat.le_refl _, fun _ _ _ h _ => h⟩, ⟨Nat.le_refl _, fun _ _ _ => rfl⟩, K1.out.free hbelow.out (by omega), K2.out, ?_, K4.out, K5.out⟩
         rw [hnew.out]
         exact K3.out
     · have hnew : Hid (xm f (m : Int) PN ((pre ++ [x]).map (·.1)) = bb) := HBS.out.trans ((hft.out bb).trans (if_neg (fun h => e1 h.1)))
       have e3 : (ft == (m : Int)) = false := by simpa using e1
       clear k1 k2 k3 k5 hgb hbs hft d14 hrow htf hpf hft0 HBS hlt HIT HBO hm1
       gi_wp2_with fail
       refine yY [(0, true), (1, true), (2, true), (3, true), (4, true), (5, true), (6, true), (7, true), (8, true), (9, true), (10, true), (11, true), (12, true), (13, true), (14, true), (15, true), (16, true), (17, true)] (fun X => X = W4.drew) (by kernel_rfl) (by kernel_rfl) (by kernel_rfl) (by rintro ⟨_, _, h⟩; exact h) rfl ?_
       repeat
        apply zA rfl
        · rintro K' hK' X rfl
          go_simp
          exact hK'
       refine zG ?_
       gi_wp2_with fail
       refine ⟨⟨Nat.le_refl _, fun _ _ _ h _ => h⟩, ⟨Nat.le_refl _, fun _ _ _ => rfl⟩, K1.out.free hbelow.out (by omega), K2.out, ?_, K4.out, K5.out⟩
       rw [hnew.out]
       exact K3.out
    case done =>
     rintro D ys W4 hD hys ⟨k1, k2, k3, k4, k5⟩ hDk
     rw [hys] at k3
     obtain ⟨hbl1, hbl2⟩ := HBO.out
     have hHL := HL.out
     have hwk : jH f PN (ya PS CLS) (m + 1) p = xm f (m : Int) PN (ya PS CLS p) :: jH f PN (ya PS CLS) m (xm f (m : Int) PN (ya PS CLS p)).1 := rfl
     rw [hwk] at hHL
     obtain ⟨bb, hbb⟩ : ∃ bb, xm f (m : Int) PN (ya PS CLS p) = bb := ⟨_, rfl⟩
     rw [hbb] at k3 hbl1 hbl2 hHL
     have HL2 : Hid ((l ++ [((bb.1 : Int), (bb.2 : Int))]) ++ ZA (jH f PN (ya PS CLS) m bb.1) = kW f PN (ya PS CLS) q0) := by
      show _ = _
      rw [← hHL, List.append_assoc]; rfl
     have MK4 : Hid (Marks w.heap.size ({ target := .collected D, args := #[] } :: ds) W4) := Marks.cons MK3.out (fun y hy => k5 y hy) HW3.out.below.size hD hDk
     have K1 := zH k1
     have K2 := zH k2
     have K3 := zH k3
     have HBL2 := zH hbl2
     have hb0 : (0 : Int) ≤ (bb.1 : Int) := by omega
     clear k1 k2 k3 k5 hys hHL hwk hbb HBO HIT hDk hbl2 HL MK3
     try dsimp only
     go_wp2_with fail
     refine zr [(0, true), (1, true), (4, true), (5, true), (2, false), (3, false), (6, false), (7, false)] (fun X => X.heap[W.heap.size]? = some (.cells #[.int .i64 (bb.1 : Int), .int .i64 (bb.2 : Int)] 75 (0, 0))) (by kernel_rfl) (by kernel_rfl) K3.out ?_
     repeat
      apply zA rfl
      · rintro K' hK' X u0
        have u1 : X.cell? ⟨W.heap.size, 0, none⟩ = some (.int .i64 (bb.1 : Int)) := za u0 0 rfl
        have u2 : X.cell? ⟨W.heap.size, 1, none⟩ = some (.int .i64 (bb.2 : Int)) := za u0 1 rfl
        clear u0
        go_simp
        exact hK'
     have hW4 := zd K3.out
     refine zC rfl ?_
     intro K' hK'
     go_simp
     obtain ⟨V1, hV1, e1, hz1, hv1⟩ := Jr W4 #[.int .i64 (bb.1 : Int), .int .i64 (bb.2 : Int)] 75
     rw [hV1]
     have n1 := (hv1.block _ hW4).trans K3.out
     refine hK' _ _ n1 ?_
     clear hK' K' hV1
     refine zC rfl ?_
     intro K' hK'
     rw [if_pos (by rfl)]
     have HOV1 := zH (K2.out.below hv1 (Nat.le_refl _))
     refine kA kSt_ok (.tmp 79) (.tmp 81) (by rfl) w5.heap.size (.slice AQ l.length cq) l.length (kR l) (by rfl) HOV1.out W4.heap.size #[.int .i64 (bb.1 : Int), .int .i64 (bb.2 : Int)] (by rfl) e1 rfl (by simp [Value.oneCell']) (by omega) (by omega) _ rfl ?_
     intro g' cap' V2 hr hg hat hlt2
     have n2 := (hg.block W.heap.size (by omega) (fun e => by have := (HVB.out _ e.symm).2; omega)).trans n1
     refine hK' _ _ n2 ?_
     clear hK' K'
     refine zC rfl ?_
     intro K' hK'
     go_simp
     refine hK' _ _ n2 ?_
     clear hK' K'
     have hBV : Below w5.heap.size W4 V2 := (hv1.mono (by omega)).grown hg (by omega) (fun k e => (HVB.out k e).1)
     have HWV := zH (K1.out.free hBV (by omega))
     have c1 : V2.cell? ⟨w.heap.size + 1, 0, none⟩ = some (.int .i64 (p : Int)) := za HWV.out.pt 0 rfl
     have fz1 := zb HWV.out.pt 0
     have lz1 := zd HWV.out.pt
     refine yW rfl (by kernel_rfl) ?_
     intro K' hK'
     go_simp
     refine hK' (fun _ => True) _ _ trivial ?_
     refine zG ?_
     clear hK' K'
     have HWM := zH (HWV.out.move bb.1 (by omega))
     have HOM : Hid (OwnR kSt (V2.setCell ⟨w.heap.size + 1, 0, none⟩ (.int .i64 (bb.1 : Int))) w5.heap.size (.slice (some ⟨g', 0, none⟩) (l.length + 1) cap') (l ++ [((bb.1 : Int), (bb.2 : Int))]).length (kR (l ++ [((bb.1 : Int), (bb.2 : Int))]))) := by
      rw [Hid, JZ, List.length_append, List.length_singleton]
      refine jx hr fun z e => Below.heap_setCell V2 ⟨w.heap.size + 1, 0, none⟩ _ z ?_
      have := (hr.lt z e).1
      show z ≠ w.heap.size + 1
      omega
     have MK5 : Hid (Marks w.heap.size ({ target := .collected D, args := #[] } :: ds) (V2.setCell ⟨w.heap.size + 1, 0, none⟩ (.int .i64 (bb.1 : Int)))) := xq (w := W4) MK4.out fun y hy => by
      have h1 := (hv1.block y (Array.getElem?_eq_some_iff.1 hy).1).trans hy
      have h2 := (hg.block y (by have := (Array.getElem?_eq_some_iff.1 hy).1; omega) (fun e => ownR_ne HOV1.out h1 e.symm)).trans h1
      refine (Below.heap_setCell V2 ⟨w.heap.size + 1, 0, none⟩ _ y (fun e => ?_)).trans h2
      have e' : y = w.heap.size + 1 := e
      rw [e', HWV.out.pt] at h2
      cases h2
     clear n1 n2 e1 hr hg hat hlt2 c1 fz1 lz1 HWV hBV HOV1 hv1 K1 K2 K3 MK4
     go_wp2_with fail
     exact ⟨m, Nat.lt_succ_self m, _, _, bb.1, l ++ [((bb.1 : Int), (bb.2 : Int))], _, _, _, _, _, _, _, _, _, _, _, _, _, _, _, _, _, _, _, _, _, _, _, _, _, _, _, _, _, _, _, _, _, _, _, _, _, _, _, _, _, _, _, _, _, _, _, _, ⟨hbl1, HBL2, HWM, HOM, HL2, MK5⟩, rfl⟩
    case stop =>
     intro D c pre X _ _ h
     exact h.elim
end
section
open Go.RowKit Go.Shelf
attribute [local go_sem] Oper.semAt_some
theorem contI_any (A : Option Addr) (cap : Nat) (xs : List Int) (x : Int) (w : World) (B : Nat) (hA : IAt w B A xs) (hl : xs.length ≤ 17592186044416) :
  Calls Tryz.prog 76 #[.slice A xs.length cap, .int .i64 x] w fun e w' => e = .returned (.bool (decide (x ∈ xs))) ∧ w' = w := by
 by_cases h0 : xs.length = 0
 · have e1 : xs = [] := List.eq_nil_of_length_eq_zero h0
   subst e1
   exact (Tryz.slices_Contains_int_empty A cap x w).mono fun e w' h => ⟨by simpa using h.1, h.2⟩
 · obtain ⟨b, o, rfl, hb, hc⟩ := hA (by omega)
   refine (Tryz.slices_Contains_int b o xs.length cap xs x w (Nat.le_refl _) (by omega) (fun j hj => ?_)).mono fun e w' h => ⟨?_, h.2⟩
   · rw [List.getD_eq_getElem?_getD, List.getElem?_eq_getElem hj]; exact hc j hj
   · rw [h.1, List.take_length]
     exact zj (by rw [Bool.eq_iff_iff]; simp)
theorem J8 (F : Nat → Int) (m k : Nat) (hm : 0 < m) : qf F m k = if F k ≠ 0 then F k else qf F (m - 1) (k + 1) := by
 obtain ⟨m, rfl⟩ : ∃ m', m = m' + 1 := ⟨m - 1, by omega⟩
 rfl
set_option maxRecDepth 100000 in
theorem wH (s : Sy) (hs : LowS s) (hf : xb s.p) (g : Int) (set : List Bool) (walk : List (Int × Int)) (A SV AV AX AB AT : Option Addr) (kc ks kv kx kb kt : Nat) (w : World) (hS : SyAt w w.heap.size A SV AV AX s) (hB0 : BAt w w.heap.size AB set) (hT0 : TAt w w.heap.size AT walk) (hsl : set.length ≤ 1000000) (htl : walk.length ≤ 1000000) :
  Calls Tryz.prog 31 #[.agg (s.vs_ A kc SV ks AV kv AX kx), .int .i64 g, .slice AB set.length kb, .slice AT walk.length kt] w fun e w' => e = .returned (.int .i64 (qV s g set walk)) ∧ Below w.heap.size w w' := by
 obtain ⟨w1, hw1, d0, hs1, hB⟩ := zi w (s.vs_ A kc SV ks AV kv AX kx) 35
 have HR := zH (jc s hs hf g set A SV AV AX AB kc ks kv kx kb w1 (hS.up hB) ((hB0.keep hB).more hB.size) hsl)
 have HF := zH (fun h => xy (s := s) (g := g) hf h)
 have HG := zH (fun h => xY (s := s) (g := g) (set := set) h)
 have HE0 : Hid (zt s g set ≠ 0 → qV s g set walk = zt s g set) := fun h => if_pos h
 have HE1 : Hid (zt s g set = 0 → walk.length = 0 → qV s g set walk = 16) := fun h h1 => by unfold qV; rw [if_neg (by simpa using h), if_pos h1]
 have HE2 : Hid (zt s g set = 0 → walk.length ≠ 0 → 65536 < walk.length → qV s g set walk = 5) := fun h h1 h2 => by unfold qV; rw [if_neg (by simpa using h), if_neg h1, if_pos h2]
 have HE3 : Hid (zt s g set = 0 → walk.length ≠ 0 → ¬ 65536 < walk.length → qV s g set walk = if qf (Z6 (ptn s) (psG s g) (zY s) walk) walk.length 0 ≠ 0 then qf (Z6 (ptn s) (psG s g) (zY s) walk) walk.length 0
   else if set.getD (walk.getD (walk.length - 1) (0, 0)).1.toNat false = true then 18 else 0) := fun h h1 h2 => by unfold qV; rw [if_neg (by simpa using h), if_neg h1, if_neg h2]
 unfold Zj stC yU at HR
 unfold Sy.vs_ at hw1 d0 HR ⊢
 obtain ⟨r, hr⟩ : ∃ r, zt s g set = r := ⟨_, rfl⟩
 rw [hr] at HR HG HE0 HE1 HE2 HE3
 obtain ⟨R, hRR⟩ : ∃ R, qV s g set walk = R := ⟨_, rfl⟩
 rw [hRR] at HE0 HE1 HE2 HE3 ⊢
 have HW1 := zH hw1
 have HB := zH hB
 have HBB := zH hB0
 have HTT := zH hT0
 obtain ⟨p0, p1, p2, p3, p4, p5, p6, p7, p8, p9⟩ := zx d0
 clear hw1 d0 hB hS hr hRR hs hf hB0 hT0
 go_enter Tryz.func31, Tryz.ntmps31
 go_wp2_with fail
 rw [HW1.out]
 go_wp2_with fail
 refine HR.out.mono ?_
 rintro e w2 ⟨hb2, (⟨hne, rfl⟩ | ⟨h0, Ap, kp, bC, bM, AO, cO, rfl, hSO⟩)⟩
 · have HB2 := zH (HB.out.trans (hb2.mono (by omega)))
   have hR : Hid (R = r) := HE0.out hne
   have e0 : (r != 0) = true := by simpa using hne
   clear p0 p1 p2 p3 p4 p5 p6 p7 p8 p9 hb2 HR HW1 HF HE0 HE1 HE2 HE3 hne HG
   go_wp2_with fail
   obtain ⟨w3, hw3, d3, hs3, hB3⟩ := zi w2 #[.int .i64 0, .slice none 0 0, .map none, .map none] 126
   rw [hw3]
   go_wp2_with fail
   go_ret
   exact ⟨by rw [hR.out]; rfl, HB2.out.trans (hB3.mono HB2.out.size)⟩
 · have HB2 := zH (HB.out.trans (hb2.mono (by omega)))
   have HSO := zH hSO
   have hR1 : Hid (walk.length = 0 → R = 16) := HE1.out h0
   have hR2 : Hid (walk.length ≠ 0 → 65536 < walk.length → R = 5) := HE2.out h0
   have hR3 := zH (HE3.out h0)
   obtain ⟨g1, g2⟩ := HG.out h0
   obtain ⟨f1, f2, f3⟩ := HF.out g1
   have HLN : Hid (∀ p, (zY s p).length = ptn s) := fun p => hU s p
   subst h0
   obtain ⟨PN, hPN⟩ : ∃ PN, ptn s = PN := ⟨_, rfl⟩
   obtain ⟨PS, hPS⟩ : ∃ PS, psG s g = PS := ⟨_, rfl⟩
   obtain ⟨CLS, hCLS⟩ : ∃ CLS, zY s = CLS := ⟨_, rfl⟩
   rw [hPN, hPS, hCLS] at hR3 HSO
   rw [hPN, hCLS] at HLN
   rw [hPN] at f1 f2 g2
   rw [hPS] at f3
   have HPN := zH hPN
   have HPS := zH hPS
   have hb2s := hb2.size
   clear p0 p1 p2 p3 p4 p5 p6 p7 p8 p9 hb2 HR HW1 HF HE0 HE1 HE2 HE3 hPN hPS hCLS g1 HG hSO
   go_upto_region 2 with fail
   rw [HPN.out, HPS.out]
   obtain ⟨w3, hw3, d3, hs3, hB3⟩ := zi w2 #[.int .i64 (PN : Int), .slice Ap PS.length kp, .map (some bC), .map (some bM)] 126
   rw [hw3]
   have HX3 := zH d3
   have HB3 := zH (HB2.out.trans (hB3.mono HB2.out.size))
   have HST := zH ((HSO.out w3 fun k _ hk => hB3.block k hk).1.more hB3.size)
   clear hw3 d3 hB3 HB2 HPN HPS HSO
   by_cases hl0 : walk.length = 0
   · have hR : Hid (R = 16) := hR1.out hl0
     have e0 : ((walk.length : Int) == 0) = true := by rw [hl0]; rfl
     have e1 : (walk.length : Int) = 0 := by omega
     clear hR1 hR2 hR3
     go_wp2_with fail
     go_ret
     exact ⟨by rw [hR.out]; rfl, HB3.out⟩
   have e0 : ((walk.length : Int) == 0) = false := by rw [beq_eq_false_iff_ne]; omega
   have e1 : ¬ (walk.length : Int) = 0 := by omega
   by_cases hl1 : 65536 < walk.length
   · have hR : Hid (R = 5) := hR2.out hl0 hl1
     have e2 : (65536 : Int) < (walk.length : Int) := by omega
     clear hR1 hR2 hR3
     go_wp2_with fail
     go_ret
     exact ⟨by rw [hR.out]; rfl, HB3.out⟩
   have hR := zH (hR3.out hl0 hl1)
   have e2 : ¬ (65536 : Int) < (walk.length : Int) := by omega
   have HL0 := zH hl0
   have HVS : Hid (∀ i, Z6 PN PS CLS walk i = if (walk.getD i (0, 0)).1 < 0 ∨ (PN : Int) ≤ (walk.getD i (0, 0)).1 then 6 else if i = 0 then (if (walk.getD i (0, 0)).2 ≠ -1 then 3 else 0) else if (walk.getD i (0, 0)).2 ∉ zM PS then 2 else if (CLS (walk.getD i (0, 0)).2.toNat).getD (walk.getD i (0, 0)).1.toNat 0 ≠ (CLS (walk.getD i (0, 0)).2.toNat).getD (walk.getD (i - 1) (0, 0)).1.toNat 0 then 18 else 0) := fun _ => rfl
   obtain ⟨F, hF⟩ : ∃ F, Z6 PN PS CLS walk = F := ⟨_, rfl⟩
   rw [hF] at hR HVS
   clear hR1 hR2 hR3 hF hl0
   go_wp2_with fail
   clear e0 e1 e2
   go_loopw [36] (fun i wr => ∃ k : Nat, k ≤ walk.length ∧ i = .int .i64 (k : Int) ∧ Hid (qf F walk.length 0 = qf F (walk.length - k) k) ∧ Hid (∀ j, j < k → 0 ≤ (walk.getD j (0, 0)).1 ∧ (walk.getD j (0, 0)).1 < (PN : Int)) ∧ Hid (Below w3.heap.size w3 wr)) (fun i _ => walk.length - (intOf i).toNat)
   case atStart => exact ⟨0, by omega, rfl, rfl, fun j hj => absurd hj (by omega), Below.refl _ _⟩
   case round =>
    obtain ⟨k, hk, rfl, hsc, hpv, hb⟩ := hrel
    by_cases hlt : k < walk.length
    · obtain ⟨b, off, eA, hbl, z0, z1⟩ := (HTT.out.keep (HB3.out.trans (hb.out.mono HB3.out.size))).at_ k hlt
      subst eA
      have hsz := hb.out.size
      have hss := J8 F (walk.length - k) k (by omega)
      rw [show walk.length - k - 1 = walk.length - (k + 1) by omega] at hss
      have HSS := zH (hsc.out.trans hss)
      have hfk := HVS.out k
      have hgk : walk.getD k (0, 0) = walk[k] := by rw [List.getD_eq_getElem?_getD, List.getElem?_eq_getElem hlt]; rfl
      rw [hgk] at hfk
      obtain ⟨⟨y0, y1⟩, hy⟩ : ∃ y, walk[k] = y := ⟨_, rfl⟩
      rw [hy] at hfk z0 z1
      have hgk2 : walk.getD k (0, 0) = (y0, y1) := hgk.trans hy
      have HFK := zH hfk
      have HGK := zH hgk2
      have hk0 : (0 : Int) ≤ (k : Int) := by omega
      have hk1 : (k : Int) < (walk.length : Int) := by omega
      simp only at z0 z1
      clear hss hfk hgk hgk2 hy hsc
      go_upto_region 11 with fail
      obtain ⟨W1, hW1, d13, hs13, hb13⟩ := zi wr #[.int .i64 y0, .int .i64 y1] 75
      rw [hW1]
      have HB13 := zH (hb.out.trans (hb13.mono hsz))
      have d9 := (HB13.out.block _ (zd HX3.out)).trans HX3.out
      have x0 := za d9 0 rfl
      have t0 := za d13 0 rfl
      have t1 := za d13 1 rfl
      have HD13 := zH d13
      have HD9 := zH d9
      clear z0 z1 hW1 d13 d9 hb13
      by_cases hr0 : y0 < 0 ∨ (PN : Int) ≤ y0
      · have hfv : F k = 6 := HFK.out.trans (if_pos hr0)
        have hRv : Hid (R = 6) := by
         have h9 := HSS.out
         rw [hfv, if_pos (by decide)] at h9
         rw [Hid, hR.out, h9, if_pos (by decide)]
        clear hR HFK HSS hfv
        by_cases h1 : y0 < 0
        · go_wp2_with fail
          go_ret
          exact ⟨by rw [hRv.out]; rfl, HB3.out.trans (HB13.out.mono HB3.out.size)⟩
        · have h2 : (PN : Int) ≤ y0 := by omega
          go_wp2_with fail
          go_ret
          exact ⟨by rw [hRv.out]; rfl, HB3.out.trans (HB13.out.mono HB3.out.size)⟩
      have h1 : ¬ y0 < 0 := by omega
      have h2 : ¬ (PN : Int) ≤ y0 := by omega
      have HPV2 : Hid (∀ j, j < k + 1 → 0 ≤ (walk.getD j (0, 0)).1 ∧ (walk.getD j (0, 0)).1 < (PN : Int)) := fun j hj => by
       by_cases e : j = k
       · subst e
         rw [HGK.out]
         exact ⟨by show 0 ≤ y0; omega, by show y0 < _; omega⟩
       · exact hpv.out j (by omega)
      have hF1 : F k = if k = 0 then (if y1 ≠ -1 then 3 else 0) else if y1 ∉ zM PS then 2 else if (CLS y1.toNat).getD y0.toNat 0 ≠ (CLS y1.toNat).getD (walk.getD (k - 1) (0, 0)).1.toNat 0 then 18 else 0 := HFK.out.trans (if_neg hr0)
      by_cases hk00 : k = 0
      · subst hk00
        rw [if_pos rfl] at hF1
        by_cases hm : y1 = -1
        · subst hm
          have hfv : F 0 = 0 := hF1
          have HSC2 : Hid (qf F walk.length 0 = qf F (walk.length - (0 + 1)) (0 + 1)) := by
           have h9 := HSS.out
           rwa [hfv, if_neg (by simp)] at h9
          clear HFK HSS hF1 hfv
          go_wp2_with fail
          refine zr [(0, true), (1, true), (2, true), (3, true), (4, true), (5, true), (6, true), (7, true), (8, true), (9, true), (10, true), (11, true), (12, true), (13, true), (14, true), (15, true), (16, true), (17, true), (18, true), (19, true), (20, true), (21, true), (22, true), (23, true), (24, true), (25, true), (26, true), (27, true)] (fun X => X = W1.drew) (by kernel_rfl) (by kernel_rfl) rfl ?_
          repeat
           apply zA rfl
           · rintro K' hK' X rfl
             go_simp
             exact hK'
          refine zG ?_
          have HBd := zH (HB13.out.drew)
          obtain ⟨W5, hW5⟩ : ∃ W5, W1.drew = W5 := ⟨_, rfl⟩
          rw [hW5] at HBd ⊢
          clear hW5
          go_wp2_with fail
          go_roundw
          case rel => exact ⟨0 + 1, by omega, by go_num, HSC2, HPV2, HBd⟩
          case measure => simp [intOf]; omega
        · have hfv : F 0 = 3 := hF1.trans (if_pos hm)
          have hRv : Hid (R = 3) := by
           have h9 := HSS.out
           rw [hfv, if_pos (by decide)] at h9
           rw [Hid, hR.out, h9, if_pos (by decide)]
          have q1 : (y1 != -1) = true := by simpa using hm
          clear HFK HSS hF1 hfv hR
          go_wp2_with fail
          go_ret
          exact ⟨by rw [hRv.out]; rfl, HB3.out.trans (HB13.out.mono HB3.out.size)⟩
      · rw [if_neg hk00] at hF1
        have hkp : (0 : Int) < (k : Int) := by omega
        have hkz : ((k : Int) == 0) = false := by rw [beq_eq_false_iff_ne]; omega
        have hkz2 : ¬ (k : Int) = 0 := by omega
        have hstW := HST.out.keep HB13.out
        have hpc := contI_any Ap kp (zM PS) y1 W1 w3.heap.size hstW.procs (by rw [zw]; omega)
        rw [zw] at hpc
        have HPC := zH hpc
        have x1 := za HD9.out 1 rfl
        have HSTW := zH hstW
        have hp1 := hpv.out (k - 1) (by omega)
        obtain ⟨bt2, ot2, eT2, hbt2, zz0, zz1⟩ := (HTT.out.keep (HB3.out.trans (HB13.out.mono HB3.out.size))).at_ (k - 1) (by omega)
        have hgp : walk.getD (k - 1) (0, 0) = walk[k - 1] := by rw [List.getD_eq_getElem?_getD, List.getElem?_eq_getElem (by omega)]; rfl
        rw [hgp] at hF1 hp1
        obtain ⟨⟨v0, v1⟩, hv⟩ : ∃ v, walk[k - 1] = v := ⟨_, rfl⟩
        rw [hv] at hF1 hp1 zz0 zz1
        simp only at hF1 hp1 zz0 zz1
        cases eT2
        clear hstW hpc zz1 hgp hv
        by_cases hin : y1 ∈ zM PS
        case neg =>
         have hfv : F k = 2 := hF1.trans (if_pos hin)
         have hRv : Hid (R = 2) := by
          have h9 := HSS.out
          rw [hfv, if_pos (by decide)] at h9
          rw [Hid, hR.out, h9, if_pos (by decide)]
         have hdc : decide (y1 ∈ zM PS) = false := decide_eq_false hin
         rw [hdc] at HPC
         clear HFK HSS hF1 hfv hR hin hdc zz0 hp1
         go_wp2_with fail
         refine HPC.out.mono ?_
         rintro e W4 ⟨rfl, rfl⟩
         go_wp2_with fail
         go_ret
         exact ⟨by rw [hRv.out]; rfl, HB3.out.trans (HB13.out.mono HB3.out.size)⟩
        case pos =>
        have hdc : decide (y1 ∈ zM PS) = true := decide_eq_true hin
        rw [hdc] at HPC
        rw [if_neg (not_not_intro hin)] at hF1
        obtain ⟨p, hpm, hpe⟩ : ∃ p, p ∈ PS ∧ (p : Int) = y1 := by simpa [zM] using hin
        subst hpe
        obtain ⟨yn, rfl⟩ := Int.eq_ofNat_of_zero_le (show 0 ≤ y0 by omega)
        obtain ⟨vn, rfl⟩ := Int.eq_ofNat_of_zero_le hp1.1
        rw [Int.toNat_natCast, Int.toNat_natCast, Int.toNat_natCast] at hF1
        have hyl : yn < (CLS p).length := by rw [HLN.out]; omega
        have hvl : vn < (CLS p).length := by rw [HLN.out]; have := hp1.2; omega
        obtain ⟨m1, f1', hM1, hf1⟩ := HSTW.out.cl
        obtain ⟨A1, c1, e1, hI1⟩ := hf1 p hpm
        have hz3 : ∀ W : World, (zeroValue 38).run Tryz.prog W = .ok (.slice none 0 0) W := fun W => by kernel_rfl
        have ht1 : Tryz.prog.underlying 123 = some (.map 3 38) := Tryz.underlying123
        have hlk := (show MapOf (Value.int .i64) W1.drew bC m1 f1' from hM1).look qo ht1 (hz3 _) (p : Int)
        rw [e1] at hlk
        simp only [Option.getD_some] at hlk
        obtain ⟨bc1, oc1, eC1, hbc1, i1⟩ := hI1.at_ yn hyl
        obtain ⟨bc2, oc2, eC2, hbc2, i2⟩ := hI1.at_ vn hvl
        subst eC1
        cases eC2
        rw [← zF hyl 0] at i1
        rw [← zF hvl 0] at i2
        have j1 : W1.drew.cell? ⟨bc1, oc1 + yn, none⟩ = some (.int .i64 ((CLS p).getD yn 0)) := i1
        have j2 : W1.drew.cell? ⟨bc1, oc1 + vn, none⟩ = some (.int .i64 ((CLS p).getD vn 0)) := i2
        have j3 : W1.drew.cell? ⟨b, off + (k - 1) * 2, none⟩ = some (.int .i64 (vn : Int)) := zz0
        have j4 : W1.drew.cell? ⟨wr.heap.size, 0, none⟩ = some (.int .i64 (yn : Int)) := za HD13.out 0 rfl
        have j5 : W1.drew.cell? ⟨wr.heap.size, 1, none⟩ = some (.int .i64 (p : Int)) := za HD13.out 1 rfl
        have j6 : W1.drew.cell? ⟨w2.heap.size, 2, none⟩ = some (.map (some bC)) := za HD9.out 2 rfl
        obtain ⟨q, hq⟩ : ∃ q, (CLS p).getD yn 0 = q := ⟨_, rfl⟩
        obtain ⟨u, hu⟩ : ∃ u, (CLS p).getD vn 0 = u := ⟨_, rfl⟩
        rw [hq] at j1 hF1
        rw [hu] at j2 hF1
        have hwk : IntKind.i64.wrap ((k : Int) - 1) = (k : Int) - 1 := by rw [IntKind.wrap_i64]; omega
        have hk10 : (0 : Int) ≤ (k : Int) - 1 := by omega
        have hk12 : (1 : Int) ≤ (k : Int) := by omega
        have hk11 : (k : Int) - 1 < (walk.length : Int) := by omega
        have hkt : ((k : Int) - 1).toNat = k - 1 := by omega
        have hy00 : (0 : Int) ≤ (yn : Int) := by omega
        have hy01 : (yn : Int) < (PN : Int) := by omega
        have hv00 : (0 : Int) ≤ (vn : Int) := by omega
        have hv01 : (vn : Int) < (PN : Int) := by have := hp1.2; omega
        clear hM1 hf1 e1 hI1 hz3 ht1 i1 i2 zz0 hq hu hyl hvl hin hdc hp1
        by_cases hqu : q = u
        · subst hqu
          have hfv : F k = 0 := hF1.trans (if_neg (by simp))
          have HSC2 : Hid (qf F walk.length 0 = qf F (walk.length - (k + 1)) (k + 1)) := by
           have h9 := HSS.out
           rwa [hfv, if_neg (by simp)] at h9
          clear HFK HSS hF1 hfv
          go_wp2_with fail
          refine HPC.out.mono ?_
          rintro e W4 ⟨rfl, hW4⟩
          obtain rfl := hW4.symm
          go_wp2_with fail
          refine zr [(0, true), (1, true), (2, true), (3, true), (4, true), (5, true), (6, true), (7, true), (8, true), (9, true), (10, true), (11, true), (12, true), (13, true), (14, true), (15, true), (16, true), (17, true), (18, true), (19, true), (20, true), (21, true), (22, true), (23, true), (24, true), (25, true), (26, true), (27, true)] (fun X => X = W1.drew) (by kernel_rfl) (by kernel_rfl) rfl ?_
          repeat
           apply zA rfl
           · rintro K' hK' X rfl
             go_simp
             exact hK'
          refine zG ?_
          have HBd := zH (HB13.out.drew)
          obtain ⟨W5, hW5⟩ : ∃ W5, W1.drew = W5 := ⟨_, rfl⟩
          rw [hW5] at HBd ⊢
          clear j1 j2 j3 j4 j5 j6 hlk hW5
          go_wp2_with fail
          go_roundw
          case rel => exact ⟨k + 1, by omega, by go_num, HSC2, HPV2, HBd⟩
          case measure => simp [intOf]; omega
        · have hfv : F k = 18 := hF1.trans (if_pos hqu)
          have hRv : Hid (R = 18) := by
           have h9 := HSS.out
           rw [hfv, if_pos (by decide)] at h9
           rw [Hid, hR.out, h9, if_pos (by decide)]
          have q1 : (q != u) = true := by simpa using hqu
          clear HFK HSS hF1 hfv hR
          go_wp2_with fail
          refine HPC.out.mono ?_
          rintro e W4 ⟨rfl, hW4⟩
          obtain rfl := hW4.symm
          go_wp2_with fail
          refine zr [(0, true), (1, true), (2, true), (3, true), (4, true), (5, true), (6, true), (7, true), (8, true), (9, true), (10, true), (11, true), (12, true), (13, true), (14, true), (15, true), (16, true), (17, true), (18, true), (19, true), (20, true), (21, true), (22, true), (23, true), (24, true), (25, true), (26, true), (27, true)] (fun X => X = W1.drew) (by kernel_rfl) (by kernel_rfl) rfl ?_
          repeat
           apply zA rfl
           · rintro K' hK' X rfl
             go_simp
             exact hK'
          refine zG ?_
          have HBd := zH (HB13.out.drew)
          obtain ⟨W5, hW5⟩ : ∃ W5, W1.drew = W5 := ⟨_, rfl⟩
          rw [hW5] at HBd ⊢
          clear j1 j2 j3 j4 j5 j6 hlk hW5
          go_wp2_with fail
          go_ret
          exact ⟨by rw [hRv.out]; rfl, HB3.out.trans (HBd.out.mono HB3.out.size)⟩
    · obtain rfl : k = walk.length := by omega
      have hs0 : qf F walk.length 0 = 0 := by
       have h9 := hsc.out
       rw [Nat.sub_self] at h9
       exact h9
      have hRv : R = if set.getD (walk.getD (walk.length - 1) (0, 0)).1.toNat false = true then 18 else 0 := hR.out.trans (by rw [if_neg (by rw [hs0]; simp)])
      have hl0 := HL0.out
      have hp1 := hpv.out (walk.length - 1) (by omega)
      have hgp : walk.getD (walk.length - 1) (0, 0) = walk[walk.length - 1] := by rw [List.getD_eq_getElem?_getD, List.getElem?_eq_getElem (by omega)]; rfl
      obtain ⟨bt2, ot2, eT2, hbt2, zz0, zz1⟩ := (HTT.out.keep (HB3.out.trans (hb.out.mono HB3.out.size))).at_ (walk.length - 1) (by omega)
      rw [hgp] at hRv hp1
      obtain ⟨⟨v0, v1⟩, hv⟩ : ∃ v, walk[walk.length - 1] = v := ⟨_, rfl⟩
      rw [hv] at hRv hp1 zz0 zz1
      simp only at hRv hp1 zz0 zz1
      subst eT2
      obtain ⟨vn, rfl⟩ := Int.eq_ofNat_of_zero_le hp1.1
      rw [Int.toNat_natCast] at hRv
      have hvs : vn < set.length := by have := hp1.2; omega
      obtain ⟨bb1, ob1, eB1, hbb1, yb⟩ := (HBB.out.keep (HB3.out.trans (hb.out.mono HB3.out.size))).at_ vn hvs
      subst eB1
      have hgs : set.getD vn false = set[vn] := by rw [List.getD_eq_getElem?_getD, List.getElem?_eq_getElem hvs]; rfl
      rw [hgs] at hRv
      obtain ⟨bv, hbv⟩ : ∃ bv, set[vn] = bv := ⟨_, rfl⟩
      rw [hbv] at hRv yb
      have HRV := zH hRv
      have hk10 : (0 : Int) ≤ (walk.length : Int) - 1 := by omega
      have hk12 : (1 : Int) ≤ (walk.length : Int) := by omega
      have hk11 : (walk.length : Int) - 1 < (walk.length : Int) := by omega
      have hkt : ((walk.length : Int) - 1).toNat = walk.length - 1 := by omega
      have hv00 : (0 : Int) ≤ (vn : Int) := by omega
      have hv01 : (vn : Int) < (set.length : Int) := by omega
      have hv02 : (vn : Int) < (PN : Int) := hp1.2
      clear hRv hR hsc hpv hgp hv hgs hbv hs0 zz1 hp1 hlt
      cases bv with
      | true =>
       go_wp2_with fail
       go_ret
       exact ⟨by rw [HRV.out]; rfl, HB3.out.trans (hb.out.mono HB3.out.size)⟩
      | false =>
       go_wp2_with fail
       go_ret
       exact ⟨by rw [HRV.out]; rfl, HB3.out.trans (hb.out.mono HB3.out.size)⟩
end
section
open Go.RowKit
attribute [local go_sem] Oper.semAt_some
theorem Xl (a b : Int × Int) (w : World) : (binOp .neq 75 (.agg #[.int .i64 a.1, .int .i64 a.2]) (.agg #[.int .i64 b.1, .int .i64 b.2])).run Tryz.prog w = .ok (.bool (decide (a ≠ b))) w := by
 have hu : Tryz.prog.underlying 75 = some (.struct (Tryz.prog.fieldsOf 75)) := by kernel_rfl
 have hi : Tryz.prog.underlying 3 = some (.int .i64) := Tryz.underlying3
 have hf : (Tryz.prog.fieldsOf 75).toList.map (fun f => (f.name, f.type, f.offset)) = [("Point", 3, 0), ("Proc", 3, 1)] := by kernel_rfl
 have p0 := fun x0 x1 => zL #[x0, x1] 0 x0 rfl w
 have p1 := fun x0 x1 => zL #[x0, x1] 1 x1 rfl w
 have key : (Op.equalIn (9999 + 1) 75 (.agg #[.int .i64 a.1, .int .i64 a.2]) (.agg #[.int .i64 b.1, .int .i64 b.2])).run Tryz.prog w = .ok (decide (a = b)) w := by
  rw [run_equalIn_struct w 9999 75 _ _ hu (by kernel_rfl)]
  generalize (Tryz.prog.fieldsOf 75).toList = fs at hf
  obtain ⟨f0, f1, rfl⟩ : ∃ f0 f1, fs = [f0, f1] := by
   have hl : fs.length = 2 := by simpa using congrArg List.length hf
   rcases fs with _ | ⟨f0, _ | ⟨f1, _ | ⟨f2, r⟩⟩⟩ <;> simp at hl
   exact ⟨_, _, rfl⟩
  clear hu
  simp only [List.map_cons, List.map_nil, List.cons.injEq, Prod.mk.injEq, and_true] at hf
  obtain ⟨⟨n0, t0, o0⟩, ⟨n1, t1, o1⟩⟩ := hf
  have hd : decide (a = b) = (a.1 == b.1 && a.2 == b.2) := by
   obtain ⟨a0, a1⟩ := a
   obtain ⟨b0, b1⟩ := b
   rw [Bool.eq_iff_iff]; simp
  rw [hd]
  cases h0 : (a.1 == b.1) <;> cases h1 : (a.2 == b.2) <;>
   simp only [Op.eqFields, n0, n1, t0, t1, o0, o1, p0, p1, Sem.run_bind, Result.andThen_ok, run_equalIn_int w _ 3 _ _ _ _ hi, h0, h1, ne_eq, not_false_eq_true, if_true, Bool.not_false, Bool.not_true, Bool.false_eq_true, if_false, Sem.run_pure, Bool.true_and, Bool.false_and, String.reduceEq]
 simp only [binOp]
 simp [Op.equal, Op.maxDepth, key]
set_option maxRecDepth 100000 in
theorem wu (A A' : Option Addr) (cap cap' : Nat) (vs us : List Bool) (w : World) (B : Nat) (hB : B ≤ w.heap.size) (hA : BAt w B A vs) (hA' : BAt w B A' us) (hl : vs.length ≤ 1000000) (hl' : us.length ≤ 1000000) :
  Calls Tryz.prog 60 #[.slice A vs.length cap, .slice A' us.length cap'] w fun e w' => e = .returned (.bool (decide (vs = us))) ∧ ∃ n, w' = w.drewN n := by
 by_cases hll : vs.length = us.length
 · have HL := zH hll
   have hl1 : ((vs.length : Int) != (us.length : Int)) = false := by simp [hll]
   clear hll
   go_enter Tryz.func60, Tryz.ntmps60
   go_wp2_with fail
   go_loopw [13] (fun i wr => ∃ k m : Nat, k ≤ vs.length ∧ i = .int .i64 k ∧ wr = w.drewN m ∧ Hid (vs.take k = us.take k)) (fun i _ => vs.length - (intOf i).toNat)
   case atStart => exact ⟨0, 0, by omega, rfl, rfl, by show vs.take 0 = us.take 0; simp⟩
   case round =>
    obtain ⟨k, m, hk, rfl, rfl, hall⟩ := hrel
    have hle : k ≤ us.length := by have := HL.out; omega
    by_cases hlt : k < vs.length
    · have hlt' : k < us.length := by have := HL.out; omega
      obtain ⟨b, off, rfl, hb1, c0⟩ := hA.at_ k hlt
      have hb2 : b < w.heap.size := by omega
      obtain ⟨b', off', rfl, hb1', d0⟩ := hA'.at_ k hlt'
      have hb2' : b' < w.heap.size := by omega
      clear hA hA'
      by_cases hv : vs[k] = us[k]
      · have hz : Hid (vs.take (k + 1) = us.take (k + 1)) := ju hlt hlt' hall.out hv
        obtain ⟨x, hx⟩ : ∃ x, vs[k] = x := ⟨_, rfl⟩
        obtain ⟨y, hy⟩ : ∃ y, us[k] = y := ⟨_, rfl⟩
        rw [hx] at c0 hv
        rw [hy] at d0 hv
        subst hv
        clear hx hy
        have q1 : (x != x) = false := by simp
        have q2 : (x == x) = true := by simp
        go_wp2_with fail
        go_quiet (fail)
        go_wp2_with fail
        go_roundw
        case rel => exact ⟨k + 1, _, by omega, by go_num, rfl, hz⟩
        case measure => simp [intOf]; omega
      · have hz : Hid (decide (vs = us) = false) := decide_eq_false (xX hlt hlt' hv)
        obtain ⟨x, hx⟩ : ∃ x, vs[k] = x := ⟨_, rfl⟩
        obtain ⟨y, hy⟩ : ∃ y, us[k] = y := ⟨_, rfl⟩
        rw [hx] at c0 hv
        rw [hy] at d0 hv
        have q1 : (x != y) = true := by simpa using hv
        have q2 : (x == y) = false := by simpa using hv
        clear hx hy hv
        go_wp2_with fail
        go_quiet (fail)
        go_wp2_with fail
        go_ret
        exact ⟨zj hz.out.symm, _, YB _ _ _⟩
    · obtain rfl : k = vs.length := by omega
      have hz : Hid (decide (vs = us) = true) := decide_eq_true (xZ HL.out hall.out)
      go_wp2_with fail
      go_ret
      exact ⟨zj hz.out.symm, _, rfl⟩
 · have hz : Hid (decide (vs = us) = false) := decide_eq_false (by rintro rfl; exact hll rfl)
   have hl1 : ((vs.length : Int) != (us.length : Int)) = true := by simp; omega
   clear hll
   go_enter Tryz.func60, Tryz.ntmps60
   go_wp2_with fail
   go_ret
   exact ⟨zj hz.out.symm, 0, rfl⟩
set_option maxRecDepth 100000 in
theorem eqT_any (A A' : Option Addr) (cap cap' : Nat) (vs us : List (Int × Int)) (w : World) (B : Nat) (hB : B ≤ w.heap.size) (hA : TAt w B A vs) (hA' : TAt w B A' us) (hl : vs.length ≤ 1000000) (hl' : us.length ≤ 1000000) :
  Calls Tryz.prog 64 #[.slice A vs.length cap, .slice A' us.length cap'] w fun e w' => e = .returned (.bool (decide (vs = us))) ∧ ∃ n, w' = w.drewN n := by
 by_cases hll : vs.length = us.length
 · have HL := zH hll
   have hl1 : ((vs.length : Int) != (us.length : Int)) = false := by simp [hll]
   clear hll
   go_enter Tryz.func64, Tryz.ntmps64
   go_wp2_with fail
   go_loopw [13] (fun i wr => ∃ k m : Nat, k ≤ vs.length ∧ i = .int .i64 k ∧ wr = w.drewN m ∧ Hid (vs.take k = us.take k)) (fun i _ => vs.length - (intOf i).toNat)
   case atStart => exact ⟨0, 0, by omega, rfl, rfl, by show vs.take 0 = us.take 0; simp⟩
   case round =>
    obtain ⟨k, m, hk, rfl, rfl, hall⟩ := hrel
    have hle : k ≤ us.length := by have := HL.out; omega
    by_cases hlt : k < vs.length
    · have hlt' : k < us.length := by have := HL.out; omega
      obtain ⟨b, off, rfl, hb1, c0, c1⟩ := hA.at_ k hlt
      have hb2 : b < w.heap.size := by omega
      obtain ⟨b', off', rfl, hb1', d0, d1⟩ := hA'.at_ k hlt'
      have hb2' : b' < w.heap.size := by omega
      clear hA hA'
      by_cases hv : vs[k] = us[k]
      · have hz : Hid (vs.take (k + 1) = us.take (k + 1)) := ju hlt hlt' hall.out hv
        have heq := fun X : World => Xl vs[k] us[k] X
        rw [← hv] at d0 d1 heq
        rw [decide_eq_false (by simp)] at heq
        obtain ⟨⟨x0, x1⟩, hx⟩ : ∃ x, vs[k] = x := ⟨_, rfl⟩
        rw [hx] at c0 c1 d0 d1 heq
        clear hx hv
        go_wp2_with fail
        go_quiet (fail)
        go_wp2_with fail
        go_roundw
        case rel => exact ⟨k + 1, _, by omega, by go_num, rfl, hz⟩
        case measure => simp [intOf]; omega
      · have hz : Hid (decide (vs = us) = false) := decide_eq_false (xX hlt hlt' hv)
        have heq := fun X : World => Xl vs[k] us[k] X
        rw [decide_eq_true hv] at heq
        obtain ⟨⟨x0, x1⟩, hx⟩ : ∃ x, vs[k] = x := ⟨_, rfl⟩
        obtain ⟨⟨y0, y1⟩, hy⟩ : ∃ y, us[k] = y := ⟨_, rfl⟩
        rw [hx] at c0 c1 heq
        rw [hy] at d0 d1 heq
        clear hx hy hv
        go_wp2_with fail
        go_quiet (fail)
        go_wp2_with fail
        go_ret
        exact ⟨zj hz.out.symm, _, YB _ _ _⟩
    · obtain rfl : k = vs.length := by omega
      have hz : Hid (decide (vs = us) = true) := decide_eq_true (xZ HL.out hall.out)
      go_wp2_with fail
      go_ret
      exact ⟨zj hz.out.symm, _, rfl⟩
 · have hz : Hid (decide (vs = us) = false) := decide_eq_false (by rintro rfl; exact hll rfl)
   have hl1 : ((vs.length : Int) != (us.length : Int)) = true := by simp; omega
   clear hll
   go_enter Tryz.func64, Tryz.ntmps64
   go_wp2_with fail
   go_ret
   exact ⟨zj hz.out.symm, 0, rfl⟩
end
section
open Go.RowKit
attribute [local go_sem] Oper.semAt_some
theorem bidx_any (A : Option Addr) (c : Nat) (bs : List Bool) (hl : bs.length ≤ 1000000) (w : World) (B : Nat) (hA : BAt w B A bs) :
  Calls Tryz.prog 126 #[.slice A bs.length c, .bool true] w fun e w' => ∃ i : Int, e = .returned (.int .i64 i) ∧ (decide (0 ≤ i) = decide (true ∈ bs)) ∧ w = w' := by
 have HA := zH hA
 clear hA
 go_enter Tryz.func126, Tryz.ntmps126
 go_wp2_with fail
 go_loop [8] (fun i => ∃ k : Nat, k ≤ bs.length ∧ i = .int .i64 (k : Int) ∧ Hid (∀ j (h : j < bs.length), j < k → bs[j] = false)) (fun i => bs.length - (intOf i).toNat)
 case atStart => exact ⟨0, by omega, rfl, fun j _ h => absurd h (by omega)⟩
 case round =>
  obtain ⟨k, hk, rfl, hno⟩ := hrel
  by_cases hlt : k < bs.length
  · obtain ⟨b, off, eA, hbl, z0⟩ := HA.out.at_ k hlt
    subst eA
    obtain ⟨x, hx⟩ : ∃ x, bs[k] = x := ⟨_, rfl⟩
    have HX := zH hx
    rw [hx] at z0
    have hk0 : (0 : Int) ≤ (k : Int) := by omega
    have hk1 : (k : Int) < (bs.length : Int) := by omega
    clear hx
    cases x with
    | true =>
     have hin : Hid (true ∈ bs) := by show true ∈ bs; rw [← HX.out]; exact List.getElem_mem hlt
     go_wp2_with fail
     go_ret
     exact ⟨(k : Int), rfl, ⟨fun _ => hin.out, fun _ => hk0⟩, rfl⟩
    | false =>
     have hno2 : Hid (∀ j (h : j < bs.length), j < k + 1 → bs[j] = false) := fun j h h2 => by
      by_cases e : j = k
      · subst e; exact HX.out
      · exact hno.out j h (by omega)
     clear HX hno
     go_wp2_with fail
     go_round
     case rel => exact ⟨k + 1, by omega, by go_num, hno2⟩
     case measure => simp [intOf]; omega
  · obtain rfl : k = bs.length := by omega
    have hni : Hid (true ∉ bs) := fun h => by
     obtain ⟨j, hj, e⟩ := List.getElem_of_mem h
     rw [hno.out j hj hj] at e
     cases e
    go_wp2_with fail
    go_ret
    exact ⟨-1, rfl, ⟨fun h => absurd h (by decide), fun h => absurd h hni.out⟩, rfl⟩
theorem bhas_any (A : Option Addr) (c : Nat) (bs : List Bool) (hl : bs.length ≤ 1000000) (w : World) (B : Nat) (hA : BAt w B A bs) :
  Calls Tryz.prog 63 #[.slice A bs.length c, .bool true] w fun e w' => e = .returned (.bool (decide (true ∈ bs))) ∧ w = w' := by
 have hc := bidx_any A c bs hl w B hA
 obtain ⟨r, hr⟩ : ∃ r, decide (true ∈ bs) = r := ⟨_, rfl⟩
 rw [hr] at hc ⊢
 have HC := zH hc
 clear hc hA hr
 go_enter Tryz.func63, Tryz.ntmps63
 go_wp2_with fail
 refine HC.out.mono ?_
 rintro e w' ⟨i, rfl, hi, hw⟩
 have HI := zH hi
 have HW := zH hw
 clear hi HC hw
 go_wp2_with fail
 go_ret
 exact ⟨zj HI.out, HW.out⟩
theorem tat_take {w : World} {B : Nat} {A : Option Addr} {ts : List (Int × Int)} (h : TAt w B A ts) (k : Nat) : TAt w B A (ts.take k) := fun h0 => by
 have h1 : 0 < ts.length := by simp at h0; omega
 obtain ⟨b, off, e, hlt, hc⟩ := h h1
 refine ⟨b, off, e, hlt, fun i hi => ?_⟩
 rw [List.getElem_take]
 exact hc i (by simp at hi; omega)
set_option maxRecDepth 100000 in
theorem jr (w : World) : Calls Tryz.prog 18 #[] w fun e w' => e = .returned (.bool true) ∧ Below w.heap.size w w' := by
 go_enter Tryz.func18, Tryz.ntmps18
 go_wp2_with fail
 refine (Zq w).mono ?_
 rintro e w1 ⟨A, kc, SV, ks, AV, kv, AX, kx, rfl, hS, hb1⟩
 have HB1 := zH hb1
 have CC := zH (fun (X : World) (h : SyAt X X.heap.size A SV AV AX zX) => gZ zX kI qD 3 A SV AV AX kc ks kv kx X h)
 have CH3 := zH (fun (AB : Option Addr) (kb : Nat) (X : World) (h : SyAt X X.heap.size A SV AV AX zX) (h2 : BAt X X.heap.size AB yi) => gK zX kI qD 3 yi A SV AV AX AB kc ks kv kx kb X h h2 (by decide))
 have CH2 := zH (fun (AB : Option Addr) (kb : Nat) (X : World) (h : SyAt X X.heap.size A SV AV AX zX) (h2 : BAt X X.heap.size AB yi) => gK zX kI qD 2 yi A SV AV AX AB kc ks kv kx kb X h h2 (by decide))
 have CW := zH (fun (AB : Option Addr) (kb : Nat) (X : World) (h : SyAt X X.heap.size A SV AV AX zX) (h2 : BAt X X.heap.size AB yi) => YQ zX kI qD 3 7 yi A SV AV AX AB kc ks kv kx kb X h h2 (by decide))
 have CR := zH (fun (AB : Option Addr) (kb : Nat) (X : World) (h : SyAt X X.heap.size A SV AV AX zX) (h2 : BAt X X.heap.size AB yi) => j8 zX kI qD 3 yi A SV AV AX AB kc ks kv kx kb X h h2 (by decide))
 have CV := zH (fun (AB AT : Option Addr) (kb kt : Nat) (X : World) (h : SyAt X X.heap.size A SV AV AX zX) (h2 : BAt X X.heap.size AB yi) (h3 : TAt X X.heap.size AT qE) => wH zX kI qD 3 yi qE A SV AV AX AB AT kc ks kv kx kb kt X h h2 h3 (by decide) (by decide))
 have CV2 := zH (fun (AB AT : Option Addr) (kb kt : Nat) (X : World) (h : SyAt X X.heap.size A SV AV AX zX) (h2 : BAt X X.heap.size AB yi) (h3 : TAt X X.heap.size AT (qE.take 2)) => wH zX kI qD 3 yi (qE.take 2) A SV AV AX AB AT kc ks kv kx kb kt X h h2 h3 (by decide) (by decide))
 rw [exs_comp] at CC
 rw [exs_held3] at CH3
 rw [exs_held2] at CH2
 rw [exs_wit] at CW
 rw [exs_rad] at CR
 rw [exs_verw] at CV
 rw [exs_verw2] at CV2
 obtain ⟨T, hT⟩ : ∃ T, zX = T := ⟨_, rfl⟩
 rw [hT] at hS CC CH3 CH2 CW CR CV CV2 ⊢
 unfold JQ at CC CR
 unfold RetBA at CH3 CH2
 unfold RetTA at CW
 have l8 : yi.length = 8 := rfl
 have lc : kJ.length = 8 := rfl
 have lw : qE.length = 3 := rfl
 have lt : (qE.take 2).length = 2 := rfl
 have lf : qR.length = 8 := rfl
 simp only [lc, l8, lw, lt, lf, List.length_replicate] at CC CH3 CH2 CW CR CV CV2
 unfold Sy.vs_ at CC CH3 CH2 CW CR CV CV2 ⊢
 clear hT hb1 l8 lc lw lt lf
 go_upto_region 2 with fail
 obtain ⟨w2, hw2, d2, hs2, hb2⟩ := zi w1 #[.int .i64 T.p.t.n, .int .i64 T.p.t.ins, .int .i64 T.p.t.outs, .slice A T.p.t.cases.length kc, .int .i64 T.p.a.n, .slice SV T.p.a.sts.length ks, .int .i64 T.p.k, .int .i64 T.n, .slice AV T.vs.length kv, .slice AX T.xs.length kx] 35
 rw [hw2]
 have HS2 := zH (hS.up hb2)
 have HB2 := zH (HB1.out.trans (hb2.mono HB1.out.size))
 have HD2 := zH d2
 clear hw2 d2 hb2 hS
 go_upto_region 5 with fail
 obtain ⟨w3, hw3, d3, hs3, hb3⟩ := zi w2 #[.bool false, .bool false, .bool false, .bool false, .bool true, .bool true, .bool true, .bool true] 4
 rw [hw3]
 have HDB : Hid (∀ X, Below w3.heap.size w3 X → X.heap[w1.heap.size]? = some (.cells #[.int .i64 T.p.t.n, .int .i64 T.p.t.ins, .int .i64 T.p.t.outs, .slice A T.p.t.cases.length kc, .int .i64 T.p.a.n, .slice SV T.p.a.sts.length ks, .int .i64 T.p.k, .int .i64 T.n, .slice AV T.vs.length kv, .slice AX T.xs.length kx] 35 (0, 0))) := fun X hX => (hX.block _ (by omega)).trans ((hb3.block _ (by omega)).trans HD2.out)
 have HSB : Hid (∀ X, Below w3.heap.size w3 X → SyAt X X.heap.size A SV AV AX T) := fun X hX => (HS2.out.up hb3).up hX
 have hbr : BRow w3 (w1.heap.size + 1) yi := by rw [← hs2]; exact d3
 have HBB : Hid (∀ X, Below w3.heap.size w3 X → BAt X X.heap.size (some ⟨w1.heap.size + 1, 0, none⟩) yi) := fun X hX => ((hbr.at_ hbr.lt).keep hX).more hX.size
 have HB3 := zH (HB2.out.trans (hb3.mono HB2.out.size))
 have G3 : Hid (Below w3.heap.size w3 w3) := Below.refl _ _
 clear hw3 d3 hb3 hbr HS2 HD2
 obtain ⟨p0, p1, p2, p3, p4, p5, p6, p7, p8, p9⟩ := zx (HDB.out _ G3.out)
 go_wp2_with fail
 refine (CC.out w3 (HSB.out _ G3.out)).mono ?_
 rintro e w4 ⟨A4, c4, rfl, hr4, hb4⟩
 have G4 := zH (G3.out.trans (hb4.mono G3.out.size))
 have R4 := zH hr4
 clear p0 p1 p2 p3 p4 p5 p6 p7 p8 p9 hb4 hr4 G3 CC
 obtain ⟨p0, p1, p2, p3, p4, p5, p6, p7, p8, p9⟩ := zx (HDB.out _ G4.out)
 go_wp2_with fail
 refine (CH3.out (some ⟨w1.heap.size + 1, 0, none⟩) 8 w4 (HSB.out _ G4.out) (HBB.out _ G4.out)).mono ?_
 rintro e w5 ⟨A5, c5, rfl, hr5, hb5⟩
 have G5 := zH (G4.out.trans (hb5.mono G4.out.size))
 have R5 := zH hr5
 have B45 := zH hb5
 clear p0 p1 p2 p3 p4 p5 p6 p7 p8 p9 hb5 hr5 CH3
 obtain ⟨p0, p1, p2, p3, p4, p5, p6, p7, p8, p9⟩ := zx (HDB.out _ G5.out)
 go_wp2_with fail
 refine (CH2.out (some ⟨w1.heap.size + 1, 0, none⟩) 8 w5 (HSB.out _ G5.out) (HBB.out _ G5.out)).mono ?_
 rintro e w6 ⟨A6, c6, rfl, hr6, hb6⟩
 have G6 := zH (G5.out.trans (hb6.mono G5.out.size))
 have R6 := zH hr6
 have B56 := zH hb6
 clear p0 p1 p2 p3 p4 p5 p6 p7 p8 p9 hb6 hr6 CH2
 obtain ⟨p0, p1, p2, p3, p4, p5, p6, p7, p8, p9⟩ := zx (HDB.out _ G6.out)
 go_wp2_with fail
 refine (CW.out (some ⟨w1.heap.size + 1, 0, none⟩) 8 w6 (HSB.out _ G6.out) (HBB.out _ G6.out)).mono ?_
 rintro e w7 ⟨A7, c7, rfl, hl7, hm7, hr7, hb7⟩
 have G7 := zH (G6.out.trans (hb7.mono G6.out.size))
 have R7 := zH hr7
 have B67 := zH hb7
 clear p0 p1 p2 p3 p4 p5 p6 p7 p8 p9 hb7 hr7 CW
 obtain ⟨p0, p1, p2, p3, p4, p5, p6, p7, p8, p9⟩ := zx (HDB.out _ G7.out)
 go_wp2_with fail
 refine (CR.out (some ⟨w1.heap.size + 1, 0, none⟩) 8 w7 (HSB.out _ G7.out) (HBB.out _ G7.out)).mono ?_
 rintro e w8 ⟨A8, c8, rfl, hr8, hb8⟩
 have G8 := zH (G7.out.trans (hb8.mono G7.out.size))
 have R8 := zH hr8
 have B78 := zH hb8
 clear p0 p1 p2 p3 p4 p5 p6 p7 p8 p9 hb8 hr8 CR
 have I4 : Hid (IAt w8 w8.heap.size A4 kJ) := R4.out.up (((B45.out.trans (B56.out.mono B45.out.size)).trans (B67.out.mono (B45.out.trans (B56.out.mono B45.out.size)).size)).trans (B78.out.mono ((B45.out.trans (B56.out.mono B45.out.size)).trans (B67.out.mono (B45.out.trans (B56.out.mono B45.out.size)).size)).size))
 have B58 := zH ((B56.out.trans (B67.out.mono B56.out.size)).trans (B78.out.mono (B56.out.trans (B67.out.mono B56.out.size)).size))
 have B68 := zH (B67.out.trans (B78.out.mono B67.out.size))
 have I5 : Hid (BAt w8 w8.heap.size A5 (List.replicate 8 false)) := (R5.out.keep B58.out).more B58.out.size
 have I6 : Hid (BAt w8 w8.heap.size A6 yi) := (R6.out.keep B68.out).more B68.out.size
 have I7 : Hid (TAt w8 w8.heap.size A7 qE) := (R7.out.keep B78.out).more B78.out.size
 have I8 : Hid (IAt w8 w8.heap.size A8 qR) := R8.out
 clear R4 R5 R6 R7 R8 B45 B56 B67 B78 B58 B68
 have E5 := bhas_any A5 c5 (List.replicate 8 false) (by decide) w8 _ I5.out
 have E6 := fun (X : World) (q : Nat) (hX : X = w8.drewN q) => wu A6 (some ⟨w1.heap.size + 1, 0, none⟩) c6 8 yi yi X X.heap.size (Nat.le_refl _) (by subst hX; exact I6.out) (by subst hX; exact HBB.out _ (zU G8.out q)) (by decide) (by decide)
 have lE : yi.length = 8 := rfl
 have lc : kJ.length = 8 := rfl
 have lw : qE.length = 3 := rfl
 have lf : qR.length = 8 := rfl
 have t5 : decide (true ∈ List.replicate 8 false) = false := by decide
 have t6 : decide (yi = yi) = true := by simp
 rw [t5, List.length_replicate] at E5
 rw [t6, lE] at E6
 have E5 := zH E5
 have E6 := zH E6
 clear t5 t6
 have HALL : Hid (∀ X, Below w8.heap.size w8 X → IAt X X.heap.size A4 kJ ∧ IAt X X.heap.size A8 qR ∧ TAt X X.heap.size A7 qE ∧ Below w3.heap.size w3 X) := fun X hX => ⟨I4.out.up hX, I8.out.up hX, (I7.out.keep hX).more hX.size, G8.out.trans (hX.mono G8.out.size)⟩
 have hw8 : w1.heap.size < w8.heap.size := by have := G8.out.size; omega
 clear I4 I5 I6 I7 I8
 go_wp2_with fail
 refine E5.out.mono ?_
 rintro e x5 ⟨rfl, hx5⟩
 obtain rfl := hx5
 clear E5
 go_wp2_with fail
 refine (E6.out w8 0 rfl).mono ?_
 rintro e x6 ⟨rfl, n6, rfl⟩
 have F6 : Hid (Below w8.heap.size w8 (w8.drewN n6)) := zU (Below.refl _ _) n6
 have z6 : Hid ((w8.drewN n6).heap.size = w8.heap.size) := rfl
 obtain ⟨x6, hx6⟩ : ∃ x6, w8.drewN n6 = x6 := ⟨_, rfl⟩
 rw [hx6] at F6 z6 ⊢
 clear hx6 E6
 go_wp2_with fail
 obtain ⟨x7, hx7, d7, hs7, hb7⟩ := zi x6 #[.int .i64 0, .int .i64 1, .int .i64 0, .int .i64 1, .int .i64 0, .int .i64 1, .int .i64 0, .int .i64 1] 3
 rw [hx7]
 have F7 := zH (F6.out.trans (hb7.mono F6.out.size))
 have E7 := YA A4 (some ⟨x6.heap.size, 0, none⟩) c4 8 kJ kJ x7 x7.heap.size (HALL.out _ F7.out).1 (fun _ => ⟨_, 0, rfl, zd d7, fun j hj => by rw [Nat.zero_add]; exact za d7 j (by simp [kJ] at hj ⊢; rcases (by omega : j = 0 ∨ j = 1 ∨ j = 2 ∨ j = 3 ∨ j = 4 ∨ j = 5 ∨ j = 6 ∨ j = 7) with rfl | rfl | rfl | rfl | rfl | rfl | rfl | rfl <;> rfl)⟩) (by decide) (by decide)
 rw [show decide (kJ = kJ) = true by simp, lc] at E7
 have E7 := zH E7
 clear hx7 d7 hb7
 go_wp2_with fail
 refine E7.out.mono ?_
 rintro e x8 ⟨rfl, n8, rfl⟩
 have F8 : Hid (Below w8.heap.size w8 (x7.drewN n8)) := zU F7.out n8
 obtain ⟨x8, hx8⟩ : ∃ x8, x7.drewN n8 = x8 := ⟨_, rfl⟩
 rw [hx8] at F8 ⊢
 clear hx8 E7 F7 hs7
 go_wp2_with fail
 obtain ⟨x9, hx9, d9, hs9, hb9⟩ := zi x8 #[.int .i64 0, .int .i64 0, .int .i64 0, .int .i64 0, .int .i64 1, .int .i64 1, .int .i64 1, .int .i64 2] 3
 rw [hx9]
 have F9 := zH (F8.out.trans (hb9.mono F8.out.size))
 have E9 := YA A8 (some ⟨x8.heap.size, 0, none⟩) c8 8 qR qR x9 x9.heap.size (HALL.out _ F9.out).2.1 (fun _ => ⟨_, 0, rfl, zd d9, fun j hj => by rw [Nat.zero_add]; exact za d9 j (by simp [qR] at hj ⊢; rcases (by omega : j = 0 ∨ j = 1 ∨ j = 2 ∨ j = 3 ∨ j = 4 ∨ j = 5 ∨ j = 6 ∨ j = 7) with rfl | rfl | rfl | rfl | rfl | rfl | rfl | rfl <;> rfl)⟩) (by decide) (by decide)
 rw [show decide (qR = qR) = true by simp, lf] at E9
 have E9 := zH E9
 clear hx9 d9 hb9
 go_wp2_with fail
 refine E9.out.mono ?_
 rintro e y0 ⟨rfl, n9, rfl⟩
 have F10 : Hid (Below w8.heap.size w8 (x9.drewN n9)) := zU F9.out n9
 obtain ⟨y0, hy0⟩ : ∃ y0, x9.drewN n9 = y0 := ⟨_, rfl⟩
 rw [hy0] at F10 ⊢
 clear hy0 E9 F9 hs9 F8 F6
 go_wp2_with fail
 have F11 : Hid (Below w8.heap.size w8 y0.drew) := F10.out.drew
 refine zr [(0, true), (1, true), (2, true), (3, true), (4, false), (5, false), (6, true), (7, true), (8, true), (9, true), (10, false), (11, true), (12, true), (13, true), (14, true), (15, true), (16, true), (17, true), (18, false), (19, true), (20, true), (21, true)] (fun X => X.heap[w1.heap.size]? = some (.cells #[.int .i64 T.p.t.n, .int .i64 T.p.t.ins, .int .i64 T.p.t.outs, .slice A T.p.t.cases.length kc, .int .i64 T.p.a.n, .slice SV T.p.a.sts.length ks, .int .i64 T.p.k, .int .i64 T.n, .slice AV T.vs.length kv, .slice AX T.xs.length kx] 35 (0, 0))) (by kernel_rfl) (by kernel_rfl) (HDB.out _ (HALL.out _ F11.out).2.2.2) ?_
 have hA7 : ∃ b off, A7 = some ⟨b, off, none⟩ := by
  obtain ⟨b, off, e, _⟩ := (HALL.out _ F11.out).2.2.1 (by decide)
  exact ⟨b, off, e⟩
 obtain ⟨b7, o7, rfl⟩ := hA7
 have hl77 : 3 ≤ c7 := hl7
 have hl72 : 2 ≤ c7 := by omega
 have hl7i : (2 : Int) ≤ (c7 : Int) := by omega
 obtain ⟨y1, hy1⟩ : ∃ y1, y0.drew = y1 := ⟨_, rfl⟩
 rw [hy1] at F11 ⊢
 clear hy1 F10
 repeat
  apply zA rfl
  · rintro K' hK' X u
    obtain ⟨q0, q1, q2, q3, q4, q5, q6, q7, q8, q9⟩ := zx u
    clear u
    go_simp
    exact hK'
 refine zC rfl ?_
 intro K' hK'
 go_simp
 obtain ⟨y2, hy2, d2, hz2, hb2⟩ := zi y1 #[.int .i64 7, .int .i64 (-1), .int .i64 5, .int .i64 1, .int .i64 1, .int .i64 0] 75
 rw [hy2]
 have F12 := zH (F11.out.trans (hb2.mono F11.out.size))
 refine hK' _ _ (HDB.out _ (HALL.out _ F12.out).2.2.2) ?_
 clear hK' K' hy2
 have htn : TAt y2 y2.heap.size (some ⟨y1.heap.size, 0, none⟩) qE := fun _ => ⟨_, 0, rfl, zd d2, fun j hj => by
  have hj3 : j < 3 := hj
  rcases (by omega : j = 0 ∨ j = 1 ∨ j = 2) with rfl | rfl | rfl
  · exact ⟨za d2 0 rfl, za d2 1 rfl⟩
  · exact ⟨za d2 2 rfl, za d2 3 rfl⟩
  · exact ⟨za d2 4 rfl, za d2 5 rfl⟩⟩
 have E12 := eqT_any (some ⟨b7, o7, none⟩) (some ⟨y1.heap.size, 0, none⟩) c7 3 qE qE y2 y2.heap.size (Nat.le_refl _) (HALL.out _ F12.out).2.2.1 htn (by decide) (by decide)
 rw [show decide (qE = qE) = true by simp, lw] at E12
 have E12 := zH E12
 clear d2 hb2 htn
 refine zC rfl ?_
 intro K' hK'
 go_simp
 refine E12.out.mono ?_
 rintro e y3 ⟨rfl, n3, rfl⟩
 have F13 : Hid (Below w8.heap.size w8 (y2.drewN n3)) := zU F12.out n3
 obtain ⟨y3, hy3⟩ : ∃ y3, y2.drewN n3 = y3 := ⟨_, rfl⟩
 rw [hy3] at F13 ⊢
 refine hK' _ _ (HDB.out _ (HALL.out _ F13.out).2.2.2) ?_
 clear hK' K' hy3 E12 F12 F11 hz2
 repeat
  apply zA rfl
  · rintro K' hK' X u
    obtain ⟨q0, q1, q2, q3, q4, q5, q6, q7, q8, q9⟩ := zx u
    clear u
    go_simp
    exact hK'
 have E13 := zH (CV.out (some ⟨w1.heap.size + 1, 0, none⟩) (some ⟨b7, o7, none⟩) 8 c7 y3 (HSB.out _ (HALL.out _ F13.out).2.2.2) (HBB.out _ (HALL.out _ F13.out).2.2.2) (HALL.out _ F13.out).2.2.1)
 refine zC rfl ?_
 intro K' hK'
 go_simp
 refine E13.out.mono ?_
 rintro e y4 ⟨rfl, hb4⟩
 have F14 := zH (F13.out.trans (hb4.mono F13.out.size))
 refine hK' _ _ (HDB.out _ (HALL.out _ F14.out).2.2.2) ?_
 clear hK' K' hb4 E13 F13
 repeat
  apply zA rfl
  · rintro K' hK' X u
    obtain ⟨q0, q1, q2, q3, q4, q5, q6, q7, q8, q9⟩ := zx u
    clear u
    go_simp
    exact hK'
 have E14 := zH (CV2.out (some ⟨w1.heap.size + 1, 0, none⟩) (some ⟨b7, o7, none⟩) 8 c7 y4 (HSB.out _ (HALL.out _ F14.out).2.2.2) (HBB.out _ (HALL.out _ F14.out).2.2.2) (tat_take (HALL.out _ F14.out).2.2.1 2))
 refine zC rfl ?_
 intro K' hK'
 go_simp
 refine E14.out.mono ?_
 rintro e y5 ⟨rfl, hb5⟩
 have F15 := zH (F14.out.trans (hb5.mono F14.out.size))
 refine hK' _ _ (HDB.out _ (HALL.out _ F15.out).2.2.2) ?_
 clear hK' K' hb5 E14 F14
 repeat
  apply zA rfl
  · rintro K' hK' X u
    obtain ⟨q0, q1, q2, q3, q4, q5, q6, q7, q8, q9⟩ := zx u
    clear u
    go_simp
    exact hK'
 refine zG ?_
 have HF := zH (HB3.out.trans ((HALL.out _ F15.out).2.2.2.mono HB3.out.size))
 clear F15 HALL HDB HSB HBB CV CV2
 go_wp2_with fail
 go_ret
 exact ⟨rfl, HF.out⟩
end
section
open Go.RowKit
theorem kZ {p : Pb} (h : xF p = true) : zQ p = (zD p, 0) ∧ yE (zD p) = 0 ∧ xb p ∧ zJ p = 0 ∧ zP p ≤ 60 ∧ p.t.n ≤ 3 ∧ ∃ K N, Fine (zD p) K N ∧ Sees (zD p) K N := by
 unfold xF at h
 rw [Bool.and_eq_true] at h
 obtain ⟨h1, h2⟩ := h
 obtain ⟨hf, h3⟩ := few_x h1
 have h4 : (zQ p).2 = 0 := of_decide_eq_true h2
 have h0 : zJ p = 0 := by
  by_cases h0 : zJ p = 0
  · exact h0
  · rw [xv h0] at h4; exact absurd h4 h0
 have hm : ¬ 4096 < zP p := fun hm => by rw [xC h0 hm] at h4; exact absurd h4 (by decide)
 have h60 : zP p ≤ 60 := by
  rcases hf.2 h0 with h | h
  · exact h
  · exact absurd h hm
 have hb := qw h0 (by omega)
 obtain ⟨hpt, _⟩ := zO h0
 obtain ⟨_, hn1, hn5⟩ := yB hpt
 obtain ⟨K, N, hF⟩ := Ze hf h0 h60
 refine ⟨hb, ?_, hf, h0, h60, by omega, K, N, hF, Q4 hF⟩
 unfold yE
 have e : (zD p).p = p := rfl
 rw [e, hb, if_neg (by simp), if_pos rfl]
end
section
open Go.RowKit Go.Shelf
attribute [local go_sem] Oper.semAt_some
set_option maxRecDepth 100000 in
theorem Qr (s : Sy) (K N : Nat) (hF : Fine s K N) (A SV AV AX : Option Addr) (kc ks kv kx : Nat) (w : World) :
  Calls Tryz.prog 92 #[.agg (s.vs_ A kc SV ks AV kv AX kx)] w fun e w' => e = .returned (.int .i64 (ptn s : Int)) ∧ Below w.heap.size w w' := by
 obtain ⟨w1, hw1, d0, hs1, hB⟩ := zi w (s.vs_ A kc SV ks AV kv AX kx) 35
 have hlx := hF.lx
 have hk := hF.k
 have hk6 := hF.k6
 have hn : ptn s = s.xs.length * (K + 1) := by unfold ptn; rw [hk]; rfl
 have hb := Nat.mul_le_mul hlx (show K + 1 ≤ 7 by omega)
 rw [hn]
 unfold Sy.vs_ at hw1 d0 ⊢
 rw [hk] at hw1 d0 ⊢
 obtain ⟨M, hM⟩ : ∃ M, s.xs.length = M := ⟨_, rfl⟩
 rw [hM] at hw1 d0 hb hlx ⊢
 have HW1 := zH hw1
 have HB := zH hB
 have HWR : Hid (wrap64 ((M : Int) * ((K : Int) + 1)) = ((M * (K + 1) : Nat) : Int)) := by
  show wrap64 _ = _
  rw [show (M : Int) * ((K : Int) + 1) = ((M * (K + 1) : Nat) : Int) by push_cast; rfl]
  exact IntWalk.wrap64_in _ (by omega)
 have p6 := za d0 6 rfl
 have p9 := za d0 9 rfl
 clear hw1 d0 hB hF hk hn hM hb
 go_enter Tryz.func92, Tryz.ntmps92
 go_wp2_with fail
 rw [HW1.out]
 go_wp2_with fail
 go_ret
 exact ⟨by rw [← HWR.out]; rfl, HB.out⟩
def YD (s : Sy) : Int × Int := if yE s ≠ 0 then (0, yE s) else ((ptn s : Int), 0)
set_option maxRecDepth 100000 in
theorem gj (s : Sy) (hs : LowS s) (hf : xb s.p) (A SV AV AX : Option Addr) (kc ks kv kx : Nat) (w : World) (hS : SyAt w w.heap.size A SV AV AX s) :
  Calls Tryz.prog 48 #[.agg (s.vs_ A kc SV ks AV kv AX kx)] w fun e w' => e = .returned (.tuple #[.int .i64 (YD s).1, .int .i64 (YD s).2]) ∧ Below w.heap.size w w' := by
 obtain ⟨w1, hw1, d0, hs1, hB⟩ := zi w (s.vs_ A kc SV ks AV kv AX kx) 35
 have HV := zH (Z7 s hs hf A SV AV AX kc ks kv kx w1 (hS.up hB))
 have HE0 : Hid (yE s ≠ 0 → YD s = (0, yE s)) := fun h => if_pos h
 have HE1 : Hid (yE s = 0 → YD s = ((ptn s : Int), 0) ∧ ∀ X, Calls Tryz.prog 92 #[.agg (s.vs_ A kc SV ks AV kv AX kx)] X fun e w' => e = .returned (.int .i64 (ptn s : Int)) ∧ Below X.heap.size X w') := fun h => by
  obtain ⟨_, K, N, hF⟩ := qd hf h
  exact ⟨if_neg (by simpa using h), fun X => Qr s K N hF A SV AV AX kc ks kv kx X⟩
 obtain ⟨r, hr⟩ : ∃ r, yE s = r := ⟨_, rfl⟩
 rw [hr] at HV HE0 HE1
 obtain ⟨R, hRR⟩ : ∃ R, YD s = R := ⟨_, rfl⟩
 rw [hRR] at HE0 HE1 ⊢
 unfold Sy.vs_ at hw1 d0 HV HE1 ⊢
 have HW1 := zH hw1
 have HB := zH hB
 have HD := zH d0
 obtain ⟨p0, p1, p2, p3, p4, p5, p6, p7, p8, p9⟩ := zx (d0)
 clear hw1 d0 hB hS hr hRR hs hf
 go_enter Tryz.func48, Tryz.ntmps48
 go_wp2_with fail
 rw [HW1.out]
 go_wp2_with fail
 refine HV.out.mono ?_
 rintro e w2 ⟨rfl, hb2⟩
 have HB2 := zH (HB.out.trans (hb2.mono (by omega)))
 have d0 := (hb2.block _ (by omega : w.heap.size < w1.heap.size)).trans HD.out
 clear p0 p1 p2 p3 p4 p5 p6 p7 p8 p9 hb2 HV HW1 HD
 obtain ⟨p0, p1, p2, p3, p4, p5, p6, p7, p8, p9⟩ := zx (d0)
 clear d0
 by_cases h0 : r = 0
 case neg =>
  have hR : Hid (R = (0, r)) := HE0.out h0
  have e0 : (r != 0) = true := by simpa using h0
  clear HE0 HE1
  go_wp2_with fail
  go_ret2
  rw [hR.out]
  exact ⟨rfl, HB2.out⟩
 case pos =>
 subst h0
 obtain ⟨hRe, hC⟩ := HE1.out rfl
 have HC := zH (hC w2)
 have hR := zH hRe
 clear HE0 HE1 hRe hC
 go_wp2_with fail
 refine HC.out.mono ?_
 rintro e w3 ⟨rfl, hb3⟩
 have HB3 := zH (HB2.out.trans (hb3.mono HB2.out.size))
 clear hb3 HC HB2 p0 p1 p2 p3 p4 p5 p6 p7 p8 p9
 go_wp2_with fail
 go_ret2
 rw [hR.out]
 exact ⟨rfl, HB3.out⟩
end
section
open Go.RowKit Go.Shelf
attribute [local go_sem] Oper.semAt_some
def kF (bs : List Bool) (n : Nat) : List Bool := (List.range n).map fun i => bs.getD (i % bs.length) false
theorem gi (bs : List Bool) (n : Nat) : (kF bs n).length = n := by simp [kF]
theorem patL_succ (bs : List Bool) (n : Nat) : kF bs (n + 1) = kF bs n ++ [bs.getD (n % bs.length) false] := by simp [kF, List.range_succ]
theorem and_mask {c N : Nat} (hc : c < 256) (hN : N ≤ 3) : bits BinOp.and IntKind.i64 (c : Int) ((2 : Int) ^ N - 1) = ((c % 2 ^ N : Nat) : Int) := by
 have h : ∀ N : Nat, N < 4 → ∀ c : Nat, c < 256 → bits BinOp.and IntKind.i64 (c : Int) ((2 : Int) ^ N - 1) = ((c % 2 ^ N : Nat) : Int) := by decide +kernel
 exact h N (by omega) c hc
theorem BAt.of_own {w w' : World} {base : Nat} {A' : Option Addr} {n c : Nat} {bs : List Bool} (h : OwnR kBl w base (.slice A' n c) n (bs.map .bool)) (hn : bs.length = n) (hk : ∀ k, base ≤ k → w'.heap[k]? = w.heap[k]?) (hz : w.heap.size ≤ w'.heap.size) : BAt w' w'.heap.size A' bs := fun h0 => by
 have hlt := h.lt
 obtain ⟨A, cap, e, _, _, h3⟩ := h.form
 cases e
 obtain ⟨g, rfl, ho, hg, hc⟩ := h3 (by omega)
 have hb := (hlt g ho).1
 exact ⟨g, 0, rfl, by omega, fun i hi => by rw [Nat.zero_add]; exact (World.cell?_of_block (hk g hb)).trans (hc _ _ (by rw [List.getElem?_map, List.getElem?_eq_getElem hi]; rfl))⟩
def RetSc (p : Pb) (bs : List Bool) (c : Nat) (w : World) (e : Ending) (w' : World) : Prop :=
 Below w.heap.size w w' ∧ ((¬ (xF p = true ∧ 0 < bs.length) ∧ e = .returned (.tuple #[.agg #[.int .i64 0, .int .i64 0, .int .i64 0, .slice none 0 0, .int .i64 0, .slice none 0 0, .int .i64 0, .int .i64 0, .slice none 0 0, .slice none 0 0], .int .i64 0, .slice none 0 0, .bool false])) ∨
  ((xF p = true ∧ 0 < bs.length) ∧ ∃ A kc SV ks AV kv AX kx AQ cQ, e = .returned (.tuple #[.agg ((zD p).vs_ A kc SV ks AV kv AX kx), .int .i64 ((c % 2 ^ p.t.n.toNat : Nat) : Int), .slice AQ (ptn (zD p)) cQ, .bool true]) ∧ SyAt w' w'.heap.size A SV AV AX (zD p) ∧ BAt w' w'.heap.size AQ (kF bs (ptn (zD p)))))
set_option maxRecDepth 100000 in
theorem J7 (p : Pb) (hl : YJ p) (A : Option Addr) (kc : Nat) (SV : Option Addr) (ks : Nat) (c : Nat) (hc : c < 256) (cq : Int) (bs : List Bool) (AB : Option Addr) (kb : Nat) (w : World) (hA : CAt w w.heap.size A p.t.cases) (hS : SAt w w.heap.size SV p.a.sts) (hb0 : BAt w w.heap.size AB bs) :
  Calls Tryz.prog 33 #[.agg (p.vs A kc SV ks), .agg #[.int .u8 (c : Int), .slice AB bs.length kb, .int .u16 cq]] w (RetSc p bs c w) := by
 obtain ⟨w1, hw1, d0, d1, hs1, hB1⟩ := yj w (p.vs A kc SV ks) #[.int .u8 (c : Int), .slice AB bs.length kb, .int .u16 cq] 29 71
 have hz1 : w1.heap.size = w.heap.size + 2 := by rw [← hw1]; simp
 obtain ⟨w0, hw0, dz, hs0, hB0⟩ := zi w1 #[.int .i64 0, .int .i64 0, .int .i64 0, .slice none 0 0, .int .i64 0, .slice none 0 0, .int .i64 0, .int .i64 0, .slice none 0 0, .slice none 0 0] 35
 rw [hz1] at dz hs0
 have d0 := (hB0.block _ (zd d0)).trans d0
 have d1 := (hB0.block _ (zd d1)).trans d1
 have hB := hB1.trans (hB0.mono hB1.size)
 have HR := zH (right_any p hl A kc SV ks w0 ((hA.keep hB).more hB.size) ((hS.keep hB).more hB.size))
 have HBD := zH (fun (hf : xb p) (X : World) (hX : Below w.heap.size w X) => Zg p hf A kc SV ks X w.heap.size hX.size (hA.keep hX) (hS.keep hX))
 have HLW := zH (fun (hf : xb p) => jB hl hf)
 have HCN := zH (fun (hs : LowS (zD p)) (hf : xb p) (A SV AV AX : Option Addr) (kc ks kv kx : Nat) (X : World) (hX : SyAt X X.heap.size A SV AV AX (zD p)) => gj (zD p) hs hf A SV AV AX kc ks kv kx X hX)
 have HBS : Hid (∀ X, Below w.heap.size w X → BAt X w.heap.size AB bs) := fun X hX => hb0.keep hX
 have HRB := zH (fun (h : xF p = true) => kZ h)
 have HBb := zH hB
 have HX1 : Hid (¬ (xF p = true ∧ 0 < bs.length) → ∀ W, Below w.heap.size w W → RetSc p bs c w (.returned (.tuple #[.agg #[.int .i64 0, .int .i64 0, .int .i64 0, .slice none 0 0, .int .i64 0, .slice none 0 0, .int .i64 0, .int .i64 0, .slice none 0 0, .slice none 0 0], .int .i64 0, .slice none 0 0, .bool false])) W) := fun h W hW => ⟨hW, .inl ⟨h, rfl⟩⟩
 have HX2 : Hid (xF p = true → 0 < bs.length → ∀ (A2 : Option Addr) (kc2 : Nat) (SV2 : Option Addr) (ks2 : Nat) (AV : Option Addr) (kv : Nat) (AX : Option Addr) (kx : Nat) (AQ : Option Addr) (cQ : Nat) (W : World), Below w.heap.size w W → SyAt W W.heap.size A2 SV2 AV AX (zD p) → BAt W W.heap.size AQ (kF bs (ptn (zD p))) →
   RetSc p bs c w (.returned (.tuple #[.agg ((zD p).vs_ A2 kc2 SV2 ks2 AV kv AX kx), .int .i64 ((c % 2 ^ p.t.n.toNat : Nat) : Int), .slice AQ (ptn (zD p)) cQ, .bool true])) W) := fun h1 h2 A2 kc2 SV2 ks2 AV kv AX kx AQ cQ W hW hSY hBQ => ⟨hW, .inr ⟨⟨h1, h2⟩, A2, kc2, SV2, ks2, AV, kv, AX, kx, AQ, cQ, rfl, hSY, hBQ⟩⟩
 obtain ⟨r, hr⟩ : ∃ r, xF p = r := ⟨_, rfl⟩
 rw [hr] at HR HRB HX1 HX2
 have HRR := zH hr
 unfold Pb.vs at hw1 d0 HR HBD ⊢
 have HW1 := zH hw1
 have HW0 := zH hw0
 have HD0 := zH d0
 have HD1 := zH d1
 have dz := zH dz
 have p0 := za (d0) 0 rfl
 have p1 := za (d0) 1 rfl
 have p2 := za (d0) 2 rfl
 have p3 := za (d0) 3 rfl
 have p4 := za (d0) 4 rfl
 have p5 := za (d0) 5 rfl
 have p6 := za (d0) 6 rfl
 have q0 := za (d1) 0 rfl
 have q1 := za (d1) 1 rfl
 have q2 := za (d1) 2 rfl
 clear hw1 hw0 d0 d1 hB1 hB0 hA hS hb0 hB hs1 hr hl
 go_enter Tryz.func33, Tryz.ntmps33
 go_wp2_with fail
 rw [HW1.out, HW0.out]
 go_wp2_with fail
 refine HR.out.mono ?_
 rintro e w2 ⟨rfl, hb2⟩
 have B2 := zH (HBb.out.trans (hb2.mono HBb.out.size))
 have hs2 := hb2.size
 have dz := zH ((hb2.block _ (zd dz.out)).trans dz.out)
 have HD1 := zH ((hb2.block _ (zd HD1.out)).trans HD1.out)
 have HD0 := zH ((hb2.block _ (zd HD0.out)).trans HD0.out)
 have hs23 : w.heap.size + 3 ≤ w2.heap.size := by omega
 clear hb2 HR HW1 HW0 p0 p1 p2 p3 p4 p5 p6 q0 q1 q2
 cases r with
 | false =>
  have HBAD : Hid (¬ (false = true ∧ 0 < bs.length)) := fun h => by cases h.1
  clear HBD HRB HLW HCN HBS HX2
  obtain ⟨WF, hWF, f1, f2, f3, f4⟩ := YU dz.out (.int .i64 0) (.int .i64 0) (.int .i64 0) (.slice none 0 0) (.int .i64 0) (.slice none 0 0) (.int .i64 0) (.int .i64 0) (.slice none 0 0) (.slice none 0 0)
  obtain ⟨y0, y1, y2, y3, y4, y5, y6, y7, y8, y9⟩ := zx (dz.out)
  have g0 := zb (dz.out) 0
  have g1 := zb (dz.out) 1
  have g2 := zb (dz.out) 2
  have g3 := zb (dz.out) 3
  have g4 := zb (dz.out) 4
  have g5 := zb (dz.out) 5
  have g6 := zb (dz.out) 6
  have g7 := zb (dz.out) 7
  have g8 := zb (dz.out) 8
  have g9 := zb (dz.out) 9
  have lz := zd dz.out
  have HWF := zH hWF
  have HF1 := zH f1
  have HBF := zH (B2.out.trans (f3 _ (by omega)))
  clear hWF f1 f2 f3 f4
  go_wp2_with fail
  rw [HWF.out]
  obtain ⟨z0, z1, z2, z3, z4, z5, z6, z7, z8, z9⟩ := zx (HF1.out)
  refine bodyPost_ret (v := .tuple #[.agg #[.int .i64 0, .int .i64 0, .int .i64 0, .slice none 0 0, .int .i64 0, .slice none 0 0, .int .i64 0, .int .i64 0, .slice none 0 0, .slice none 0 0], .int .i64 0, .slice none 0 0, .bool false]) (by simp [results, Tryz.results33, go_sem, z0, z1, z2, z3, z4, z5, z6, z7, z8, z9]) rfl ?_
  exact HX1.out HBAD.out _ HBF.out
 | true =>
 have q0 := za (HD1.out) 0 rfl
 have q1 := za (HD1.out) 1 rfl
 have q2 := za (HD1.out) 2 rfl
 by_cases hbs : bs.length = 0
 · have HBAD : Hid (¬ (true = true ∧ 0 < bs.length)) := fun h => by have := h.2; omega
   have e0 : ((bs.length : Int) == 0) = true := by rw [beq_iff_eq]; omega
   clear hbs
   clear HBD HRB HLW HCN HBS HX2
   obtain ⟨WF, hWF, f1, f2, f3, f4⟩ := YU dz.out (.int .i64 0) (.int .i64 0) (.int .i64 0) (.slice none 0 0) (.int .i64 0) (.slice none 0 0) (.int .i64 0) (.int .i64 0) (.slice none 0 0) (.slice none 0 0)
   obtain ⟨y0, y1, y2, y3, y4, y5, y6, y7, y8, y9⟩ := zx (dz.out)
   have g0 := zb (dz.out) 0
   have g1 := zb (dz.out) 1
   have g2 := zb (dz.out) 2
   have g3 := zb (dz.out) 3
   have g4 := zb (dz.out) 4
   have g5 := zb (dz.out) 5
   have g6 := zb (dz.out) 6
   have g7 := zb (dz.out) 7
   have g8 := zb (dz.out) 8
   have g9 := zb (dz.out) 9
   have lz := zd dz.out
   have HWF := zH hWF
   have HF1 := zH f1
   have HBF := zH (B2.out.trans (f3 _ (by omega)))
   clear hWF f1 f2 f3 f4
   go_wp2_with fail
   rw [HWF.out]
   obtain ⟨z0, z1, z2, z3, z4, z5, z6, z7, z8, z9⟩ := zx (HF1.out)
   refine bodyPost_ret (v := .tuple #[.agg #[.int .i64 0, .int .i64 0, .int .i64 0, .slice none 0 0, .int .i64 0, .slice none 0 0, .int .i64 0, .int .i64 0, .slice none 0 0, .slice none 0 0], .int .i64 0, .slice none 0 0, .bool false]) (by simp [results, Tryz.results33, go_sem, z0, z1, z2, z3, z4, z5, z6, z7, z8, z9]) rfl ?_
   exact HX1.out HBAD.out _ HBF.out
 have hbs0 : 0 < bs.length := by omega
 obtain ⟨hbE, hvE, hf, h0, h60, hn3, K, N, hF, hSe⟩ := HRB.out rfl
 have HB := zH (HBD.out hf w2 B2.out)
 have HLO : Hid (LowS (zD p)) := by have := HLW.out hf; rw [hbE] at this; exact this
 have HCC := zH (HCN.out HLO.out hf)
 have hcE : YD (zD p) = ((ptn (zD p) : Int), 0) := if_neg (by simpa using hvE)
 rw [hbE] at HB
 rw [hcE] at HCC
 have hpn : (zD p).n = (N : Int) := hF.n
 have hpt : p.t.n = (N : Int) := hF.pn
 have hn1 : 1 ≤ N ∧ N ≤ 3 := ⟨hF.n1, by omega⟩
 have hPT : 1 ≤ ptn (zD p) ∧ ptn (zD p) ≤ 700 := by
  have hx := Z4 hf hvE
  have hk := hF.k
  have hk6 := hF.k6
  have := Nat.mul_le_mul hx (show 1 ≤ (zD p).p.k.toNat + 1 by omega)
  have := Nat.mul_le_mul hF.lx (show (zD p).p.k.toNat + 1 ≤ 7 by omega)
  unfold ptn; omega
 have HMK : Hid (bits BinOp.and IntKind.i64 (c : Int) ((2 : Int) ^ N - 1) = ((c % 2 ^ p.t.n.toNat : Nat) : Int)) := by
  rw [hpt, Int.toNat_natCast]; exact and_mask hc hn1.2
 obtain ⟨R, hR⟩ : ∃ R, ((c % 2 ^ p.t.n.toNat : Nat) : Int) = R := ⟨_, rfl⟩
 rw [hR] at HMK HX2
 obtain ⟨T, hT⟩ : ∃ T, zD p = T := ⟨_, rfl⟩
 rw [hT] at HB HCC hpn hPT HX2
 obtain ⟨n, hn⟩ : ∃ n, ptn T = n := ⟨_, rfl⟩
 rw [hn] at HCC hPT HX2
 unfold RetSysF Sy.vs_ at HB
 unfold Sy.vs_ at HCC HX2
 have HX3 := zH (HX2.out rfl hbs0)
 have HPN := zH hpn
 have e0 : ((bs.length : Int) == 0) = false := by rw [beq_eq_false_iff_ne]; omega
 clear HBD HRB HLW HCN HLO hbE hvE hf h0 h60 hF hSe hcE hpn hpt hR hT hn HRR hbs HX1 HX2
 have p0 := za (HD0.out) 0 rfl
 have p1 := za (HD0.out) 1 rfl
 have p2 := za (HD0.out) 2 rfl
 have p3 := za (HD0.out) 3 rfl
 have p4 := za (HD0.out) 4 rfl
 have p5 := za (HD0.out) 5 rfl
 have p6 := za (HD0.out) 6 rfl
 go_wp2_with fail
 refine HB.out.mono ?_
 rintro e w3 ⟨A2, kc2, SV2, ks2, AV, kv, AX, kx, rfl, hSX, _, _, hb3⟩
 have B3 := zH (B2.out.trans (hb3.mono B2.out.size))
 have HSX := zH hSX
 have dz := zH ((hb3.block _ (zd dz.out)).trans dz.out)
 have HD1 := zH ((hb3.block _ (zd HD1.out)).trans HD1.out)
 have hs3 := hb3.size
 clear hSX hb3 HB HD0 p0 p1 p2 p3 p4 p5 p6 q0 q1 q2
 obtain ⟨WF, hWF, f1, f2, f3, f4⟩ := YU dz.out (.int .i64 T.p.t.n) (.int .i64 T.p.t.ins) (.int .i64 T.p.t.outs) (.slice A2 T.p.t.cases.length kc2) (.int .i64 T.p.a.n) (.slice SV2 T.p.a.sts.length ks2) (.int .i64 T.p.k) (.int .i64 T.n) (.slice AV T.vs.length kv) (.slice AX T.xs.length kx)
 obtain ⟨y0, y1, y2, y3, y4, y5, y6, y7, y8, y9⟩ := zx (dz.out)
 have g0 := zb (dz.out) 0
 have g1 := zb (dz.out) 1
 have g2 := zb (dz.out) 2
 have g3 := zb (dz.out) 3
 have g4 := zb (dz.out) 4
 have g5 := zb (dz.out) 5
 have g6 := zb (dz.out) 6
 have g7 := zb (dz.out) 7
 have g8 := zb (dz.out) 8
 have g9 := zb (dz.out) 9
 have lz := zd dz.out
 have HWF := zH hWF
 have dz := zH f1
 have BF := zH (B3.out.trans (f3 _ (by omega)))
 have HD1 := zH ((f2 _ (by omega)).trans HD1.out)
 have HSM := zH f2
 have HSY : Hid (SyAt WF WF.heap.size A2 SV2 AV AX T) := HSX.out WF (by omega) fun k h1 h2 => f2 k (by rcases h1 with h | h <;> omega)
 have hsF := f4
 clear hWF f1 f2 f3 f4
 go_upto_region 4 with fail
 rw [HWF.out]
 have HC := zH (HCC.out A2 SV2 AV AX kc2 ks2 kv kx WF HSY.out)
 have hsW : w.heap.size + 3 ≤ WF.heap.size := by omega
 clear HWF y0 y1 y2 y3 y4 y5 y6 y7 y8 y9 g0 g1 g2 g3 g4 g5 g6 g7 g8 g9 lz HCC B3 hs3
 obtain ⟨z0, z1, z2, z3, z4, z5, z6, z7, z8, z9⟩ := zx (dz.out)
 go_wp2_with fail
 refine HC.out.mono ?_
 rintro e w5 ⟨rfl, hb5⟩
 have B5 := zH (BF.out.trans (hb5.mono BF.out.size))
 have hs5 := hb5.size
 have dz := zH ((hb5.block _ (zd dz.out)).trans dz.out)
 have HD1 := zH ((hb5.block _ (zd HD1.out)).trans HD1.out)
 have HSM : Hid (∀ k, k ≠ w.heap.size + 2 → k < w3.heap.size → w5.heap[k]? = w3.heap[k]?) := fun k h1 h2 => (hb5.block k (by omega)).trans (HSM.out k h1)
 have hs35 : w3.heap.size ≤ w5.heap.size := by omega
 clear HSY
 clear hb5 BF HC z0 z1 z2 z3 z4 z5 z6 z7 z8 z9
 obtain ⟨hPT1, hPT2⟩ := hPT
 obtain ⟨hn1, hn3'⟩ := hn1
 have z7 := za dz.out 7 rfl
 rw [show (#[.int .i64 T.p.t.n, .int .i64 T.p.t.ins, .int .i64 T.p.t.outs, .slice A2 T.p.t.cases.length kc2, .int .i64 T.p.a.n, .slice SV2 T.p.a.sts.length ks2, .int .i64 T.p.k, .int .i64 T.n, .slice AV T.vs.length kv, .slice AX T.xs.length kx] : Array Value)[7] = .int .i64 (N : Int) from congrArg (Value.int .i64) HPN.out] at z7
 have i1 : ¬ (n : Int) < 1 := by omega
 have i2 : ¬ (1000 : Int) < (n : Int) := by omega
 have i3 : ¬ (N : Int) < 1 := by omega
 have i4 : ¬ (5 : Int) < (N : Int) := by omega
 have HPAT : Hid (∀ k, kF bs (k + 1) = kF bs k ++ [bs.getD (k % bs.length) false]) := fun k => patL_succ bs k
 have HPL : Hid (∀ k, (kF bs k).length = k) := fun k => gi bs k
 have hcw : IntKind.i64.wrap (c : Int) = (c : Int) := by rw [IntKind.wrap_i64]; omega
 have h2b : (1 : Int) ≤ (2 : Int) ^ N ∧ (2 : Int) ^ N ≤ 8 := by
  obtain rfl | rfl | rfl : N = 1 ∨ N = 2 ∨ N = 3 := by omega
  all_goals decide
 have h2w : IntKind.i64.wrap ((2 : Int) ^ N) = (2 : Int) ^ N := by rw [IntKind.wrap_i64]; omega
 have h2v : IntKind.i64.wrap ((2 : Int) ^ N - 1) = (2 : Int) ^ N - 1 := by rw [IntKind.wrap_i64]; omega
 have hmk := HMK.out
 clear h2b
 have n0 : ¬ (bs.length : Int) = 0 := by omega
 have n1 : ¬ bs = [] := by rintro rfl; simp at hbs0
 go_wp2_with fail
 go_loopw [6, 60] (fun o i wr => ∃ k : Nat, k ≤ n ∧ i = .int .i64 (k : Int) ∧ Hid (OwnR kBl wr w5.heap.size o k ((kF bs k).map .bool)) ∧ Hid (Below w5.heap.size w5 wr)) (fun _ i _ => n - (intOf i).toNat)
 case atStart => exact ⟨0, by omega, rfl, OwnR.nil _ _ _, Below.refl _ _⟩
 case round =>
  obtain ⟨k, hk, rfl, HO, hb⟩ := hrel
  have hsz := hb.out.size
  obtain ⟨Ao, co, rfl, _, _, _⟩ := HO.out.form
  have HD1 := zH ((hb.out.block _ (zd HD1.out)).trans HD1.out)
  by_cases hlt : k < n
  · have hmod := Nat.mod_lt k hbs0
    obtain ⟨b, off, rfl, hbl, z0⟩ := (HBS.out wr (B5.out.trans (hb.out.mono (by have := B5.out.size; omega)))).at_ (k % bs.length) hmod
    obtain ⟨v, hv⟩ : ∃ v, bs[k % bs.length] = v := ⟨_, rfl⟩
    rw [hv] at z0
    have HTK : Hid ((kF bs (k + 1)).map Value.bool = (kF bs k).map .bool ++ #[Value.bool v].toList) := by
     show _ = _
     rw [HPAT.out, List.map_append, List.getD_eq_getElem?_getD, List.getElem?_eq_getElem hmod, hv]; rfl
    obtain ⟨m, hm⟩ : ∃ m, k % bs.length = m := ⟨_, rfl⟩
    rw [hm] at hmod z0
    have hk0 : (0 : Int) ≤ (k : Int) := by omega
    have hk1 : (k : Int) < (n : Int) := by omega
    have t0 : Int.tmod (k : Int) (bs.length : Int) = (m : Int) := by rw [← hm]; exact (Int.ofNat_tmod k bs.length).symm
    have m0 : (0 : Int) ≤ (m : Int) := by omega
    have m1 : (m : Int) < (bs.length : Int) := by omega
    have hwr : w.heap.size + 3 ≤ wr.heap.size := by omega
    clear hv hm
    go_upto_region 10 with fail
    refine zr [(0, true), (1, true), (2, true), (3, true), (4, true), (5, true), (6, true), (7, true), (8, true), (9, true), (10, false), (11, false), (12, false)] (fun X => X.heap[w.heap.size + 1]? = some (.cells #[.int .u8 (c : Int), .slice (some ⟨b, off, none⟩) bs.length kb, .int .u16 cq] 71 (0, 0)) ∧ X.cell? ⟨b, off + m, none⟩ = some (.bool v)) (by kernel_rfl) (by kernel_rfl) ⟨HD1.out, z0⟩ ?_
    repeat
     apply zA rfl
     · rintro K' hK' X ⟨u, z⟩
       have q1 := za u 1 rfl
       clear u
       go_simp
       exact hK'
    refine zC rfl ?_
    intro K' hK'
    go_simp
    obtain ⟨W2, hW2, d2, hs2, hb2⟩ := Yj wr #[.bool v] 4
    rw [hW2]
    have HB2 := zH (hb.out.trans (hb2.mono hsz))
    have HO2 := zH (HO.out.below hb2 (Nat.le_refl _))
    have hsz2 := HB2.out.size
    have HD2 := zH ((hb2.block _ (zd HD1.out)).trans HD1.out)
    have y0 := (hb2.cell (p := ⟨b, off + m, none⟩) (by show b < wr.heap.size; omega)).trans z0
    refine hK' _ _ ⟨HD2.out, y0⟩ ?_
    clear hK' K' hW2
    refine zC rfl ?_
    intro K' hK'
    rw [if_pos (by rfl)]
    refine kA kBl_ok (.tmp 63) (.tmp 73) (by rfl) w5.heap.size (.slice Ao k co) k ((kF bs k).map .bool) (by rfl) HO2.out wr.heap.size #[.bool v] (by rfl) d2 rfl (by simp [Value.oneCell']) (by omega) hsz2 _ rfl ?_
    intro g' cap' w4 hr4 hg4 hat4 hlt4
    have HR4 : Hid (OwnR kBl w4 w5.heap.size (.slice (some ⟨g', 0, none⟩) (k + 1) cap') (k + 1) ((kF bs (k + 1)).map .bool)) := by rw [HTK.out]; exact hr4
    have HB4 : Hid (Below w5.heap.size w5 w4) := HB2.out.grown hg4 hsz2 (fun k hk => (HO2.out.lt k hk).1)
    have hb24 : Below w5.heap.size W2 w4 := (Below.refl _ _).grown hg4 hsz2 (fun k hk => (HO2.out.lt k hk).1)
    have HK4 := zH (And.intro ((hb24.block _ (by omega)).trans HD2.out) ((hb24.cell (p := ⟨b, off + m, none⟩) (by show b < w5.heap.size; omega)).trans y0))
    refine hK' _ _ HK4.out ?_
    clear hK' K' hr4 hg4 hat4 hb24 y0 d2 hb2 HO2
    refine zC rfl ?_
    intro K' hK'
    go_simp
    refine hK' _ _ HK4.out ?_
    refine zG ?_
    clear hK' K' HK4
    go_wp2_with fail
    go_roundw
    case rel => exact ⟨k + 1, by omega, by go_num, HR4, HB4⟩
    case measure => simp [intOf]; omega
  · obtain rfl : n = k := by omega
    have dz2 : wr.heap[w.heap.size + 1 + 1]? = some (.cells #[.int .i64 T.p.t.n, .int .i64 T.p.t.ins, .int .i64 T.p.t.outs, .slice A2 T.p.t.cases.length kc2, .int .i64 T.p.a.n, .slice SV2 T.p.a.sts.length ks2, .int .i64 T.p.k, .int .i64 (N : Int), .slice AV T.vs.length kv, .slice AX T.xs.length kx] 35 (0, 0)) := by rw [← HPN.out]; exact (hb.out.block _ (zd dz.out)).trans dz.out
    have HDD : Hid (wr.heap[w.heap.size + 1]? = some (.cells #[.int .u8 (c : Int), .slice AB bs.length kb, .int .u16 cq] 71 (0, 0))) := HD1.out
    have HDZ := zH dz2
    obtain ⟨WG, hWG, f1, f2, f3, f4⟩ := YU dz2 (.int .i64 T.p.t.n) (.int .i64 T.p.t.ins) (.int .i64 T.p.t.outs) (.slice A2 T.p.t.cases.length kc2) (.int .i64 T.p.a.n) (.slice SV2 T.p.a.sts.length ks2) (.int .i64 T.p.k) (.int .i64 (N : Int)) (.slice AV T.vs.length kv) (.slice AX T.xs.length kx)
    obtain ⟨y0, y1, y2, y3, y4, y5, y6, y7, y8, y9⟩ := zx dz2
    have g0 := zb dz2 0
    have g1 := zb dz2 1
    have g2 := zb dz2 2
    have g3 := zb dz2 3
    have g4 := zb dz2 4
    have g5 := zb dz2 5
    have g6 := zb dz2 6
    have g7 := zb dz2 7
    have g8 := zb dz2 8
    have g9 := zb dz2 9
    have lz := zd dz2
    have HWG := zH hWG
    have HG2 := zH f2
    have HBG := zH (B5.out.trans ((hb.out.mono (by omega)).trans (f3 _ (by omega : w.heap.size ≤ w.heap.size + 1 + 1))))
    have HKG := zH (And.intro f1 ((f2 _ (by omega)).trans HDD.out))
    have HSG : Hid (SyAt WG WG.heap.size A2 SV2 AV AX T) := HSX.out WG (by omega) fun k h1 h2 => (f2 k (by rcases h1 with h | h <;> omega)).trans ((hb.out.block k (by omega)).trans (HSM.out k (by rcases h1 with h | h <;> omega) h2))
    have HQG : Hid (BAt WG WG.heap.size Ao (kF bs n)) := BAt.of_own HO.out (HPL.out n) (fun k hk => f2 k (by omega)) (by omega)
    clear dz2 hWG f1 f2 f3 f4
    go_upto_region 12 with fail
    refine zr [(0, true), (1, true), (2, true), (3, true), (4, true), (5, true), (6, true), (7, true), (8, true), (9, true), (10, true), (11, false), (12, false), (13, false), (14, false)] (fun X => X.heap[w.heap.size + 1 + 1]? = some (.cells #[.int .i64 T.p.t.n, .int .i64 T.p.t.ins, .int .i64 T.p.t.outs, .slice A2 T.p.t.cases.length kc2, .int .i64 T.p.a.n, .slice SV2 T.p.a.sts.length ks2, .int .i64 T.p.k, .int .i64 (N : Int), .slice AV T.vs.length kv, .slice AX T.xs.length kx] 35 (0, 0)) ∧ X.heap[w.heap.size + 1]? = some (.cells #[.int .u8 (c : Int), .slice AB bs.length kb, .int .u16 cq] 71 (0, 0))) (by kernel_rfl) (by kernel_rfl) ⟨HDZ.out, HDD.out⟩ ?_
    repeat
     apply zA rfl
     · rintro K' hK' X ⟨u, v⟩
       have q0 := za v 0 rfl
       obtain ⟨p0, p1, p2, p3, p4, p5, p6, p7, p8, p9⟩ := zx u
       clear u v
       go_simp
       exact hK'
    refine zC rfl ?_
    intro K' hK'
    go_simp
    rw [HWG.out]
    refine hK' _ _ HKG.out ?_
    clear hK' K'
    refine zC rfl ?_
    intro K' hK'
    go_simp
    refine hK' _ _ HKG.out ?_
    clear hK' K'
    refine zC rfl ?_
    intro K' hK'
    go_simp
    refine hK' _ _ HKG.out ?_
    clear hK' K'
    refine zC rfl ?_
    intro K' hK'
    go_simp
    refine hK' _ _ HKG.out ?_
    clear hK' K'
    refine zG ?_
    obtain ⟨z0, z1, z2, z3, z4, z5, z6, z7, z8, z9⟩ := zx HKG.out.1
    clear y0 y1 y2 y3 y4 y5 y6 y7 y8 y9 g0 g1 g2 g3 g4 g5 g6 g7 g8 g9
    go_wp2_with fail
    refine bodyPost_ret (v := .tuple #[.agg #[.int .i64 T.p.t.n, .int .i64 T.p.t.ins, .int .i64 T.p.t.outs, .slice A2 T.p.t.cases.length kc2, .int .i64 T.p.a.n, .slice SV2 T.p.a.sts.length ks2, .int .i64 T.p.k, .int .i64 (N : Int), .slice AV T.vs.length kv, .slice AX T.xs.length kx], .int .i64 R, .slice Ao n co, .bool true]) (by simp [results, Tryz.results33, go_sem, z0, z1, z2, z3, z4, z5, z6, z7, z8, z9]) rfl ?_
    rw [← HPN.out]
    exact HX3.out A2 kc2 SV2 ks2 AV kv AX kx Ao co WG.drew HBG.out.drew (HSG.out.up (Below.refl _ _).drew) HQG.out
end
section
theorem snocI {α : Type} {P : List α → Prop} (h0 : P []) (hs : ∀ l x, P l → P (l ++ [x])) (l : List α) : P l := by
 rw [← List.reverse_reverse l]
 induction l.reverse with
 | nil => exact h0
 | cons x t ih => rw [List.reverse_cons]; exact hs _ _ ih
end
section
def jF (ls : List Int) (set : List Bool) : Nat → Int → Option Value
 | 0 => fun _ => none
 | k + 1 => if set.getD k false then jF ls set k else qe (jF ls set k) (ls.getD k 0) (.bool true)
theorem kN (ls : List Int) (set : List Bool) (v : Int) : ∀ k, (jF ls set k v = some (.bool true) ∧ ∃ i, i < k ∧ ls.getD i 0 = v ∧ set.getD i false = false) ∨ (jF ls set k v = none ∧ ∀ i, i < k → ls.getD i 0 = v → set.getD i false = true)
 | 0 => .inr ⟨rfl, fun i h => by omega⟩
 | k + 1 => by
  unfold jF
  cases hs : set.getD k false with
  | true =>
   rw [if_pos rfl]
   rcases kN ls set v k with ⟨h1, i, h2, h3, h4⟩ | ⟨h1, h2⟩
   · exact .inl ⟨h1, i, by omega, h3, h4⟩
   · refine .inr ⟨h1, fun i hi he => ?_⟩
     by_cases e : i = k
     · subst e; exact hs
     · exact h2 i (by omega) he
  | false =>
   rw [if_neg (by simp)]
   unfold qe
   by_cases e : v = ls.getD k 0
   · rw [if_pos e]; exact .inl ⟨rfl, k, by omega, e.symm, hs⟩
   · rw [if_neg e]
     rcases kN ls set v k with ⟨h1, i, h2, h3, h4⟩ | ⟨h1, h2⟩
     · exact .inl ⟨h1, i, by omega, h3, h4⟩
     · refine .inr ⟨h1, fun i hi he => ?_⟩
       by_cases e2 : i = k
       · subst e2; exact absurd he.symm e
       · exact h2 i (by omega) he
def wg (n : Nat) (ls : List Int) (set : List Bool) : List Bool := (List.range n).map fun i => decide (∀ j, j < n → ls.getD j 0 = ls.getD i 0 → set.getD j false = true)
theorem qC (n : Nat) (ls : List Int) (set : List Bool) : (wg n ls set).length = n := by simp [wg]
theorem Jw {n : Nat} {ls : List Int} {set : List Bool} {i : Nat} (h : i < n) : (wg n ls set)[i]'(by rw [qC]; exact h) = decide (∀ j, j < n → ls.getD j 0 = ls.getD i 0 → set.getD j false = true) := by simp [wg]
theorem insL_brk {n : Nat} {ls : List Int} {set : List Bool} {i : Nat} (h : i < n) : (wg n ls set)[i]'(by rw [qC]; exact h) = (jF ls set n (ls.getD i 0)).isNone := by
 rw [Jw h]
 rcases kN ls set (ls.getD i 0) n with ⟨h1, j, h2, h3, h4⟩ | ⟨h1, h2⟩
 · rw [h1]
   refine decide_eq_false fun ha => ?_
   have := ha j h2 h3
   rw [h4] at this; cases this
 · rw [h1]; exact decide_eq_true h2
def js (n : Nat) (a b : List Bool) : List Bool := (List.range n).map fun i => a.getD i false && b.getD i false
theorem xM (n : Nat) (a b : List Bool) : (js n a b).length = n := by simp [js]
theorem YI {n : Nat} {a b : List Bool} {i : Nat} (h : i < n) : (js n a b)[i]'(by rw [xM]; exact h) = (a.getD i false && b.getD i false) := by simp [js]
def evL (n : Nat) (cls : Nat → List Int) (ps : List Nat) (set : List Bool) : List Bool := ps.foldl (fun o p => js n o (wg n (cls p) set)) (List.replicate n true)
theorem jA (n : Nat) (cls : Nat → List Int) (set : List Bool) (ps : List Nat) : (evL n cls ps set).length = n := by
 unfold evL
 refine snocI (P := fun ps => (ps.foldl (fun o p => js n o (wg n (cls p) set)) (List.replicate n true)).length = n) (by simp) (fun l x _ => ?_) ps
 rw [List.foldl_append]; exact xM _ _ _
theorem XQ (n : Nat) (cls : Nat → List Int) (set : List Bool) (ps : List Nat) (p : Nat) : evL n cls (ps ++ [p]) set = js n (evL n cls ps set) (wg n (cls p) set) := by unfold evL; rw [List.foldl_append]; rfl
theorem Yz {n : Nat} {cls : Nat → List Int} {set : List Bool} {i : Nat} (h : i < n) (ps : List Nat) : (evL n cls ps set).getD i false = true ↔ ∀ p ∈ ps, ∀ j, j < n → (cls p).getD j 0 = (cls p).getD i 0 → set.getD j false = true := by
 refine snocI (P := fun ps => (evL n cls ps set).getD i false = true ↔ ∀ p ∈ ps, ∀ j, j < n → (cls p).getD j 0 = (cls p).getD i 0 → set.getD j false = true) ?_ (fun l x ih => ?_) ps
 · simp [evL, List.getD_eq_getElem?_getD, h]
 · rw [XQ, yh (by rw [xM]; exact h), YI h, Bool.and_eq_true, ih, yh (by rw [qC]; exact h), Jw h, decide_eq_true_iff]
   constructor
   · rintro ⟨h1, h2⟩ p hp
     rcases List.mem_append.1 hp with hp | hp
     · exact h1 p hp
     · rw [List.mem_singleton] at hp; subst hp; exact h2
   · exact fun h1 => ⟨fun p hp => h1 p (List.mem_append_left _ hp), h1 x (by simp)⟩
end
end Go.Proofs.YtdkmpccfnnpnbaaGreat
