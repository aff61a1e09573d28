/- procset.Least: a range over the elements with a return out of its body. -/
import Derived.Test.YtppklecmlkicaaaDoorProg
import Derived.Test.YtppklecmlkicaaaDoorLeast
import Derived.Deep.QuietTactic
import Derived.BigQuiet
import Derived.StillTactics
namespace Go.Proofs.YtppklecmlkicaaaDoor
open Go.RowKit Go.Shelf

attribute [local go_sem] Oper.semAt_some

section
variable {P : Program}
theorem leaves_marks2 {fn : Func} {tmps : Array Value} {R : Ending → World → Prop} {B n : Nat} :
    ∀ (rs : List Nat) (w : World), rs.Nodup → (∀ r ∈ rs, B ≤ r ∧ w.heap[r]? = some (.deferred (some []))) → (∀ W, Shut B w W → ∃ v, (results fn tmps).run P W = .ok v W ∧ R (.returned v) W) →
      LeavesInM Fence.wide n P fn tmps R (rs.map (fun r => { target := .collected r, args := #[] })) .returning w
  | [], w, _, _, hR => hR w (Shut.refl _ _)
  | r :: rs, w, hn, hm, hR => by
    obtain ⟨hr, hn'⟩ := List.nodup_cons.1 hn
    obtain ⟨hB, hk⟩ := hm r (by simp)
    refine ⟨by simp, .inl ⟨r, _, rfl, run_takeDeferred hk, ?_⟩⟩
    refine leaves_marks2 rs _ hn' (fun r' hr' => ⟨(hm r' (by simp [hr'])).1, ?_⟩) (fun W hW => hR W ?_)
    · rw [World.putObj_heap_other (by rintro rfl; exact hr hr')]
      exact (hm r' (by simp [hr'])).2
    · refine ⟨((Below.refl B w).grown (grownBy_putObj' w r (.deferred none)) (by have := (Array.getElem?_eq_some_iff.1 hk).1; omega) (fun k e => by cases e; exact hB)).trans hW.below, fun k o ho hc => ?_⟩
      refine hW.same k o ?_ hc
      by_cases e : k = r
      · subst e; rw [hk] at ho; cases ho; cases hc
      · exact (World.putObj_heap_other e).trans ho
theorem ret_marks2 {fn : Func} {R : Ending → World → Prop} {a : Act} {w : World} {B : Nat} (hm : Marks B a.defers w)
    (hR : ∀ W, Shut B w W → ∃ v, (results fn a.tmps).run P W = .ok v W ∧ R (.returned v) W) : bodyPostM Fence.wide 9 P fn R .ret a w := by
  obtain ⟨rs, hd, hn, hk⟩ := hm
  show LeavesInM Fence.wide 9 P fn a.tmps R a.defers .returning w
  rw [hd]
  exact leaves_marks2 rs w hn hk hR
end

theorem Marks.one {B D : Nat} {w : World} (hB : B ≤ D) (hk : w.heap[D]? = some (.deferred (some []))) : Marks B [{ target := .collected D, args := #[] }] w :=
  ⟨[D], rfl, by simp, fun r hr => by simp only [List.mem_singleton] at hr; subst hr; exact ⟨hB, hk⟩⟩

/-- Two boxes of integers, ahead of a range. -/
structure Two (B : Nat) (v e : Int) (w W : World) : Prop where
  below : Below B w W
  b0 : W.heap[B]? = some (.cells #[.int .i64 v] 3 (0, 0))
  b1 : W.heap[B + 1]? = some (.cells #[.int .i64 e] 25 (0, 0))
theorem Two.turn {B : Nat} {v e : Int} {w W W' : World} {row : Option Nat} (h : Two B v e w W) (hg : W.grownBy W' row) (hr : ∀ r, row = some r → B ≤ r ∧ ∃ o : Obj, W.heap[r]? = some o ∧ o.isCells = false) : Two B v e w W' :=
  ⟨h.below.grown hg (by have := (Array.getElem?_eq_some_iff.1 h.b0).1; omega) (fun k hk => (hr k hk).1), (grownBy_keeps_cells hg (fun r e => (hr r e).2) h.b0 rfl).trans h.b0, (grownBy_keeps_cells hg (fun r e => (hr r e).2) h.b1 rfl).trans h.b1⟩
theorem Two.set {B : Nat} {v e : Int} {w W : World} (h : Two B v e w W) (v' e' : Int) : Two B v' e' w ((W.setCell ⟨B, 0, none⟩ (.int .i64 v')).setCell ⟨B + 1, 0, none⟩ (.int .i64 e')) := by
  obtain ⟨x1, x2, x3⟩ := set_box h.b0 (.int .i64 v')
  have hb1 := (x3 (B + 1) (by omega)).trans h.b1
  obtain ⟨y1, y2, y3⟩ := set_box hb1 (.int .i64 e')
  exact ⟨(h.below.setCell (Nat.le_refl _) _).setCell (by simp) _, (y3 B (by omega)).trans x1, y1⟩
theorem Two.keeps {B D : Nat} {v e : Int} {w W : World} (h : Two B v e w W) (v' e' : Int) : KeepsFrom D W ((W.setCell ⟨B, 0, none⟩ (.int .i64 v')).setCell ⟨B + 1, 0, none⟩ (.int .i64 e')) := by
  obtain ⟨x1, x2, x3⟩ := set_box h.b0 (.int .i64 v')
  have hb1 := (x3 (B + 1) (by omega)).trans h.b1
  obtain ⟨y1, y2, y3⟩ := set_box hb1 (.int .i64 e')
  refine ⟨by omega, fun k o _ hk ho => ?_⟩
  have k0 : k ≠ B := by rintro rfl; rw [h.b0] at hk; cases hk; cases ho
  have k1 : k ≠ B + 1 := by rintro rfl; rw [h.b1] at hk; cases hk; cases ho
  exact (y3 k k1).trans ((x3 k k0).trans hk)

theorem low_first {x : Int} {R : List Int} {t : Nat} (h : x :: R = intL (bitsL t)) : bitsL t ≠ [] ∧ x = (low t : Int) := by
  unfold low
  obtain ⟨l, hl⟩ : ∃ l, bitsL t = l := ⟨_, rfl⟩
  rw [hl] at h ⊢
  cases l with
  | nil => cases h
  | cons a l =>
    rw [intL_cons] at h
    exact ⟨by simp, (List.cons.inj h).1⟩
set_option maxRecDepth 100000 in
set_option maxHeartbeats 2000000 in
theorem least_any (n s : Int) (w : World) (hT : Tab w) (h2 : 2 ≤ w.heap.size) : Calls Tryd.prog 24 #[.int .i64 n, .int .i64 s] w (RetPair (leastE n s) w) := by
  have HE1 := Lib.hid (@leastE_bad n s)
  have HE2 := Lib.hid (@leastE_none n s)
  have HE3 := Lib.hid (@leastE_some n s)
  have HT := Lib.hid hT
  clear hT
  refine calls_of_marks Tryd.func24 rfl ?_
  simp only [Tryd.ntmps24, List.size_toArray, List.length_cons, List.length_nil, Nat.reduceAdd, Nat.reduceSub, Array.replicate_succ, Array.replicate_zero, List.push_toArray, List.append_toArray, List.nil_append, List.cons_append]
  have hc := check_any n s ((w.alloc (.cells #[.int .i64 0] 3)).alloc (.cells #[.int .i64 0] 25))
  have hok := @check_ok n s
  obtain ⟨k, hk⟩ : ∃ k, checkSE n s = k := ⟨_, rfl⟩
  rw [hk] at hc hok HE1 HE2 HE3
  clear hk
  have HOK := Lib.hid hok
  clear hok
  go_wp2_with fail
  refine hc.mono ?_
  rintro e w1 ⟨rfl, rfl⟩
  clear hc
  obtain ⟨w2, hw2⟩ : ∃ w2, w2 = (w.alloc (.cells #[.int .i64 0] 3)).alloc (.cells #[.int .i64 0] 25) := ⟨_, rfl⟩
  have hTw : Two w.heap.size 0 0 w w2 := by
    rw [hw2]
    exact ⟨bel2 _ _ _, blk_old (blk_new _ _) _, by have := blk_new (w.alloc (.cells #[.int .i64 0] 3)) (.cells #[.int .i64 0] 25); rwa [World.size_alloc] at this⟩
  have hz2 : w.heap.size + 2 ≤ w2.heap.size := by rw [hw2]; simp
  rw [← hw2]
  clear hw2
  have q0 := blk_cell hTw.b0 0 rfl
  have q1 := blk_cell hTw.b1 0 rfl
  have f0 := blk_froz hTw.b0 0
  have f1 := blk_froz hTw.b1 0
  have H2 := Lib.hid hTw
  clear hTw
  by_cases h0 : k = 0
  · subst h0
    obtain ⟨m, t, rfl, rfl, _, _, _, h32⟩ := HOK.out rfl
    go_wp2_with fail
    refine (elements_any t w2).mono ?_
    rintro e W ⟨rfl, hW⟩
    have hb := blk_new w2 (.cells #[.int .i64 t] 3)
    have hB : Below w2.heap.size w2 W := by rw [← hW]; exact bel1 _ _
    have hs1 : W.heap.size = w2.heap.size + 1 := by rw [← hW]; simp
    rw [hW] at hb
    have hTW : Two w.heap.size 0 0 w W := ⟨H2.out.below.trans (hB.mono (by omega)), blk_below H2.out.b0 hB (by omega), blk_below H2.out.b1 hB (by omega)⟩
    have hit := elements1_iter t h32 _ W hb ((HT.out.keep H2.out.below h2).keep hB (by omega))
    have HW := Lib.hid hTW
    have HIT := Lib.hid hit
    clear hW hb hB hTW hit q0 q1 f0 f1
    go_wp2_with fail
    refine wp_range rfl (enters_of Tryd.func64 (by kernel_rfl) rfl) HIT.out (by rintro k (rfl | rfl) <;> omega) (fun _ => rfl)
      (fun (pre : List { x : Int // x ∈ intL (bitsL t) }) W => pre = [] ∧ Two w.heap.size 0 0 w W) (fun c pre W => c = .ret ∧ ∃ x, pre = [x] ∧ Two w.heap.size x.1 0 w W) (fun _ _ _ _ h hg hr => ⟨h.1, h.2.turn hg (fun r e => ⟨by have := (hr r e).1; omega, (hr r e).2⟩)⟩)
      (fun _ _ _ _ _ ⟨h1, x, h3, h⟩ hg hr => ⟨h1, x, h3, h.turn hg (fun r e => ⟨by have := (hr r e).1; omega, (hr r e).2⟩)⟩)
      ⟨rfl, HW.out⟩ ?a1 ?assign ?body ?done ?stop
    case assign =>
      intro l x W K hK
      gi_wp2
      exact hK
    case body =>
      intro l pre x W hI hlt
      obtain ⟨rfl, hI⟩ := hI
      have q0 := blk_cell hI.b0 0 rfl
      have q1 := blk_cell hI.b1 0 rfl
      have f0 := blk_froz hI.b0 0
      have f1 := blk_froz hI.b1 0
      have HI := Lib.hid hI
      clear hI
      gi_wp2_with fail
      exact ⟨HI.out.keeps x.1 0, rfl, x, rfl, HI.out.set x.1 0⟩
    case done =>
      intro D ys W hD hys hI hDk
      obtain ⟨rfl, hI⟩ := hI
      have hz : bitsL t = [] := by
        have : intL (bitsL t) = [] := hys.symm
        simpa [intL] using this
      have HM := Lib.hid (HE2.out (by simp) hz)
      have q0 := blk_cell hI.b0 0 rfl
      have q1 := blk_cell hI.b1 0 rfl
      have f0 := blk_froz hI.b0 0
      have f1 := blk_froz hI.b1 0
      have HI := Lib.hid hI
      have HD := Lib.hid hDk
      clear hI HE1 HE2 HE3 hys hDk hz
      go_wp2_with fail
      refine ret_marks2 (B := w.heap.size) (Marks.one (by omega) ((HI.out.keeps (D := D) 0 16).same D _ (Nat.le_refl _) HD.out rfl)) ?_
      intro W hS
      have hx := HI.out.set 0 16
      have c0 := hS.cell (blk_cell hx.b0 0 rfl)
      have c1 := hS.cell (blk_cell hx.b1 0 rfl)
      refine ⟨.tuple #[.int .i64 0, .int .i64 16], ?_, RetPair.of HM.out (hx.below.trans hS.below)⟩
      clear hS hx q0 q1 f0 f1 HM
      simp [results, Tryd.results24, go_sem, c0, c1]
    case stop =>
      intro D c pre W hD hpre hI hDk
      obtain ⟨rfl, x, rfl, hI⟩ := hI
      obtain ⟨R, hR⟩ := hpre
      have hR2 : x.1 :: R = intL (bitsL t) := hR
      have hx : bitsL t ≠ [] ∧ x.1 = (low t : Int) := low_first hR2
      have HM := Lib.hid (HE3.out (by simp) hx.1)
      obtain ⟨x, hxm⟩ := x
      obtain rfl : x = (low t : Int) := hx.2
      have HI := Lib.hid hI
      have HD := Lib.hid hDk
      clear hI HE1 HE2 HE3 hDk hx hR hR2
      go_wp2_with fail
      refine ret_marks2 (B := w.heap.size) (Marks.one (by omega) HD.out) ?_
      intro W hS
      have c0 := hS.cell (blk_cell HI.out.b0 0 rfl)
      have c1 := hS.cell (blk_cell HI.out.b1 0 rfl)
      refine ⟨.tuple #[.int .i64 (low t : Int), .int .i64 0], ?_, RetPair.of HM.out (HI.out.below.trans hS.below)⟩
      clear hS HM HI HD
      simp [results, Tryd.results24, go_sem, c0, c1]
  · have HM := Lib.hid (HE1.out h0)
    clear HE1 HE2 HE3
    go_wp2_with fail
    refine ret_marks2 (B := w.heap.size) (Marks.nil _ _) ?_
    intro W hS
    have hx := H2.out.set 0 k
    have c0 := hS.cell (blk_cell hx.b0 0 rfl)
    have c1 := hS.cell (blk_cell hx.b1 0 rfl)
    refine ⟨.tuple #[.int .i64 0, .int .i64 k], ?_, RetPair.of HM.out (hx.below.trans hS.below)⟩
    clear hS hx q0 q1 f0 f1 HM
    simp [results, Tryd.results24, go_sem, c0, c1]
end Go.Proofs.YtppklecmlkicaaaDoor
