/- procset.collected[int]. -/
import Derived.Test.YtppklecmlkicaaaDoorProg
import Derived.Test.YtppklecmlkicaaaDoorBox
import Derived.Test.YtppklecmlkicaaaDoorBitsA
import Derived.Test.YtppklecmlkicaaaDoorElems
import Derived.Deep.QuietTactic
import Derived.BigQuiet
import Derived.StillTactics
namespace Go.Proofs.YtppklecmlkicaaaDoor
open Go.RowKit Go.Shelf

attribute [local go_sem] Oper.semAt_some

theorem BoxIn.drewN {B g : Nat} {xs : List Int} {w2 W : World} (h : BoxIn B g xs w2 W) (m : Nat) : BoxIn B g xs w2 (W.drewN m) :=
  ⟨h.box, ⟨belN h.non.below m, h.non.same⟩, h.rest⟩

theorem every_any (x : Int) (w : World) : Calls Tryd.prog 43 #[.int .i64 x] w fun e w' => e = .returned (.bool true) ∧ ∃ m, w' = w.drewN m := by
  go_enter Tryd.func43, Tryd.ntmps43
  go_wp2
  go_ret
  exact ⟨rfl, 0, rfl⟩

set_option maxRecDepth 100000 in
set_option maxHeartbeats 4000000 in
theorem collected_any (gf : Nat) (lb : Array Value) (eg : Enters Tryd.prog gf) (kf : Nat) (kb : Array Value) (ek : Enters Tryd.prog kf) (K : Nat → Prop) (xs : List Int) (p : Int → Bool) (hlen : xs.length ≤ 1000) (w : World) (hK : ∀ k, K k → k < w.heap.size)
    (hseq : ∀ W, Below w.heap.size w W → Iter Tryd.prog gf lb (fun x : Int => #[.int .i64 x]) K xs W)
    (hok : ∀ x, x ∈ xs → ∀ W, Below w.heap.size w W → Calls Tryd.prog kf (#[.int .i64 x] ++ kb) W fun e w' => e = .returned (.bool (p x)) ∧ ∃ m, w' = W.drewN m) :
    Calls Tryd.prog 41 #[.func (.func gf) #[] lb, .func (.func kf) #[] kb] w (RetInts (xs.filter p) w) := by
  refine calls_of_marks Tryd.func41 rfl ?_
  simp only [Tryd.ntmps41, List.size_toArray, List.length_cons, List.length_nil, Nat.reduceAdd, Nat.reduceSub, Array.replicate_succ, Array.replicate_zero, List.push_toArray, List.append_toArray, List.nil_append, List.cons_append]
  have HS := Lib.hid hseq
  have HO := Lib.hid hok
  clear hseq hok
  go_wp2_with fail
  obtain ⟨w2, hw2⟩ : ∃ w2, w2 = (w.alloc (.cells #[.func (.func kf) #[] kb] 62)).alloc (.cells #[.slice none 0 0] 22) := ⟨_, rfl⟩
  have hB : Below w.heap.size w w2 := by rw [hw2]; exact bel2 _ _ _
  have hb0 : w2.heap[w.heap.size]? = some (.cells #[.func (.func kf) #[] kb] 62 (0, 0)) := by rw [hw2]; exact blk_old (blk_new _ _) _
  have hb1 : w2.heap[w.heap.size + 1]? = some (.cells #[.slice none 0 0] 22 (0, 0)) := by
    rw [hw2]
    have := blk_new (w.alloc (.cells #[.func (.func kf) #[] kb] 62)) (.cells #[.slice none 0 0] 22)
    rwa [World.size_alloc] at this
  have hsz : w2.heap.size = w.heap.size + 2 := by rw [hw2]; simp
  have B2 : BoxIn w.heap.size (w.heap.size + 1) [] w2 w2 := BoxIn.start hb1 (Own.nil _ _)
  rw [← hw2]
  clear hw2
  have hq := HS.out w2 hB
  have HB := Lib.hid hB
  have H0 := Lib.hid hb0
  clear hB hb0 hb1
  refine wp_range rfl eg hq (fun k hk => by have := hK k hk; omega) (fun _ => rfl)
    (fun (pre : List { x : Int // x ∈ xs }) W => BoxIn w.heap.size (w.heap.size + 1) ((pre.map Subtype.val).filter p) w2 W) (fun _ _ _ => False) (fun _ _ _ _ h hg hr => h.turn (by omega) hg hr) (fun _ _ _ _ _ h _ _ => h)
    B2 ?a1 ?assign ?body ?done ?stop
  case assign =>
    intro l x W K hK
    gi_wp2
    exact hK
  case body =>
    intro l pre x W hI hlt
    obtain ⟨ys, hys⟩ : ∃ ys, (pre.map Subtype.val).filter p = ys := ⟨_, rfl⟩
    have hyl : ys.length ≤ 1000 := by
      rw [← hys]
      refine Nat.le_trans (List.length_filter_le _ _) ?_
      simp; omega
    have hsnoc : ((pre ++ [x]).map Subtype.val).filter p = if p x.1 = true then ys ++ [x.1] else ys := by
      rw [List.map_append, List.filter_append, hys]
      by_cases hp : p x.1 = true
      · simp [hp]
      · simp [hp]
    rw [hys] at hI
    obtain ⟨P2, c2, hbx2, ho2⟩ := hI.box
    have q6 := blk_cell hbx2 0 rfl
    have h0 := hI.rest _ _ _ H0.out (by decide) (by omega)
    have q0 := blk_cell h0 0 rfl
    have hbl := HB.out.trans hI.non.below
    have hok := HO.out x.1 x.2 W hbl
    have HK := Lib.hid hok
    have HIb := Lib.hid hI
    have HOw := Lib.hid ho2
    have HB2 := Lib.hid hbx2
    have HSn := Lib.hid hsnoc
    clear hI ho2 hbx2 hsnoc h0 hbl hok hys
    gi_wp2_with fail
    refine ⟨trivial, ?_⟩
    rw [ek]
    refine ⟨fun _ => by omega, (CallsIn.inRound l ((callsIn_wide (n := 6)).2 HK.out)).mono ?_⟩
    rintro e w' ⟨rfl, m, rfl⟩
    obtain ⟨X, hX⟩ : ∃ X, X = W.drewN m := ⟨_, rfl⟩
    have HIb : Hid (BoxIn w.heap.size (w.heap.size + 1) ys w2 X) := by rw [hX]; exact Lib.hid (HIb.out.drewN m)
    have HOw : Hid (Own X w.heap.size (.slice P2 ys.length c2) ys) := by rw [hX]; exact Lib.hid (HOw.out.drewN m)
    have HB2 : Hid (X.heap[w.heap.size + 1]? = some (.cells #[.slice P2 ys.length c2] 22 (0, 0))) := by rw [hX]; exact Lib.hid HB2.out
    have hKF : Hid (KeepsFrom w2.heap.size W X) := by rw [hX]; exact Lib.hid ⟨Nat.le_refl _, fun _ _ _ h _ => h⟩
    have hKB : Hid (KeepB K W X) := by rw [hX]; exact Lib.hid (KeepB.drewN K W m)
    have q6 := blk_cell HB2.out 0 rfl
    rw [← hX]
    clear hX
    by_cases hp : p x.1 = true
    · rw [hp]
      have hs2 := HSn.out
      rw [if_pos hp] at hs2
      have HS2 := Lib.hid hs2
      clear hs2
      gi_wp2_with (gi_at_builtin; go_must (refine wpListIn_app1 rfl _ _ rfl w.heap.size (.slice P2 ys.length c2) _ x.1 rfl HOw.out rfl (by omega) (by have := blk_lt HB2.out; omega) ?_); intro v' w3 hown1 hg3 hb3
                   have h3b := (hg3.block (w.heap.size + 1) (blk_lt HB2.out) (fun e => own_type HOw.out HB2.out (by decide) e.symm)).trans HB2.out
                   have q7 := blk_cell h3b 0 rfl
                   have f7 := blk_froz h3b 0
                   have l7 := blk_lt h3b
                   obtain ⟨A3, k3, rfl, h31, h32, _⟩ := hown1.form
                   have HO3 := Lib.hid hown1
                   have HG3 := Lib.hid hg3
                   clear h3b hown1 hg3 hb3)
      obtain ⟨r1, r2, r3⟩ := HIb.out.push (by omega) hK HB2.out HOw.out HO3.out HG3.out
      simp only [List.length_append, List.length_cons, List.length_nil, Nat.zero_add] at r1 r2 r3
      exact ⟨hKF.out.trans r1, hKB.out.trans r2, by dsimp only; rw [HS2.out]; exact r3⟩
    · have hp' : p x.1 = false := by simpa using hp
      rw [hp']
      have hs2 := HSn.out
      rw [if_neg hp] at hs2
      have HS2 := Lib.hid hs2
      clear hs2
      gi_wp2_with fail
      exact ⟨hKF.out, hKB.out, by dsimp only; rw [HS2.out]; exact HIb.out⟩
  case done =>
    intro D ys W hD hys hI hDk
    rw [hys] at hI
    obtain ⟨P2, c2, hbx2, ho2⟩ := hI.box
    have q6 := blk_cell hbx2 0 rfl
    have HIb := Lib.hid hI
    have HOw := Lib.hid ho2
    have HB2 := Lib.hid hbx2
    clear hI ho2 hbx2
    go_wp2_with fail
    refine ret_marks (B := w.heap.size) (((Marks.nil w.heap.size w2)).cons (HIb.out.non.same · _ · rfl) HB.out.size (by omega) hDk) (v := .slice P2 (xs.filter p).length c2) (fun W => by kernel_rfl) ?_
    intro W hS
    exact ⟨_, rfl, HOw.out.shut hS, (HB.out.trans HIb.out.non.below).trans hS.below⟩
  case stop =>
    intro D c pre W _ _ h
    exact h.elim
end Go.Proofs.YtppklecmlkicaaaDoor
