/- procset.elements: the iterator over the elements of a set. -/
import Derived.Test.YtppklecmlkicaaaDoorProg
import Derived.Test.YtppklecmlkicaaaDoorBitsA
import Derived.Test.YtppklecmlkicaaaDoorIter
namespace Go.Proofs.YtppklecmlkicaaaDoor
open Go.RowKit Go.Shelf

attribute [local go_sem] Oper.semAt_some

theorem elements_any (s : Int) (w : World) : Calls Tryd.prog 48 #[.int .i64 s] w fun e w' =>
    e = .returned (.func (.func 64) #[] #[.pointer (some ⟨w.heap.size, 0, none⟩)]) ∧ w.alloc (.cells #[.int .i64 s] 3) = w' := by
  go_enter Tryd.func48, Tryd.ntmps48
  go_wp2
  go_ret
  exact ⟨rfl, rfl⟩

theorem and_u64 (x : Nat) (hx : x < 32) (h0 : x ≠ 0) : bits .and .u64 (x : Int) ((x : Int) - 1) = ((x &&& (x - 1) : Nat) : Int) := by
  rcases lt32 hx with rfl | rfl | rfl | rfl | rfl | rfl | rfl | rfl | rfl | rfl | rfl | rfl | rfl | rfl | rfl | rfl | rfl | rfl | rfl | rfl | rfl | rfl | rfl | rfl | rfl | rfl | rfl | rfl | rfl | rfl | rfl | rfl
  all_goals first | exact absurd rfl h0 | decide +kernel

set_option maxRecDepth 100000 in
set_option maxHeartbeats 1000000 in
theorem elements1_iter (s : Nat) (hs : s < 32) (bx : Nat) (w : World) (hb : w.heap[bx]? = some (.cells #[.int .i64 s] 3)) (hT : Tab w) :
    Iter Tryd.prog 64 #[.pointer (some ⟨bx, 0, none⟩)] (fun x : Int => #[.int .i64 x]) (fun k => k = bx ∨ k = 1) (intL (bitsL s)) w := fun n hn l J Jx W hW hJ hJx hY h0 => by
  have hbx : bx < w.heap.size := (Array.getElem?_eq_some_iff.1 hb).1
  have hb0 : W.heap[bx]? = some (.cells #[.int .i64 s] 3) := (hW.block bx hbx).trans hb
  have c0 : W.cell? ⟨bx, 0, none⟩ = some (.int .i64 s) := blk_cell hb0 0 rfl
  have h1 : 1 < w.heap.size := by
    have := hT 1 (by omega) (by omega)
    have := World.block_lt_of_cell? w _ this
    exact this
  have hT0 : Tab W := hT.keep hW (by omega)
  have HY := Lib.hid hY
  have HT0 := Lib.hid hT0
  have hs2 : (s : Int) < 18446744073709551616 := by omega
  clear hY hT hT0
  refine callsIn_of_wp Tryd.func64 rfl trivial ?_ rfl
  simp only [Tryd.ntmps64, List.size_toArray, List.length_cons, List.length_nil, Nat.reduceAdd, Nat.reduceSub, Array.replicate_succ, Array.replicate_zero, List.push_toArray, List.append_toArray, List.nil_append, List.cons_append]
  gi_wp2
  gi_loopw [3] (fun p wr => ∃ r : Nat, r < 32 ∧ p = .int .u64 r ∧ ∃ pre : List { x : Int // x ∈ intL (bitsL s) }, pre.map (·.1) ++ intL (bitsL r) = intL (bitsL s) ∧ J pre wr ∧ Tab wr) (fun p _ => (intOf p).toNat)
  case atStart => exact ⟨s, hs, rfl, [], by simp, h0, HT0.out⟩
  case round =>
    obtain ⟨r, hr, rfl, pre, hp, hJ0, hTr⟩ := hrel
    clear c0 h0 hb0 hW hb
    by_cases hz : r = 0
    · subst hz
      have Hp := Lib.hid hp
      clear hp
      gi_wp2_with fail
      go_end0
      exact ⟨⟨_, rfl⟩, .inl ⟨pre, by have := Hp.out; rwa [bits_zero, intL_nil, List.append_nil] at this, hJ0⟩⟩
    · obtain ⟨b1, b2, b3, b4⟩ := bits_step hr hz
      have e0 : ((r : Int) != 0) = true := by simp; omega
      have hand := and_u64 r hr hz
      rw [b1, intL_cons] at hp
      have hm : (low r : Int) ∈ intL (bitsL s) := by rw [← hp]; simp
      have hlen : pre.length < (intL (bitsL s)).length := by
        have := congrArg List.length hp
        simp only [List.length_append, List.length_map, List.length_cons] at this
        omega
      obtain ⟨fn, tmps, assign, body, hy, hR⟩ := HY.out pre ⟨(low r : Int), hm⟩ _ hJ0 hlen
      dsimp only at hy
      have Hp := Lib.hid hp
      have HR := Lib.hid hR
      have htz := tz_any r hr hz wr hTr
      have HTZ := Lib.hid htz
      have hr1 : 1 ≤ r := by omega
      clear hp hR b1 hz htz
      gi_wp2_with fail
      refine ⟨trivial, ((callsIn_wide (n := n - 1)).2 HTZ.out).mono ?_⟩
      rintro e w' ⟨rfl, rfl⟩
      gi_wp2_with fail
      refine HR.out.mono ?_
      rintro e W3 (⟨rfl, hJ3, hk3⟩ | ⟨rfl, hJx3⟩)
      · have hl1 : 1 < wr.heap.size := World.block_lt_of_cell? wr _ (hTr 1 (by omega) (by omega))
        have hT3 : Tab W3 := fun j hj h0 => (World.cell?_of_block (hk3.same 1 (.inr rfl) hl1)).trans (hTr j hj h0)
        have HT3 := Lib.hid hT3
        clear hT3 hTr
        gi_wp2_with fail
        go_roundw
        case rel => exact ⟨_, b3, rfl, _, by rw [List.map_append, List.append_assoc]; exact Hp.out, hJ3, HT3.out⟩
        case measure => simp [intOf]; omega
      · gi_wp2_with fail
        refine bodyPost_ret (results_none rfl _ _ _) rfl ?_
        refine ⟨⟨_, rfl⟩, .inr ⟨_, ?_, hJx3⟩⟩
        rw [List.map_append]
        exact ⟨intL (bitsL (r &&& (r - 1))), (List.append_assoc _ _ _).trans Hp.out⟩

/-! ### The subsets -/
theorem parts_any (s : Int) (w : World) : Calls Tryd.prog 42 #[.int .i64 s] w fun e w' =>
    e = .returned (.func (.func 60) #[] #[.pointer (some ⟨w.heap.size, 0, none⟩)]) ∧ w.alloc (.cells #[.int .i64 s] 3) = w' := by
  go_enter Tryd.func42, Tryd.ntmps42
  go_wp2
  go_ret
  exact ⟨rfl, rfl⟩
theorem and_i64 (s x : Nat) (hs : s < 32) (hx : x < 32) : bits .and .i64 ((x : Int) - (s : Int)) (s : Int) = ((nextN s x : Nat) : Int) := by
  have h : below32 (fun s => below32 fun x => bits .and .i64 ((x : Int) - (s : Int)) (s : Int) == ((nextN s x : Nat) : Int)) = true := by decide +kernel
  have h1 := of32 h hs
  have h2 := of32 h1 hx
  simpa using h2

set_option maxRecDepth 100000 in
set_option maxHeartbeats 1000000 in
theorem parts1_iter (s : Nat) (hs : s < 32) (bx : Nat) (w : World) (hb : w.heap[bx]? = some (.cells #[.int .i64 s] 3)) :
    Iter Tryd.prog 60 #[.pointer (some ⟨bx, 0, none⟩)] (fun x : Int => #[.int .i64 x]) (fun k => k = bx) (intL (subsL s)) w := fun n hn l J Jx W hW hJ hJx hY h0 => by
  have hbx : bx < w.heap.size := (Array.getElem?_eq_some_iff.1 hb).1
  have hb0 : W.heap[bx]? = some (.cells #[.int .i64 s] 3) := (hW.block bx hbx).trans hb
  have HY := Lib.hid hY
  clear hY
  refine callsIn_of_wp Tryd.func60 rfl trivial ?_ rfl
  simp only [Tryd.ntmps60, List.size_toArray, List.length_cons, List.length_nil, Nat.reduceAdd, Nat.reduceSub, Array.replicate_succ, Array.replicate_zero, List.push_toArray, List.append_toArray, List.nil_append, List.cons_append]
  gi_wp2
  gi_loopw [3] (fun p wr => ∃ x : Nat, x < 32 ∧ x &&& s = x ∧ p = .int .i64 x ∧ ∃ pre : List { x : Int // x ∈ intL (subsL s) }, pre.map (·.1) = intL (subsTo s x) ∧ J pre wr ∧ wr.heap[bx]? = some (.cells #[.int .i64 s] 3)) (fun p _ => 32 - (intOf p).toNat)
  case atStart => exact ⟨0, by omega, by simp, rfl, [], by simp [subsTo, intL], h0, hb0⟩
  case round =>
    obtain ⟨x, hx, hsub, rfl, pre, hp, hJ0, hbr⟩ := hrel
    clear h0 hb0 hW hb
    have hxs := sub_le hs hx hsub
    have hsucc := subsTo_succ (s := s) (m := x)
    rw [if_pos hsub] at hsucc
    have hpre : subsTo s (x + 1) <+: subsL s := by
      unfold subsL
      have : ∀ k, subsTo s (x + 1) <+: subsTo s (x + 1 + k) := fun k => by
        induction k with
        | zero => exact List.prefix_refl _
        | succ k ih =>
          refine ih.trans ?_
          rw [show x + 1 + (k + 1) = (x + 1 + k) + 1 from rfl, subsTo_succ]
          split
          · exact List.prefix_append _ _
          · exact List.prefix_refl _
      have h := this (s - x)
      rwa [show x + 1 + (s - x) = s + 1 by omega] at h
    have hm : (x : Int) ∈ intL (subsL s) := by
      have h1 : x ∈ subsL s := hpre.subset (by rw [hsucc]; simp)
      exact List.mem_map.2 ⟨x, h1, rfl⟩
    have hlen : pre.length < (intL (subsL s)).length := by
      have h1 := congrArg List.length hp
      have h2 := hpre.length_le
      rw [hsucc] at h2
      rw [intL_length] at h1 ⊢
      simp at h1 h2
      omega
    obtain ⟨fn, tmps, assign, body, hy, hR⟩ := HY.out pre ⟨(x : Int), hm⟩ _ hJ0 hlen
    dsimp only at hy
    have Hp := Lib.hid hp
    have HR := Lib.hid hR
    have HS := Lib.hid hsucc
    have HPR := Lib.hid hpre
    have c0 : wr.cell? ⟨bx, 0, none⟩ = some (.int .i64 s) := blk_cell hbr 0 rfl
    clear hp hR hsucc hpre c0
    gi_wp2_with fail
    refine HR.out.mono ?_
    rintro e W3 (⟨rfl, hJ3, hk3⟩ | ⟨rfl, hJx3⟩)
    · have hb3 : W3.heap[bx]? = some (.cells #[.int .i64 s] 3) := (hk3.same bx rfl (Array.getElem?_eq_some_iff.1 hbr).1).trans hbr
      have c3 : W3.cell? ⟨bx, 0, none⟩ = some (.int .i64 s) := blk_cell hb3 0 rfl
      have hpre3 : (pre ++ [(⟨(x : Int), hm⟩ : { y : Int // y ∈ intL (subsL s) })]).map (·.1) = intL (subsTo s (x + 1)) := by rw [HS.out, intL_append, List.map_append, Hp.out]; rfl
      have HP3 := Lib.hid hpre3
      clear hpre3
      by_cases hxe : x = s
      · subst hxe
        have e0 : ((x : Int) == (x : Int)) = true := by simp
        gi_wp2_with fail
        refine bodyPost_ret (results_none rfl _ _ _) rfl ?_
        exact ⟨⟨_, rfl⟩, .inl ⟨_, HP3.out, hJ3⟩⟩
      · have e0 : ((x : Int) == (s : Int)) = false := by simp; omega
        obtain ⟨n1, n2, n3, n4, n5⟩ := parts_step hs hx hsub hxe
        have ha := and_i64 s x hs hx
        have HN3 := Lib.hid n3
        clear n3 hxe
        gi_wp2_with fail
        go_roundw
        case rel => exact ⟨_, n1, n2, rfl, _, by rw [HN3.out]; exact HP3.out, hJ3, hb3⟩
        case measure => simp [intOf]; omega
    · gi_wp2_with fail
      refine bodyPost_ret (results_none rfl _ _ _) rfl ?_
      refine ⟨⟨_, rfl⟩, .inr ⟨_, ?_, hJx3⟩⟩
      rw [List.map_append, Hp.out]
      obtain ⟨t, ht⟩ := HPR.out
      have e1 : intL (subsTo s x) ++ [(x : Int)] = intL (subsTo s (x + 1)) := by rw [HS.out, intL_append]; rfl
      have e2 : intL (subsTo s (x + 1)) ++ intL t = intL (subsL s) := by rw [← intL_append, ht]
      exact ⟨intL t, (congrArg (· ++ intL t) e1).trans e2⟩
end Go.Proofs.YtppklecmlkicaaaDoor
