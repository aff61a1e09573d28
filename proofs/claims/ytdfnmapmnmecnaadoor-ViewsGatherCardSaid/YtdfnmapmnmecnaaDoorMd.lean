/- Part Clone. Part Heard. Part Map. Part Keys. Part Dfs. Part Wait. What each part says stands at its head; no part has a condition beyond its own statements. -/
import Derived.Test.YtdfnmapmnmecnaaDoorProg
import Derived.Test.YtdfnmapmnmecnaaDoorMb
import Derived.Test.YtdfnmapmnmecnaaDoorMc
import Derived.Deep.QuietTactic
import Derived.BigQuiet
import Derived.Lib.Walk
import Derived.Lib.SliceRun
import Derived.Maps.Own
import Derived.Maps.OwnIn
import Derived.WalkKit

/- slices.Clone at integers and views, slices.Index at views; views of the call's own. -/
namespace Go.Proofs.YtdfnmapmnmecnaaDoor
open Go.RowKit

/-- The cells of views. -/
def vcells (vs : List Vw) : List Value := vs.flatMap fun x => x.cells.toList
theorem vcells_append (vs us : List Vw) : vcells (vs ++ us) = vcells vs ++ vcells us := by simp [vcells]
theorem vcells_length (vs : List Vw) : (vcells vs).length = vs.length * 8 := by
  induction vs with
  | nil => rfl
  | cons v vs ih => simp only [vcells, List.flatMap_cons, List.length_append, List.length_cons] at *; rw [ih]; simp [Vw.cells]; omega
theorem vcells_at : ∀ (vs : List Vw) (i : Nat) (hi : i < vs.length) (k : Nat), k < 8 → (vcells vs)[i * 8 + k]? = vs[i].cells[k]?
  | v :: vs, 0, hi, k, hk => by
    simp only [vcells, List.flatMap_cons, List.getElem_cons_zero, Nat.zero_mul, Nat.zero_add]
    rw [List.getElem?_append_left (by simp [Vw.cells]; omega)]
    simp
  | v :: vs, i + 1, hi, k, hk => by
    have := vcells_at vs i (by simpa using hi) k hk
    simp only [vcells, List.flatMap_cons, List.getElem_cons_succ] at *
    rw [List.getElem?_append_right (by simp [Vw.cells]; omega), ← this]
    congr 1
    simp [Vw.cells]; omega

/-- The slice v owns the views vs, in blocks from base on. -/
def OwnV (w : World) (base : Nat) (v : Value) (vs : List Vw) : Prop := w.ownsRow base 27 8 v vs.length (vcells vs)
theorem OwnV.nil (w : World) (base : Nat) : OwnV w base (.slice none 0 0) [] := World.ownsRow_nil w base _ 8
theorem OwnV.form {w : World} {base : Nat} {v : Value} {vs : List Vw} (h : OwnV w base v vs) (hf : vs.length ≤ 100000) : ∃ A cap, v = .slice A vs.length cap ∧ TArg w A cap vs := by
  rcases h.2 with ⟨rfl, h0⟩ | ⟨g, cap, cur, rfl, _, hg, hle, hcm, _⟩
  · have : vs = [] := List.eq_nil_of_length_eq_zero h0
    subst this
    exact ⟨none, 0, rfl, fun h => absurd h (by simp), Nat.le_refl _, Nat.zero_le _, hf⟩
  · refine ⟨_, _, rfl, fun _ => ⟨g, 0, rfl, (Array.getElem?_eq_some_iff.1 hg).1, fun i hi k u hk => ?_⟩, hle, hcm, hf⟩
    have hk8 : k < 8 := by have := (Array.getElem?_eq_some_iff.1 hk).1; simpa [Vw.cells] using this
    have := h.cells (g := g) rfl (i * 8 + k) u (by rw [vcells_at vs i hi k hk8]; exact hk)
    rw [show (⟨g, 0, none⟩ : Addr).add (i * 8 + k) = ⟨g, 0 + i * 8 + k, none⟩ from by unfold Addr.add; split <;> simp_all] at this
    exact this
theorem OwnV.low {w : World} {base base' : Nat} {v : Value} {xs : List Vw} (h : OwnV w base v xs) (hb : base' ≤ base) : OwnV w base' v xs := by
  refine ⟨h.1, ?_⟩
  rcases h.2 with h2 | ⟨g, cap, cur, hv, hg, r⟩
  · exact Or.inl h2
  · exact Or.inr ⟨g, cap, cur, hv, by omega, r⟩
theorem OwnV.lt {w : World} {base : Nat} {v : Value} {xs : List Vw} (h : OwnV w base v xs) : ∀ k, v.ownBlock = some k → base ≤ k ∧ k < w.heap.size := World.ownsRow.lt h

theorem info_view : (Tryd.prog.info? 27).map (fun i => (i.zero, i.size, i.bytes)) = some (some (.agg (⟨0, 0, 0, 0, 0, 0, 0, 0⟩ : Vw).cells), 8, 64) := by kernel_rfl

theorem cells_one (v : Vw) : ∀ u ∈ v.cells.toList, u.oneCell' = true := by
  intro u hu
  simp only [Vw.cells, List.mem_cons, List.not_mem_nil, or_false] at hu
  rcases hu with rfl | rfl | rfl | rfl | rfl | rfl | rfl | rfl <;> rfl
theorem vcells_one (vs : List Vw) : ∀ u ∈ vcells vs, u.oneCell' = true := by
  intro u hu
  obtain ⟨v, _, hv⟩ := List.mem_flatMap.1 hu
  exact cells_one v u hv

/-- A call that returns views of its own. -/
def RetViews (vs : List Vw) (w : World) (e : Ending) (w' : World) : Prop := ∃ v, e = .returned v ∧ OwnV w' w.heap.size v vs ∧ Below w.heap.size w w'

set_option maxHeartbeats 2000000 in
set_option maxRecDepth 100000 in
theorem clone_view (A : Option Addr) (cap : Nat) (vs : List Vw) (w : World) (hT : TArg w A cap vs) :
    Calls Tryd.prog 41 #[.slice A vs.length cap] w (RetViews vs w) := by
  have hfew := hT.few
  have HT := Lib.hid hT
  clear hT
  have q : ∀ (w : World) (a : Option Addr) (n c n' c' : Nat), (binOp .eql 22 (.slice a n c) (.slice none n' c')).run Tryd.prog w = .ok (.bool a.isNone) w := fun w a n c n' c' => Lib.run_eql_slice_nil w _ _ a n c n' c' Tryd.underlying22
  obtain ⟨i0, hi, hz0, hz1, hz2⟩ := info_parts info_view
  cases A with
  | none =>
    have hvs : vs = [] := by
      rcases Nat.eq_zero_or_pos vs.length with h | h
      · exact List.eq_nil_of_length_eq_zero h
      · obtain ⟨b, off, e, _⟩ := HT.out.rows h; cases e
    go_enter Tryd.func41, Tryd.ntmps41
    go_wp2
    go_ret
    exact ⟨_, rfl, by rw [hvs]; exact OwnV.nil _ _, Below.refl _ _⟩
  | some ad =>
    go_enter Tryd.func41, Tryd.ntmps41
    go_wp2_with (at_builtin; refine wpList_append_own _ rfl _ _ 22 rfl w.heap.size 27 i0 _ 8 64 Tryd.underlying22 hi hz0 hz1 hz2 rfl (by decide) _ _ _ rfl (World.ownsRow_made w #[] 0 (Nat.le_refl _) (Nat.zero_le _) rfl) ad vs.length cap (vcells vs) rfl ?qc1 ?qc2 ?qc3 ?qc4 ?qc5 ?qc6 ?_)
    case qc1 => exact vcells_length vs
    case qc2 =>
      intro j u hj
      have hj8 : j < vs.length * 8 := by have := (List.getElem?_eq_some_iff.1 hj).1; rwa [vcells_length] at this
      obtain ⟨b, off, e, hlt, hc⟩ := HT.out.rows (by omega)
      cases e
      rw [Addr.add_lit]
      refine Lib.cell?_alloc_some _ ?_
      have hi' : j / 8 < vs.length := by omega
      have h8 : j / 8 * 8 + j % 8 = j := by omega
      rw [← h8, vcells_at vs (j / 8) hi' (j % 8) (by omega)] at hj
      have := hc (j / 8) hi' (j % 8) u hj
      rwa [Nat.add_assoc, h8] at this
    case qc3 => exact vcells_one vs
    case qc4 => unfold maxLen; omega
    case qc5 => omega
    case qc6 => simp
    intro v' w1 hown hgrow hnil
    go_wp2
    go_ret
    refine ⟨v', rfl, by unfold OwnV; simpa using hown, ?_⟩
    exact ((Below.refl _ w).alloc (Nat.le_refl _) _).grown hgrow (by simp) (by intro k hk; simp [Value.ownBlock] at hk; omega)

set_option maxHeartbeats 2000000 in
set_option maxRecDepth 100000 in
theorem clone_int (A : Option Addr) (cap : Nat) (xs : List Int) (w : World) (hA : IAt w w.heap.size A xs) (hl : xs.length ≤ 1000000) :
    Calls Tryd.prog 69 #[.slice A xs.length cap] w (RetInts xs w) := by
  have HT := Lib.hid hA
  clear hA
  have q : ∀ (w : World) (a : Option Addr) (n c n' c' : Nat), (binOp .eql 37 (.slice a n c) (.slice none n' c')).run Tryd.prog w = .ok (.bool a.isNone) w := fun w a n c n' c' => Lib.run_eql_slice_nil w _ _ a n c n' c' Tryd.underlying37
  obtain ⟨i0, hi, hz0, hz1, hz2⟩ := info_parts info_int
  cases A with
  | none =>
    have hvs : xs = [] := by
      rcases Nat.eq_zero_or_pos xs.length with h | h
      · exact List.eq_nil_of_length_eq_zero h
      · obtain ⟨b, off, e, _⟩ := HT.out h; cases e
    go_enter Tryd.func69, Tryd.ntmps69
    go_wp2
    go_ret
    exact ⟨_, rfl, by rw [hvs]; exact Own.nil _ _, Below.refl _ _⟩
  | some ad =>
    go_enter Tryd.func69, Tryd.ntmps69
    go_wp2_with (at_builtin; refine wpList_append_own _ rfl _ _ 37 rfl w.heap.size 3 i0 _ 1 8 Tryd.underlying37 hi hz0 hz1 hz2 rfl (by decide) _ _ _ rfl (World.ownsRow_made w #[] 0 (Nat.le_refl _) (Nat.zero_le _) rfl) ad xs.length cap (xs.map (Value.int .i64)) rfl ?qc1 ?qc2 ?qc3 ?qc4 ?qc5 ?qc6 ?_)
    case qc1 => simp
    case qc2 =>
      intro j u hj
      obtain ⟨x, hx, rfl⟩ : ∃ x, xs[j]? = some x ∧ Value.int .i64 x = u := by simpa using hj
      obtain ⟨hjl, rfl⟩ := List.getElem?_eq_some_iff.1 hx
      obtain ⟨b, off, e, hlt, hc⟩ := HT.out (by omega)
      cases e
      rw [Addr.add_lit]
      exact Lib.cell?_alloc_some _ (hc j hjl)
    case qc3 => intro u hu; obtain ⟨x, _, rfl⟩ := List.mem_map.1 hu; rfl
    case qc4 => unfold maxLen; omega
    case qc5 => omega
    case qc6 => simp
    intro v' w1 hown hgrow hnil
    go_wp2
    go_ret
    refine ⟨v', rfl, by unfold Own; simpa using hown, ?_⟩
    exact ((Below.refl _ w).alloc (Nat.le_refl _) _).grown hgrow (by simp) (by intro k hk; simp [Value.ownBlock] at hk; omega)

set_option maxHeartbeats 2000000 in
set_option maxRecDepth 100000 in
theorem sindex_any (A : Option Addr) (cap : Nat) (vs : List Vw) (v : Vw) (w : World) (hT : TArg w A cap vs) :
    Calls Tryd.prog 42 #[.slice A vs.length cap, .agg v.cells] w fun e w' => e = .returned (.int .i64 (idxE vs v)) ∧ Below w.heap.size w w' := by
  have hfew := hT.few
  have hA := hT.rows
  clear hT
  have HB := bel1 w
  have HE : Hid (∀ k (hk : k < vs.length) (X : World), (binOp .eql 27 (.agg v.cells) (.agg vs[k].cells)).run Tryd.prog X = .ok (.bool (decide (v = vs[k]))) X) := fun k hk X => eql_view v vs[k] X
  unfold Vw.cells at HE ⊢
  go_enter Tryd.func42, Tryd.ntmps42
  go_wp2
  go_loopw [8] (fun i wr => ∃ k m : Nat, k ≤ vs.length ∧ i = .int .i64 k ∧ wr = (w.alloc (.cells #[.int .i64 v.p, .int .i64 v.r, .int .i64 v.i, .int .i64 v.h0, .int .i64 v.h1, .int .i64 v.h2, .int .i64 v.h3, .int .i64 v.h4] 27)).drewN m ∧ Hid (v ∉ vs.take k)) (fun i _ => vs.length - (intOf i).toNat)
  case atStart => exact ⟨0, 0, by omega, rfl, rfl, by show v ∉ vs.take 0; simp⟩
  case round =>
    obtain ⟨k, m, hk, rfl, rfl, hall⟩ := hrel
    by_cases hlt : k < vs.length
    · obtain ⟨b, off, rfl, hb1, c0, c1, c2, c3, c4, c5, c6, c7⟩ := hA.row k hlt
      have heq := HE.out k hlt
      clear HE hA
      by_cases hv : v = vs[k]
      · have heq' : ∀ X : World, _ := fun X => (heq X).trans (by rw [decide_eq_true hv])
        have hz : Hid (idxE vs v = k) := idxE_hit hlt hv.symm hall.out
        clear heq hv
        go_wp2
        go_quiet (fail)
        go_wp2
        go_ret
        exact ⟨ret_int hz.out.symm, by repeat (first | exact HB _ | refine belN ?_ _)⟩
      · have heq' : ∀ X : World, _ := fun X => (heq X).trans (by rw [decide_eq_false hv])
        have hz : Hid (v ∉ vs.take (k + 1)) := not_mem_take hlt (fun e => hv e.symm) hall.out
        clear heq hv
        go_wp2
        go_quiet (fail)
        go_wp2
        go_roundw
        case rel => exact ⟨k + 1, _, by omega, by go_num, rfl, hz⟩
        case measure => simp [intOf]; omega
    · have hz : Hid (idxE vs v = -1) := idxE_none (by have := hall.out; rwa [List.take_of_length_le (by omega)] at this)
      go_wp2
      go_ret
      exact ⟨ret_int hz.out.symm, by repeat (first | exact HB _ | refine belN ?_ _)⟩
end Go.Proofs.YtdfnmapmnmecnaaDoor

/- views.heard: the iterator over what a view heard. -/
namespace Go.Proofs.YtdfnmapmnmecnaaDoor
open Go.RowKit Go.Shelf

attribute [local go_sem] Oper.semAt_some

theorem heard_any (v : Vw) (w : World) : Calls Tryd.prog 64 #[.agg v.cells] w fun e w' =>
    e = .returned (.func (.func 86) #[] #[.pointer (some ⟨w.heap.size, 0, none⟩)]) ∧ w.alloc (.cells v.cells 27) = w' := by
  unfold Vw.cells
  go_enter Tryd.func64, Tryd.ntmps64
  go_wp2
  go_ret
  exact ⟨rfl, rfl⟩

theorem index_heard (v : Vw) (k : Nat) (hk : k < 5) (w : World) : (Instr.index 25 (.agg #[.int .i64 v.h0, .int .i64 v.h1, .int .i64 v.h2, .int .i64 v.h3, .int .i64 v.h4]) (.int .i64 (k : Int))).run Tryd.prog w = .ok (.int .i64 (v.h k)) w := by
  obtain rfl | rfl | rfl | rfl | rfl : k = 0 ∨ k = 1 ∨ k = 2 ∨ k = 3 ∨ k = 4 := by omega
  all_goals kernel_rfl

set_option maxRecDepth 100000 in
set_option maxHeartbeats 1000000 in
theorem heard1_iter (v : Vw) (bx : Nat) (w : World) (hb : w.heap[bx]? = some (.cells v.cells 27)) :
    Iter Tryd.prog 86 #[.pointer (some ⟨bx, 0, none⟩)] (fun x : Int × Int => #[.int .i64 x.1, .int .i64 x.2]) (· = bx) (heardL v) w := fun n hn l J Jx W hW hJ hJx hY h0 => by
  have hbx : bx < w.heap.size := (Array.getElem?_eq_some_iff.1 hb).1
  have hb0 : W.heap[bx]? = some (.cells v.cells 27) := (hW.block bx hbx).trans hb
  have cells : ∀ X : World, X.heap[bx]? = some (.cells v.cells 27) → ∀ k u, v.cells[k]? = some u → X.cell? ⟨bx, k, none⟩ = some u := fun X hX k u hk => by
    rw [cell_of_row X bx k _ _ _ hX]; exact hk
  have row : ∀ X : World, X.heap[bx]? = some (.cells v.cells 27) → X.cell? ⟨bx, 1, none⟩ = some (.int .i64 v.r) := fun X hX => cells X hX 1 _ rfl
  have c3 : W.cell? ⟨bx, 3, none⟩ = some (.int .i64 v.h0) := cells W hb0 3 _ rfl
  have c4 : W.cell? ⟨bx, 4, none⟩ = some (.int .i64 v.h1) := cells W hb0 4 _ rfl
  have c5 : W.cell? ⟨bx, 5, none⟩ = some (.int .i64 v.h2) := cells W hb0 5 _ rfl
  have c6 : W.cell? ⟨bx, 6, none⟩ = some (.int .i64 v.h3) := cells W hb0 6 _ rfl
  have c7 : W.cell? ⟨bx, 7, none⟩ = some (.int .i64 v.h4) := cells W hb0 7 _ rfl
  have hrow := Lib.hid row
  have HY := Lib.hid hY
  clear cells row hY
  refine callsIn_of_wp Tryd.func86 rfl trivial ?_ rfl
  simp only [Tryd.ntmps86, List.size_toArray, List.length_cons, List.length_nil, Nat.reduceAdd, Nat.reduceSub, Array.replicate_succ, Array.replicate_zero, List.push_toArray, List.append_toArray, List.nil_append, List.cons_append]
  gi_wp2
  gi_loopw [7] (fun p wr => ∃ k : Nat, k ≤ 5 ∧ p = .int .i64 k ∧ ∃ pre : List { x : Int × Int // x ∈ heardL v }, pre.map (·.1) = heardTo v k ∧ J pre wr ∧ wr.heap[bx]? = some (.cells v.cells 27)) (fun p _ => 5 - (intOf p).toNat)
  case atStart => exact ⟨0, by omega, rfl, [], by simp [heardTo], h0, hb0⟩
  case round =>
    obtain ⟨k, hk, rfl, pre, hp, hJ0, hbr⟩ := hrel
    clear c3 c4 c5 c6 c7 h0 hb0 hW hb
    by_cases hlt : k < 5
    · have hix := index_heard v k hlt
      have d1 := hrow.out wr hbr
      by_cases hc : 0 < v.r ∧ 0 ≤ v.h k
      · obtain ⟨hc1, hc2⟩ := hc
        have hm : ((k : Int), v.h k) ∈ heardL v := mem_heardL.2 ⟨hc1, k, hlt, rfl, hc2⟩
        have hyes := heardTo_yes hc1 hc2
        have hlen : pre.length < (heardL v).length := by
          have h1 : pre.length = (heardTo v k).length := by rw [← hp, List.length_map]
          have h2 := (heardTo_le (v := v) (k := k + 1) (m := 5) (by omega)).length_le
          rw [hyes] at h2
          simp at h2
          show _ < (heardTo v 5).length
          omega
        obtain ⟨fn, tmps, assign, body, hy, hR⟩ := HY.out pre ⟨((k : Int), v.h k), hm⟩ wr hJ0 hlen
        dsimp only at hy
        have Hy := Lib.hid hyes
        have Hp := Lib.hid hp
        have HR := Lib.hid hR
        clear hyes hp hR
        gi_wp2_with fail
        refine HR.out.mono ?_
        rintro e W3 (⟨rfl, hJ3, hk3⟩ | ⟨rfl, hJx3⟩)
        · have hb3 : W3.heap[bx]? = some (.cells v.cells 27) := (hk3.same bx rfl (Array.getElem?_eq_some_iff.1 hbr).1).trans hbr
          gi_wp2_with fail
          go_roundw
          case rel => exact ⟨k + 1, by omega, by go_num, _, by rw [Hy.out, List.map_append, Hp.out]; rfl, hJ3, hb3⟩
          case measure => simp [intOf]; omega
        · gi_wp2_with fail
          refine bodyPost_ret (results_none rfl _ _ _) rfl ?_
          exact ⟨⟨_, rfl⟩, .inr ⟨_, by rw [List.map_append, Hp.out]; show _ ++ [((k : Int), v.h k)] <+: _; rw [← Hy.out]; exact heardTo_le (by omega), hJx3⟩⟩
      · have hno := heardTo_no hc
        have Hn := Lib.hid hno
        have Hp := Lib.hid hp
        clear hno hp
        by_cases hr : 0 < v.r
        · have hq : ¬ 0 ≤ v.h k := fun h => hc ⟨hr, h⟩
          clear hc
          gi_wp2_with fail
          refine ⟨fun _ h => trivial, ?_⟩
          gi_wp2_with fail
          go_roundw
          case rel => exact ⟨k + 1, by omega, by go_num, pre, by rw [Hn.out, Hp.out], hJ0, hbr⟩
          case measure => simp [intOf]; omega
        · clear hc
          gi_wp2_with fail
          refine ⟨fun _ h => trivial, ?_⟩
          gi_wp2_with fail
          go_roundw
          case rel => exact ⟨k + 1, by omega, by go_num, pre, by rw [Hn.out, Hp.out], hJ0, hbr⟩
          case measure => simp [intOf]; omega
    · obtain rfl : k = 5 := by omega
      have Hp := Lib.hid hp
      clear hp
      gi_wp2_with fail
      go_end0
      exact ⟨⟨_, rfl⟩, .inl ⟨pre, Hp.out, hJ0⟩⟩
end Go.Proofs.YtdfnmapmnmecnaaDoor

/- Maps of the call's own, over any program: what a block of a map holds, as a function of the keys. No program in sight. -/
namespace Go.Proofs.YtdfnmapmnmecnaaDoor
open Go.RowKit

/-- What the laws need of a key's type: the keys are the values enc k. -/
structure KeyOk {κ : Type} (P : Program) (kt : TypeId) (enc : κ → Value) : Prop where
  inj : ∀ a b, enc a = enc b → a = b
  check : ∀ (w : World) (em : Bool) (a : κ), (Instr.checkKey em 10000 kt (enc a)).run P w = .ok () w
  equal : ∀ (w : World) (a b : κ), (Op.equal kt (enc a) (enc b)).run P w = .ok (@decide (enc a = enc b) (Classical.propDecidable _)) w
  now : ∀ (d : TypeDesc), P.underlying kt = some d → (∀ a b : κ, Instr.sameNow d (enc a) (enc b) = some (@decide (enc a = enc b) (Classical.propDecidable _))) ∨ (∀ a b : κ, Instr.sameNow d (enc a) (enc b) = none)
  stays : ∀ a : κ, Instr.sameBits 10000 (enc a) (enc a) = true
  kind : ∃ d, P.underlying kt = some d

section
variable {κ : Type} {P : Program} {kt : TypeId} {enc : κ → Value}
open Classical

theorem findNow_yes {d : TypeDesc} (h : ∀ a b : κ, Instr.sameNow d (enc a) (enc b) = some (decide (enc a = enc b))) (x : κ) : ∀ (es : List MapEntry) (i : Nat), (∀ e ∈ es, ∃ k, e.key = enc k) →
    (Instr.findNow d (enc x) es i = some none ∧ ∀ e ∈ es, e.key ≠ enc x) ∨ ∃ j e, Instr.findNow d (enc x) es i = some (some (i + j, e.val)) ∧ es[j]? = some e ∧ e.key = enc x
  | [], i, _ => .inl ⟨rfl, fun _ h => by cases h⟩
  | e :: es, i, hk => by
    obtain ⟨k, hek⟩ := hk e (by simp)
    by_cases he : enc x = enc k
    · refine .inr ⟨0, e, ?_, rfl, by rw [hek, he]⟩
      simp [Instr.findNow, hek, h, he]
    · rcases findNow_yes h x es (i + 1) (fun e he => hk e (by simp [he])) with ⟨h1, h2⟩ | ⟨j, e', h1, h2, h3⟩
      · refine .inl ⟨by simp [Instr.findNow, hek, h, he, h1], fun e' he' => ?_⟩
        rcases List.mem_cons.1 he' with rfl | he'
        · rw [hek]; exact fun e2 => he e2.symm
        · exact h2 e' he'
      · exact .inr ⟨j + 1, e', by simp [Instr.findNow, hek, h, he, h1]; omega, by simpa using h2, h3⟩

theorem findAsking_yes (K : KeyOk P kt enc) (w : World) (x : κ) : ∀ (es : List MapEntry) (i : Nat), (∀ e ∈ es, ∃ k, e.key = enc k) →
    ((Instr.findAsking kt (enc x) es i).run P w = .ok none w ∧ ∀ e ∈ es, e.key ≠ enc x) ∨ ∃ j e, (Instr.findAsking kt (enc x) es i).run P w = .ok (some (i + j, e.val)) w ∧ es[j]? = some e ∧ e.key = enc x
  | [], i, _ => .inl ⟨rfl, fun _ h => by cases h⟩
  | e :: es, i, hk => by
    obtain ⟨k, hek⟩ := hk e (by simp)
    by_cases he : enc x = enc k
    · refine .inr ⟨0, e, ?_, rfl, by rw [hek, he]⟩
      simp [Instr.findAsking, hek, K.equal, he, Result.andThen]
    · rcases findAsking_yes K w x es (i + 1) (fun e he => hk e (by simp [he])) with ⟨h1, h2⟩ | ⟨j, e', h1, h2, h3⟩
      · refine .inl ⟨by simp [Instr.findAsking, hek, K.equal, he, h1, Result.andThen], fun e' he' => ?_⟩
        rcases List.mem_cons.1 he' with rfl | he'
        · rw [hek]; exact fun e2 => he e2.symm
        · exact h2 e' he'
      · exact .inr ⟨j + 1, e', by simp [Instr.findAsking, hek, K.equal, he, h1, Result.andThen]; omega, by simpa using h2, h3⟩

theorem findAsking_now {d : TypeDesc} (h : ∀ a b : κ, Instr.sameNow d (enc a) (enc b) = none) (x : κ) (es : List MapEntry) (hk : ∀ e ∈ es, ∃ k, e.key = enc k) :
    es = [] ∨ Instr.findNow d (enc x) es 0 = none := by
  cases es with
  | nil => exact .inl rfl
  | cons e es =>
    obtain ⟨k, hek⟩ := hk e (by simp)
    exact .inr (by simp [Instr.findNow, hek, h])

theorem find_key (K : KeyOk P kt enc) (w : World) (x : κ) (es : List MapEntry) (hk : ∀ e ∈ es, ∃ k, e.key = enc k) :
    ((Instr.findKey kt (enc x) es).run P w = .ok none w ∧ ∀ e ∈ es, e.key ≠ enc x) ∨ ∃ j e, (Instr.findKey kt (enc x) es).run P w = .ok (some (j, e.val)) w ∧ es[j]? = some e ∧ e.key = enc x := by
  obtain ⟨d, hd⟩ := K.kind
  rcases K.now d hd with h | h
  · rcases findNow_yes h x es 0 hk with ⟨h1, h2⟩ | ⟨j, e, h1, h2, h3⟩
    · exact .inl ⟨by simp [Instr.findKey, run_underlying hd, h1], h2⟩
    · exact .inr ⟨j, e, by simp [Instr.findKey, run_underlying hd, h1], h2, h3⟩
  · rcases findAsking_now h x es hk with rfl | hn
    · exact .inl ⟨by simp [Instr.findKey, run_underlying hd, Instr.findNow], fun _ h => by cases h⟩
    · rcases findAsking_yes K w x es 0 hk with ⟨h1, h2⟩ | ⟨j, e, h1, h2, h3⟩
      · exact .inl ⟨by simp [Instr.findKey, run_underlying hd, hn, h1], h2⟩
      · exact .inr ⟨j, e, by simp [Instr.findKey, run_underlying hd, hn, h1], h2, h3⟩

/-- Block b of w is a map of at most n entries that gives f k at the key enc k. -/
def MapOf (enc : κ → Value) (w : World) (b n : Nat) (f : κ → Option Value) : Prop :=
  ∃ es clock, w.heap[b]? = some (.map es clock) ∧ es.size ≤ n ∧ (es.toList.Pairwise fun x y => x.key ≠ y.key) ∧ (∀ e ∈ es.toList, ∃ k, e.key = enc k ∧ f k = some e.val) ∧ (∀ k v, f k = some v → ∃ e ∈ es.toList, e.key = enc k ∧ e.val = v)

theorem MapOf.made (w : World) : MapOf enc (w.alloc (.map #[] 0)) w.heap.size 0 (fun _ => none) :=
  ⟨#[], 0, heap_alloc_new w _, Nat.le_refl _, List.Pairwise.nil, fun e h => by simp at h, fun k v h => by cases h⟩
theorem MapOf.kept {w w' : World} {b n : Nat} {f : κ → Option Value} {row : Option Nat} (h : MapOf enc w b n f) (hg : w.grownBy w' row) (hne : some b ≠ row) : MapOf enc w' b n f := by
  obtain ⟨es, clock, hb, r⟩ := h
  exact ⟨es, clock, (hg.block b (Array.getElem?_eq_some_iff.1 hb).1 hne).trans hb, r⟩
theorem MapOf.same {w w' : World} {b n : Nat} {f : κ → Option Value} (h : MapOf enc w b n f) (hs : w'.heap[b]? = w.heap[b]?) : MapOf enc w' b n f := by
  obtain ⟨es, clock, hb, r⟩ := h
  exact ⟨es, clock, hs.trans hb, r⟩
theorem MapOf.lt {w : World} {b n : Nat} {f : κ → Option Value} (h : MapOf enc w b n f) : b < w.heap.size := by
  obtain ⟨es, clock, hb, r⟩ := h
  exact (Array.getElem?_eq_some_iff.1 hb).1

/-- 'm[k]'. -/
theorem MapOf.look {w : World} {b n : Nat} {f : κ → Option Value} {t e : TypeId} {z : Value} (h : MapOf enc w b n f) (K : KeyOk P kt enc) (ht : P.underlying t = some (.map kt e)) (hz : (zeroValue e).run P w = .ok z w) (k : κ) :
    (Instr.lookup t (.map (some b)) (enc k) false).run P w = .ok ((f k).getD z) w := by
  obtain ⟨es, clock, hb, _, _, h1, h2⟩ := h
  rcases find_key K w k es.toList (fun e he => by obtain ⟨k, hk, _⟩ := h1 e he; exact ⟨k, hk⟩) with ⟨r1, r2⟩ | ⟨j, e0, r1, r2, r3⟩
  · have hf : f k = none := by
      cases hf : f k with
      | none => rfl
      | some v => obtain ⟨e, he, hk, _⟩ := h2 k v hf; exact absurd hk (r2 e he)
    simp [Instr.lookup, run_underlying ht, MapKept.run_getObj_map hb, K.check w _ k, r1, hz, Result.andThen, hf]
  · obtain ⟨k', hk', hf⟩ := h1 e0 (List.mem_of_getElem? r2)
    have : k = k' := K.inj _ _ (r3.symm.trans hk')
    subst this
    simp [Instr.lookup, run_underlying ht, MapKept.run_getObj_map hb, K.check w _ k, r1, Result.andThen, hf]
/-- 'v, ok := m[k]'. -/
theorem MapOf.look2 {w : World} {b n : Nat} {f : κ → Option Value} {t e : TypeId} {z : Value} (h : MapOf enc w b n f) (K : KeyOk P kt enc) (ht : P.underlying t = some (.map kt e)) (hz : (zeroValue e).run P w = .ok z w) (k : κ) :
    (Instr.lookup t (.map (some b)) (enc k) true).run P w = .ok (.tuple #[(f k).getD z, .bool (f k).isSome]) w := by
  obtain ⟨es, clock, hb, _, _, h1, h2⟩ := h
  rcases find_key K w k es.toList (fun e he => by obtain ⟨k, hk, _⟩ := h1 e he; exact ⟨k, hk⟩) with ⟨r1, r2⟩ | ⟨j, e0, r1, r2, r3⟩
  · have hf : f k = none := by
      cases hf : f k with
      | none => rfl
      | some v => obtain ⟨e, he, hk, _⟩ := h2 k v hf; exact absurd hk (r2 e he)
    simp [Instr.lookup, run_underlying ht, MapKept.run_getObj_map hb, K.check w _ k, r1, hz, Result.andThen, hf]
  · obtain ⟨k', hk', hf⟩ := h1 e0 (List.mem_of_getElem? r2)
    have : k = k' := K.inj _ _ (r3.symm.trans hk')
    subst this
    simp [Instr.lookup, run_underlying ht, MapKept.run_getObj_map hb, K.check w _ k, r1, Result.andThen, hf]

/-- f with v at k. -/
def updF [DecidableEq κ] (f : κ → Option Value) (k : κ) (v : Value) : κ → Option Value := fun x => if x = k then some v else f x

theorem run_setObj_map' {P : Program} {w : World} {b : Nat} {es es' : Array MapEntry} {c c' : Nat} (hb : w.heap[b]? = some (.map es c)) :
    (setObj b (.map es' c')).run P w = .ok () { w with heap := w.heap.setIfInBounds b (.map es' c') } := by
  simp [setObj, Sem.run, hb]

theorem pw_key {l : List MapEntry} (h : l.Pairwise fun x y => x.key ≠ y.key) {i j : Nat} {a b : MapEntry} (hi : l[i]? = some a) (hj : l[j]? = some b) (he : a.key = b.key) : i = j := by
  obtain ⟨hil, rfl⟩ := List.getElem?_eq_some_iff.1 hi
  obtain ⟨hjl, rfl⟩ := List.getElem?_eq_some_iff.1 hj
  rcases Nat.lt_trichotomy i j with hlt | h' | hlt
  · exact absurd he (List.pairwise_iff_getElem.1 h i j hil hjl hlt)
  · exact h'
  · exact absurd he.symm (List.pairwise_iff_getElem.1 h j i hjl hil hlt)

theorem pw_set {l : List MapEntry} (h : l.Pairwise fun x y => x.key ≠ y.key) {j : Nat} {a a' : MapEntry} (hj : l[j]? = some a) (he : a.key = a'.key) : (l.set j a').Pairwise fun x y => x.key ≠ y.key := by
  obtain ⟨hjl, rfl⟩ := List.getElem?_eq_some_iff.1 hj
  rw [List.pairwise_iff_getElem] at h ⊢
  intro i k hi hk hik
  simp only [List.length_set] at hi hk
  simp only [List.getElem_set]
  split
  · rename_i h1; subst h1
    split
    · omega
    · rw [← he]; exact h _ _ hi hk hik
  · split
    · rename_i h1; subst h1
      rw [← he]; exact h _ _ hi hk hik
    · exact h _ _ hi hk hik

theorem MapOf.put [DecidableEq κ] {w : World} {b n : Nat} {f : κ → Option Value} {t e : TypeId} (h : MapOf enc w b n f) (K : KeyOk P kt enc) (ht : P.underlying t = some (.map kt e)) (k : κ) (v : Value) :
    ∃ w', (Instr.mapUpdate t (.map (some b)) (enc k) v).run P w = .ok () w' ∧ MapOf enc w' b (n + 1) (updF f k v) ∧ w.grownBy w' (some b) := by
  obtain ⟨es, clock, hb, hn, hpw, h1, h2⟩ := h
  have hbl := (Array.getElem?_eq_some_iff.1 hb).1
  have grown : ∀ o, w.grownBy { w with heap := w.heap.setIfInBounds b o } (some b) := fun o =>
    ⟨rfl, rfl, rfl, by simp, fun i _ hi => by simp only; rw [Array.getElem?_setIfInBounds_ne (fun e => hi (by rw [e]))]⟩
  have at_ : ∀ o, ({ w with heap := w.heap.setIfInBounds b o } : World).heap[b]? = some o := fun o => by simp [hbl]
  rcases find_key K w k es.toList (fun e he => by obtain ⟨k, hk, _⟩ := h1 e he; exact ⟨k, hk⟩) with ⟨r1, r2⟩ | ⟨j, e0, r1, r2, r3⟩
  · refine ⟨_, ?_, ⟨es.push { key := enc k, val := v, born := clock }, clock + 1, at_ _, by simp; omega, ?_, ?_, ?_⟩, grown _⟩
    · simp [Instr.mapUpdate, run_underlying ht, MapKept.run_getObj_map hb, K.check w false k, r1, run_setObj_map' hb, Result.andThen]
    · rw [Array.toList_push]
      exact List.pairwise_append.2 ⟨hpw, List.pairwise_singleton _ _, fun a ha c hc => by simp only [List.mem_singleton] at hc; subst hc; exact r2 a ha⟩
    · intro e he
      simp only [Array.toList_push, List.mem_append, List.mem_singleton] at he
      rcases he with he | rfl
      · obtain ⟨k', hk', hf⟩ := h1 e he
        refine ⟨k', hk', ?_⟩
        have : k' ≠ k := fun e2 => r2 e he (by rw [hk', e2])
        simp [updF, this, hf]
      · exact ⟨k, rfl, by simp [updF]⟩
    · intro k' v' hf
      unfold updF at hf
      split at hf
      · rename_i hk; subst hk
        cases hf
        exact ⟨_, by simp; exact .inr rfl, rfl, rfl⟩
      · obtain ⟨e, he, hk, hv⟩ := h2 k' v' hf
        exact ⟨e, by simp; exact .inl (by simpa using he), hk, hv⟩
  · have hjs : es[j]? = some e0 := by simpa using r2
    have hs : (Instr.keyThatStays e0.key (enc k)).run P w = .ok (enc k) w := by simp [Instr.keyThatStays, r3, K.stays]
    have hjl : j < es.toList.length := (List.getElem?_eq_some_iff.1 r2).1
    have hlist : (es.modify j (fun e' => { e' with key := enc k, val := v })).toList = es.toList.set j { e0 with key := enc k, val := v } := by
      rw [Array.toList_modify, ChangeMaps.modify_eq_set _ _ _ _ r2]
    refine ⟨_, ?_, ⟨es.modify j (fun e' => { e' with key := enc k, val := v }), clock, at_ _, by simp; omega, ?_, ?_, ?_⟩, grown _⟩
    · simp [Instr.mapUpdate, run_underlying ht, MapKept.run_getObj_map hb, K.check w false k, r1, hjs, hs, run_setObj_map' hb, Result.andThen]
    · rw [hlist]
      exact pw_set hpw r2 (by simpa using r3)
    · intro e he
      rw [hlist] at he
      obtain ⟨i, hi, rfl⟩ := List.getElem_of_mem he
      rw [List.getElem_set]
      split
      · exact ⟨k, rfl, by simp [updF]⟩
      · rename_i hne
        have hi' : i < es.toList.length := by simpa using hi
        obtain ⟨k', hk', hf⟩ := h1 _ (List.getElem_mem hi')
        refine ⟨k', hk', ?_⟩
        by_cases e2 : k' = k
        · exact absurd (hk'.trans ((congrArg enc e2).trans r3.symm)) (fun e3 => hne (pw_key hpw r2 (List.getElem?_eq_getElem hi') e3.symm))
        · simp [updF, e2, hf]
    · intro k' v' hf
      unfold updF at hf
      split at hf
      · rename_i hk; subst hk
        cases hf
        refine ⟨{ e0 with key := enc k', val := v }, ?_, rfl, rfl⟩
        rw [hlist]
        exact List.mem_iff_getElem.2 ⟨j, by simpa using hjl, by simp⟩
      · rename_i hk
        obtain ⟨e, he, hke, hv⟩ := h2 k' v' hf
        refine ⟨e, ?_, hke, hv⟩
        rw [hlist]
        obtain ⟨i, hi, rfl⟩ := List.getElem_of_mem he
        have hij : j ≠ i := by
          rintro rfl
          rw [List.getElem?_eq_getElem hjl] at r2
          cases r2
          exact hk (K.inj _ _ (hke.symm.trans r3))
        exact List.mem_iff_getElem.2 ⟨i, by simpa using hi, by simp [hij]⟩

/-- 'm[k] = v' at the operation, for the walk. -/
theorem wpList_put [DecidableEq κ] (w : World) {ops : Array Oper} {rest : List Oper} {o : Oper} {a : Act} {Q : Exit → Act → World → Prop}
    (hg : o.guard = none) (m x v : Operand) (t e : TypeId) (hop : o.op = Op.mapUpdate t m x v) (K : KeyOk P kt enc) (ht : P.underlying t = some (.map kt e)) (b n : Nat) (f : κ → Option Value)
    (hown : MapOf enc w b n f) (k : κ) (val : Value) (hm : a.eval m = .map (some b)) (hx : a.eval x = enc k) (hv : a.eval v = val)
    (hK : ∀ w', MapOf enc w' b (n + 1) (updF f k val) → w.grownBy w' (some b) → wpList P ops Q rest (a.put o.dst undef) w') :
    wpList P ops Q (o :: rest) a w := by
  refine wpList_plain hg fun K' hK' => ?_
  obtain ⟨w', hrun, r1, r2⟩ := hown.put K ht k val
  unfold Oper.wp
  simp [execOp, hop, hm, hx, hv, hrun, Result.andThen]
  exact hK' _ _ (hK w' r1 r2)
theorem wpListIn_put [DecidableEq κ] {F : Fence} {nF : Nat} (w : World) {ops : Array Oper} {rest : List Oper} {o : Oper} {a : Act} {Q : Exit → Act → World → Prop}
    (hg : o.guard = none) (m x v : Operand) (t e : TypeId) (hop : o.op = Op.mapUpdate t m x v) (K : KeyOk P kt enc) (ht : P.underlying t = some (.map kt e)) (b n : Nat) (f : κ → Option Value)
    (hown : MapOf enc w b n f) (k : κ) (val : Value) (hm : a.eval m = .map (some b)) (hx : a.eval x = enc k) (hv : a.eval v = val)
    (hK : ∀ w', MapOf enc w' b (n + 1) (updF f k val) → w.grownBy w' (some b) → wpListIn F nF P ops Q rest (a.put o.dst undef) w') :
    wpListIn F nF P ops Q (o :: rest) a w := by
  refine wpListIn_plain hg fun K' hK' => ?_
  obtain ⟨w', hrun, r1, r2⟩ := hown.put K ht k val
  unfold Oper.wpIn
  refine ⟨by simp [Oper.about, hop], ?_⟩
  rw [Oper.semAt_plain F _ _ (by rw [hop]; intro c hc'; cases hc')]
  simp [execOp, hop, hm, hx, hv, hrun, Result.andThen]
  exact hK' _ _ (hK w' r1 r2)

/-- A set as a map of true. -/
def setF [DecidableEq κ] (S : List κ) : κ → Option Value := fun k => if k ∈ S then some (.bool true) else none
theorem setF_nil [DecidableEq κ] : setF ([] : List κ) = fun _ => none := by funext k; simp [setF]
theorem setF_put [DecidableEq κ] (S : List κ) (k : κ) : updF (setF S) k (.bool true) = setF (k :: S) := by
  funext x
  unfold updF setF
  by_cases h : x = k <;> simp [h]
theorem setF_get [DecidableEq κ] (S : List κ) (k : κ) : (setF S k).getD (.bool false) = .bool (decide (k ∈ S)) := by
  unfold setF
  split <;> simp_all
def SetAt [DecidableEq κ] (enc : κ → Value) (w : World) (b : Nat) (S : List κ) : Prop := ∃ n, MapOf enc w b n (setF S)
theorem SetAt.made [DecidableEq κ] (enc : κ → Value) (w : World) : SetAt enc (w.alloc (.map #[] 0)) w.heap.size [] := ⟨0, by rw [setF_nil]; exact MapOf.made w⟩
theorem SetAt.kept [DecidableEq κ] {w w' : World} {b B : Nat} {S : List κ} (h : SetAt enc w b S) (hb : Below B w w') (hlt : b < B) : SetAt enc w' b S := by
  obtain ⟨n, h⟩ := h
  exact ⟨n, h.same (hb.block b hlt)⟩
theorem SetAt.same [DecidableEq κ] {w w' : World} {b : Nat} {S : List κ} (h : SetAt enc w b S) (hb : w'.heap[b]? = w.heap[b]?) : SetAt enc w' b S := by
  obtain ⟨n, h⟩ := h
  exact ⟨n, h.same hb⟩
theorem SetAt.lt [DecidableEq κ] {w : World} {b : Nat} {S : List κ} (h : SetAt enc w b S) : b < w.heap.size := by
  obtain ⟨n, h⟩ := h
  exact h.lt
theorem SetAt.look [DecidableEq κ] {w : World} {b : Nat} {S : List κ} {t e : TypeId} (h : SetAt enc w b S) (K : KeyOk P kt enc) (ht : P.underlying t = some (.map kt e)) (hz : ∀ w : World, (zeroValue e).run P w = .ok (.bool false) w) (k : κ) :
    (Instr.lookup t (.map (some b)) (enc k) false).run P w = .ok (.bool (decide (k ∈ S))) w := by
  obtain ⟨n, h⟩ := h
  rw [h.look K ht (hz w) k, setF_get]
theorem wpList_add [DecidableEq κ] (w : World) {ops : Array Oper} {rest : List Oper} {o : Oper} {a : Act} {Q : Exit → Act → World → Prop}
    (hg : o.guard = none) (m x v : Operand) (t e : TypeId) (hop : o.op = Op.mapUpdate t m x v) (K : KeyOk P kt enc) (ht : P.underlying t = some (.map kt e)) (b : Nat) (S : List κ)
    (hown : SetAt enc w b S) (k : κ) (hm : a.eval m = .map (some b)) (hx : a.eval x = enc k) (hv : a.eval v = .bool true)
    (hK : ∀ w', SetAt enc w' b (k :: S) → w.grownBy w' (some b) → wpList P ops Q rest (a.put o.dst undef) w') :
    wpList P ops Q (o :: rest) a w := by
  obtain ⟨n, hown⟩ := hown
  exact wpList_put w hg m x v t e hop K ht b n _ hown k _ hm hx hv fun w' h1 h2 => hK w' ⟨n + 1, by rw [← setF_put]; exact h1⟩ h2
theorem wpListIn_add [DecidableEq κ] {F : Fence} {nF : Nat} (w : World) {ops : Array Oper} {rest : List Oper} {o : Oper} {a : Act} {Q : Exit → Act → World → Prop}
    (hg : o.guard = none) (m x v : Operand) (t e : TypeId) (hop : o.op = Op.mapUpdate t m x v) (K : KeyOk P kt enc) (ht : P.underlying t = some (.map kt e)) (b : Nat) (S : List κ)
    (hown : SetAt enc w b S) (k : κ) (hm : a.eval m = .map (some b)) (hx : a.eval x = enc k) (hv : a.eval v = .bool true)
    (hK : ∀ w', SetAt enc w' b (k :: S) → w.grownBy w' (some b) → wpListIn F nF P ops Q rest (a.put o.dst undef) w') :
    wpListIn F nF P ops Q (o :: rest) a w := by
  obtain ⟨n, hown⟩ := hown
  exact wpListIn_put w hg m x v t e hop K ht b n _ hown k _ hm hx hv fun w' h1 h2 => hK w' ⟨n + 1, by rw [← setF_put]; exact h1⟩ h2
end
end Go.Proofs.YtdfnmapmnmecnaaDoor

/- The keys of the program's maps: integers, places, views. -/
namespace Go.Proofs.YtdfnmapmnmecnaaDoor
open Go.RowKit
open Classical in
theorem int_key : KeyOk Tryd.prog 3 (Value.int .i64) where
  inj := fun a b h => by injection h
  check := fun w em a => by
    have hi : Tryd.prog.underlying 3 = some (.int .i64) := Tryd.underlying3
    unfold Instr.checkKey
    simp [run_underlying hi, Result.andThen]
  equal := fun w a b => by
    have hi : Tryd.prog.underlying 3 = some (.int .i64) := Tryd.underlying3
    unfold Op.equal Op.maxDepth
    rw [run_equalIn_int w _ 3 _ _ _ _ hi]
    by_cases h : a = b <;> simp [h]
  now := fun d hd => .inl fun a b => by
    have hi : Tryd.prog.underlying 3 = some (.int .i64) := Tryd.underlying3
    rw [hi] at hd
    cases hd
    by_cases h : a = b <;> simp [Instr.sameNow, h]
  stays := fun a => by simp [Instr.sameBits]
  kind := ⟨_, Tryd.underlying3⟩

theorem view_inj (a b : Vw) (h : Value.agg a.cells = .agg b.cells) : a = b := by
  injection h with h
  obtain ⟨a0, a1, a2, a3, a4, a5, a6, a7⟩ := a
  obtain ⟨b0, b1, b2, b3, b4, b5, b6, b7⟩ := b
  simpa [Vw.cells] using h

theorem check_int (w : World) (em : Bool) (n : Nat) (a : Int) : (Instr.checkKey em (n + 1) 3 (.int .i64 a)).run Tryd.prog w = .ok () w := by
  have hi : Tryd.prog.underlying 3 = some (.int .i64) := Tryd.underlying3
  unfold Instr.checkKey
  simp [run_underlying hi, Result.andThen]

theorem check_arr (w : World) (em : Bool) (n : Nat) (a b c d e : Int) : (Instr.checkKey em (n + 2) 25 (.agg #[.int .i64 a, .int .i64 b, .int .i64 c, .int .i64 d, .int .i64 e])).run Tryd.prog w = .ok () w := by
  have hu : Tryd.prog.underlying 25 = some (.array 5 3) := Tryd.underlying25
  have hs : (sizeOf 3).run Tryd.prog w = .ok 1 w := by kernel_rfl
  have p0 := fun x0 x1 x2 x3 x4 => part_int #[x0, x1, x2, x3, x4] 0 x0 rfl w
  have p1 := fun x0 x1 x2 x3 x4 => part_int #[x0, x1, x2, x3, x4] 1 x1 rfl w
  have p2 := fun x0 x1 x2 x3 x4 => part_int #[x0, x1, x2, x3, x4] 2 x2 rfl w
  have p3 := fun x0 x1 x2 x3 x4 => part_int #[x0, x1, x2, x3, x4] 3 x3 rfl w
  have p4 := fun x0 x1 x2 x3 x4 => part_int #[x0, x1, x2, x3, x4] 4 x4 rfl w
  unfold Instr.checkKey
  simp only [Sem.run_bind, run_underlying hu, Result.andThen_ok, hs, Std.Legacy.Range.forIn_eq_forIn_range', Std.Legacy.Range.size, Nat.sub_zero, Nat.add_sub_cancel, Nat.div_one, show List.range' 0 5 1 = [0, 1, 2, 3, 4] from rfl, List.forIn_cons, List.forIn_nil, p0, p1, p2, p3, p4, Nat.mul_one, check_int, Sem.run_pure]

open Classical in
theorem view_key : KeyOk Tryd.prog 27 (fun v : Vw => .agg v.cells) where
  inj := view_inj
  check := fun w em v => by
    have hu : Tryd.prog.underlying 27 = some (.struct (Tryd.prog.fieldsOf 27)) := by kernel_rfl
    have hf : (Tryd.prog.fieldsOf 27).toList.map (fun f => (f.name, f.type, f.offset)) = [("Proc", 3, 0), ("Round", 3, 1), ("Input", 3, 2), ("Heard", 25, 3)] := by kernel_rfl
    have p0 : ∀ x : Vw, (part 3 x.cells 0).run Tryd.prog w = .ok (.int .i64 x.p) w := fun x => part_int _ 0 _ rfl w
    have p1 : ∀ x : Vw, (part 3 x.cells 1).run Tryd.prog w = .ok (.int .i64 x.r) w := fun x => part_int _ 1 _ rfl w
    have p2 : ∀ x : Vw, (part 3 x.cells 2).run Tryd.prog w = .ok (.int .i64 x.i) w := fun x => part_int _ 2 _ rfl w
    have p3 : ∀ x : Vw, (part 25 x.cells 3).run Tryd.prog w = .ok (.agg #[.int .i64 x.h0, .int .i64 x.h1, .int .i64 x.h2, .int .i64 x.h3, .int .i64 x.h4]) w := fun x => by unfold Vw.cells; kernel_rfl
    unfold Instr.checkKey
    simp only [Sem.run_bind, run_underlying hu, Result.andThen_ok]
    rw [← Array.forIn_toList]
    generalize (Tryd.prog.fieldsOf 27).toList = fs at hf
    obtain ⟨f0, f1, f2, f3, rfl⟩ : ∃ f0 f1 f2 f3, fs = [f0, f1, f2, f3] := by
      have hl : fs.length = 4 := by simpa using congrArg List.length hf
      rcases fs with _ | ⟨f0, _ | ⟨f1, _ | ⟨f2, _ | ⟨f3, _ | ⟨f4, r⟩⟩⟩⟩⟩ <;> simp at hl
      exact ⟨_, _, _, _, rfl⟩
    clear hu
    simp only [List.map_cons, List.map_nil, List.cons.injEq, Prod.mk.injEq, and_true] at hf
    obtain ⟨⟨n0, t0, o0⟩, ⟨n1, t1, o1⟩, ⟨n2, t2, o2⟩, ⟨n3, t3, o3⟩⟩ := hf
    simp only [List.forIn_cons, List.forIn_nil, n0, n1, n2, n3, t0, t1, t2, t3, o0, o1, o2, o3, p0, p1, p2, p3, Sem.run_bind, Result.andThen_ok, check_int, check_arr, ne_eq, String.reduceEq, not_false_eq_true, if_true, Sem.run_pure]
  equal := fun w a b => by
    unfold Op.equal Op.maxDepth
    rw [eqlIn_view 9997 a b w]
    by_cases h : a = b
    · simp [h]
    · have : ¬ (Value.agg a.cells = .agg b.cells) := fun e => h (view_inj a b e)
      rw [decide_eq_false h, decide_eq_false this]
  now := fun d hd => .inr fun a b => by
    have hu : Tryd.prog.underlying 27 = some (.struct (Tryd.prog.fieldsOf 27)) := by kernel_rfl
    rw [hu] at hd
    cases hd
    simp [Instr.sameNow]
  stays := fun a => by simp [Instr.sameBits, Vw.cells]
  kind := ⟨_, by have hu : Tryd.prog.underlying 27 = some (.struct (Tryd.prog.fieldsOf 27)) := by kernel_rfl
                 exact hu⟩

def plEnc (x : Int × Int) : Value := .agg #[.int .i64 x.1, .int .i64 x.2]
theorem pl_inj (a b : Int × Int) (h : plEnc a = plEnc b) : a = b := by
  injection h with h
  obtain ⟨a0, a1⟩ := a
  obtain ⟨b0, b1⟩ := b
  simpa using h

open Classical in
theorem place_key : KeyOk Tryd.prog 103 plEnc where
  inj := pl_inj
  check := fun w em v => by
    have hu : Tryd.prog.underlying 103 = some (.struct (Tryd.prog.fieldsOf 103)) := by kernel_rfl
    have hf : (Tryd.prog.fieldsOf 103).toList.map (fun f => (f.name, f.type, f.offset)) = [("proc", 3, 0), ("round", 3, 1)] := by kernel_rfl
    have p0 := fun x0 x1 => part_int #[x0, x1] 0 x0 rfl w
    have p1 := fun x0 x1 => part_int #[x0, x1] 1 x1 rfl w
    unfold Instr.checkKey plEnc
    simp only [Sem.run_bind, run_underlying hu, Result.andThen_ok]
    rw [← Array.forIn_toList]
    generalize (Tryd.prog.fieldsOf 103).toList = fs at hf
    obtain ⟨f0, f1, rfl⟩ : ∃ f0 f1, fs = [f0, f1] := by
      have hl : fs.length = 2 := by simpa using congrArg List.length hf
      rcases fs with _ | ⟨f0, _ | ⟨f1, _ | ⟨f2, r⟩⟩⟩ <;> simp at hl
      exact ⟨_, _, rfl⟩
    clear hu
    simp only [List.map_cons, List.map_nil, List.cons.injEq, Prod.mk.injEq, and_true] at hf
    obtain ⟨⟨n0, t0, o0⟩, ⟨n1, t1, o1⟩⟩ := hf
    simp only [List.forIn_cons, List.forIn_nil, n0, n1, t0, t1, o0, o1, p0, p1, Sem.run_bind, Result.andThen_ok, check_int, ne_eq, String.reduceEq, not_false_eq_true, if_true, Sem.run_pure]
  equal := fun w a b => by
    have hu : Tryd.prog.underlying 103 = some (.struct (Tryd.prog.fieldsOf 103)) := by kernel_rfl
    have hi : Tryd.prog.underlying 3 = some (.int .i64) := Tryd.underlying3
    have hf : (Tryd.prog.fieldsOf 103).toList.map (fun f => (f.name, f.type, f.offset)) = [("proc", 3, 0), ("round", 3, 1)] := by kernel_rfl
    have p0 := fun x0 x1 => part_int #[x0, x1] 0 x0 rfl w
    have p1 := fun x0 x1 => part_int #[x0, x1] 1 x1 rfl w
    unfold Op.equal Op.maxDepth plEnc
    rw [run_equalIn_struct w 9999 103 _ _ hu (by kernel_rfl)]
    generalize (Tryd.prog.fieldsOf 103).toList = fs at hf
    obtain ⟨f0, f1, rfl⟩ : ∃ f0 f1, fs = [f0, f1] := by
      have hl : fs.length = 2 := by simpa using congrArg List.length hf
      rcases fs with _ | ⟨f0, _ | ⟨f1, _ | ⟨f2, r⟩⟩⟩ <;> simp at hl
      exact ⟨_, _, rfl⟩
    clear hu
    simp only [List.map_cons, List.map_nil, List.cons.injEq, Prod.mk.injEq, and_true] at hf
    obtain ⟨⟨n0, t0, o0⟩, ⟨n1, t1, o1⟩⟩ := hf
    have hd : (@decide (Value.agg #[.int .i64 a.1, .int .i64 a.2] = .agg #[.int .i64 b.1, .int .i64 b.2]) (propDecidable _)) = (a.1 == b.1 && a.2 == b.2) := by
      rw [Bool.eq_iff_iff]; simp
    rw [hd]
    cases h0 : (a.1 == b.1) <;> cases h1 : (a.2 == b.2) <;>
      simp only [Op.eqFields, n0, n1, t0, t1, o0, o1, p0, p1, Sem.run_bind, Result.andThen_ok, run_equalIn_int w _ 3 _ _ _ _ hi, h0, h1, ne_eq, not_false_eq_true, if_true, Bool.not_false, Bool.not_true, Bool.false_eq_true, if_false, Sem.run_pure, Bool.true_and, Bool.false_and, String.reduceEq]
  now := fun d hd => .inr fun a b => by
    have hu : Tryd.prog.underlying 103 = some (.struct (Tryd.prog.fieldsOf 103)) := by kernel_rfl
    rw [hu] at hd
    cases hd
    simp [Instr.sameNow]
  stays := fun a => by simp [Instr.sameBits, plEnc]
  kind := ⟨_, by have hu : Tryd.prog.underlying 103 = some (.struct (Tryd.prog.fieldsOf 103)) := by kernel_rfl
                 exact hu⟩
end Go.Proofs.YtdfnmapmnmecnaaDoor

/- A walk through a table with a list of what waits and a set of what was seen: plain law. And: what appending and turning blocks keeps. -/
namespace Go.Proofs.YtdfnmapmnmecnaaDoor
open Go.RowKit

structure DfsInv (vs : List Vw) (fs seen wait : List Nat) : Prop where
  from_ : ∀ c, c ∈ fs → c ∈ seen ∨ c ∈ wait
  kids_ : ∀ x, x ∈ seen → ∀ c, c ∈ kids (getV vs x) → c ∈ seen ∨ c ∈ wait
  good : ∀ x, x ∈ seen ∨ x ∈ wait → x < vs.length ∧ ∃ c, c ∈ fs ∧ reach vs c x = true
  nodup : seen.Nodup
  len : wait.length ≤ 5 * seen.length + fs.length

theorem kids_length (v : Vw) : (kids v).length ≤ 5 := by
  unfold kids heardL heardTo
  rw [List.length_map]
  split
  · exact Nat.le_trans (List.length_filterMap_le _ _) (by simp)
  · simp

theorem nodup_le : ∀ (n : Nat) (l : List Nat), l.Nodup → (∀ x, x ∈ l → x < n) → l.length ≤ n
  | 0, l, _, h => by
    cases l with
    | nil => simp
    | cons a l => have := h a (by simp); omega
  | n + 1, l, hd, h => by
    have h1 : (l.erase n).length ≤ n := nodup_le n (l.erase n) (hd.erase n) fun x hx => by
      have h2 := h x (List.mem_of_mem_erase hx)
      have h3 : x ≠ n := fun e => by subst e; exact (List.Nodup.not_mem_erase hd) hx
      omega
    have := List.le_length_erase (l := l) (a := n)
    omega

theorem DfsInv.start {vs : List Vw} {fs : List Nat} (h : ∀ c, c ∈ fs → c < vs.length) : DfsInv vs fs [] fs :=
  ⟨fun c hc => .inr hc, fun x hx => absurd hx (by simp), fun x hx => ⟨h x (by simpa using hx), x, by simpa using hx, reach_self vs x⟩, List.nodup_nil, by simp⟩
theorem DfsInv.skip {vs : List Vw} {fs seen wait : List Nat} {i : Nat} (h : DfsInv vs fs seen (wait ++ [i])) (hi : i ∈ seen) : DfsInv vs fs seen wait where
  from_ := fun c hc => by
    rcases h.from_ c hc with h1 | h1
    · exact .inl h1
    · rcases List.mem_append.1 h1 with h2 | h2
      · exact .inr h2
      · obtain rfl : c = i := by simpa using h2
        exact .inl hi
  kids_ := fun x hx c hc => by
    rcases h.kids_ x hx c hc with h1 | h1
    · exact .inl h1
    · rcases List.mem_append.1 h1 with h2 | h2
      · exact .inr h2
      · obtain rfl : c = i := by simpa using h2
        exact .inl hi
  good := fun x hx => h.good x (by rcases hx with h1 | h1 <;> simp [h1])
  nodup := h.nodup
  len := by have := h.len; simp at this; omega
theorem DfsInv.push {vs : List Vw} (ha : Acyc vs) {fs seen wait : List Nat} {i : Nat} (hf : ∀ c, c ∈ fs → c < vs.length) (h : DfsInv vs fs seen (wait ++ [i])) (hi : i ∉ seen) : DfsInv vs fs (i :: seen) (wait ++ kids (getV vs i)) where
  from_ := fun c hc => by
    rcases h.from_ c hc with h1 | h1
    · exact .inl (by simp [h1])
    · rcases List.mem_append.1 h1 with h2 | h2
      · exact .inr (by simp [h2])
      · obtain rfl : c = i := by simpa using h2
        exact .inl (by simp)
  kids_ := fun x hx c hc => by
    rcases List.mem_cons.1 hx with rfl | hx
    · exact .inr (by simp [hc])
    · rcases h.kids_ x hx c hc with h1 | h1
      · exact .inl (by simp [h1])
      · rcases List.mem_append.1 h1 with h2 | h2
        · exact .inr (by simp [h2])
        · obtain rfl : c = i := by simpa using h2
          exact .inl (by simp)
  good := fun x hx => by
    have hii := h.good i (by simp)
    rcases hx with h1 | h1
    · rcases List.mem_cons.1 h1 with rfl | h1
      · exact hii
      · exact h.good x (.inl h1)
    · rcases List.mem_append.1 h1 with h1 | h1
      · exact h.good x (.inr (by simp [h1]))
      · obtain ⟨hl, c, hc, hr⟩ := hii
        exact ⟨by have := ha i hl x h1; omega, c, hc, reach_step ha (hf c hc) hr h1⟩
  nodup := List.nodup_cons.2 ⟨hi, h.nodup⟩
  len := by have := h.len; have := kids_length (getV vs i); simp at *; omega
theorem DfsInv.small {vs : List Vw} {fs seen wait : List Nat} (h : DfsInv vs fs seen wait) : seen.length ≤ vs.length ∧ wait.length ≤ 5 * vs.length + fs.length := by
  have h1 := nodup_le vs.length seen h.nodup fun x hx => (h.good x (.inl hx)).1
  have := h.len
  omega
theorem DfsInv.room {vs : List Vw} {fs seen wait : List Nat} {i : Nat} (h : DfsInv vs fs seen (wait ++ [i])) (hi : i ∉ seen) : seen.length < vs.length := by
  have := nodup_le vs.length (i :: seen) (List.nodup_cons.2 ⟨hi, h.nodup⟩) fun x hx => by
    rcases List.mem_cons.1 hx with rfl | hx
    · exact (h.good _ (by simp)).1
    · exact (h.good x (.inl hx)).1
  simp at this
  omega
theorem DfsInv.done {vs : List Vw} (ha : Acyc vs) {fs seen : List Nat} (hf : ∀ c, c ∈ fs → c < vs.length) (h : DfsInv vs fs seen []) (x : Nat) (_hx : x < vs.length) : decide (x ∈ seen) = fs.any fun c => reach vs c x := by
  rw [Bool.eq_iff_iff]
  simp only [decide_eq_true_eq, List.any_eq_true]
  constructor
  · intro hs
    obtain ⟨_, c, hc, hr⟩ := h.good x (.inl hs)
    exact ⟨c, hc, hr⟩
  · rintro ⟨c, hc, hr⟩
    have hcs : c ∈ seen := by simpa using h.from_ c hc
    exact reach_closed ha (S := fun y => y ∈ seen) (fun y _ hy k hk => by simpa using h.kids_ y hy k hk) (hf c hc) hcs hr

/-- What was built so far of the past. -/
def seenTo (seen : List Nat) (k : Nat) : List Int := castL ((List.range k).filter fun x => decide (x ∈ seen))
theorem seenTo_yes {seen : List Nat} {k : Nat} (h : k ∈ seen) : seenTo seen (k + 1) = seenTo seen k ++ [(k : Int)] := by simp [seenTo, castL, List.range_succ, List.filter_append, h]
theorem seenTo_no {seen : List Nat} {k : Nat} (h : k ∉ seen) : seenTo seen (k + 1) = seenTo seen k := by simp [seenTo, castL, List.range_succ, List.filter_append, h]
theorem seenTo_length (seen : List Nat) (k : Nat) : (seenTo seen k).length ≤ k := by
  unfold seenTo; rw [castL_length]; exact Nat.le_trans (List.length_filter_le _ _) (by simp)
theorem DfsInv.result {vs : List Vw} (ha : Acyc vs) {fs seen : List Nat} (hf : ∀ c, c ∈ fs → c < vs.length) (h : DfsInv vs fs seen []) : seenTo seen vs.length = castL (pastL vs fs) := by
  unfold seenTo pastL
  congr 1
  exact List.filter_congr fun x hx => h.done ha hf x (by simpa using hx)

/-- What appends to a row of the call's own, and shutting blocks that are no cells, leave: all below B, and all that are no cells. -/
structure Non (B : Nat) (w W : World) : Prop where
  below : Below B w W
  same : ∀ (k : Nat) (o : Obj), w.heap[k]? = some o → o.isCells = false → W.heap[k]? = some o
theorem Non.refl (B : Nat) (w : World) : Non B w w := ⟨Below.refl _ _, fun _ _ h _ => h⟩
theorem Non.trans {B : Nat} {w W X : World} (h : Non B w W) (k : Non B W X) : Non B w X := ⟨h.below.trans k.below, fun i o hi ho => k.same i o (h.same i o hi ho) ho⟩
theorem Non.of_grown {B : Nat} {w W : World} {row : Option Nat} (hg : w.grownBy W row) (hB : B ≤ w.heap.size) (hr : ∀ r, row = some r → B ≤ r ∧ ∀ o, w.heap[r]? = some o → o.isCells = true) : Non B w W :=
  ⟨(Below.refl B w).grown hg hB fun k hk => (hr k hk).1, fun k o hk ho => (hg.block k (Array.getElem?_eq_some_iff.1 hk).1 (fun e => by have := (hr k e.symm).2 o hk; rw [ho] at this; cases this)).trans hk⟩
theorem Non.turn {B : Nat} {w W X : World} {row : Option Nat} (h : Non B w W) (hg : W.grownBy X row) (hB : B ≤ w.heap.size) (hr : ∀ r, row = some r → w.heap.size ≤ r) : Non B w X :=
  ⟨h.below.grown hg (by have := h.below.size; omega) (fun k hk => by have := hr k hk; omega), fun k o hk ho => (hg.block k (Array.getElem?_eq_some_iff.1 (h.same k o hk ho)).1 (fun e => by have := hr k e.symm; have := (Array.getElem?_eq_some_iff.1 hk).1; omega)).trans (h.same k o hk ho)⟩
theorem Non.marks {B B' : Nat} {w W : World} {ds : List Deferred} (h : Marks B' ds w) (hn : Non B w W) : Marks B' ds W := by
  obtain ⟨rs, rfl, hd, hk⟩ := h
  exact ⟨rs, rfl, hd, fun r hr => ⟨(hk r hr).1, hn.same r _ (hk r hr).2 rfl⟩⟩
end Go.Proofs.YtdfnmapmnmecnaaDoor

/- A boxed slice of integers that grows inside ranges over functions. -/
namespace Go.Proofs.YtdfnmapmnmecnaaDoor
open Go.RowKit Go.Shelf

/-- A slice of integers may be clad: what the blocks of cells below B and the row of xs keep. -/
theorem own_type {w : World} {base : Nat} {v : Value} {xs : List Int} (h : Own w base v xs) {k : Nat} {cs : Array Value} {t : TypeId} (hk : w.heap[k]? = some (.cells cs t (0, 0))) (ht : t ≠ 3) : v.ownBlock ≠ some k := by
  intro e
  rcases h.2 with ⟨rfl, _⟩ | ⟨g, cap, cur, rfl, _, hg, _⟩
  · cases e
  · simp only [Value.ownBlock, Option.some.injEq] at e
    subst e
    rw [hk] at hg
    cases hg
    exact ht rfl
theorem own_cells {w : World} {base : Nat} {v : Value} {xs : List Int} (h : Own w base v xs) : ∀ r, v.ownBlock = some r → base ≤ r ∧ ∀ o, w.heap[r]? = some o → o.isCells = true := by
  intro r hr
  refine ⟨(h.lt r hr).1, fun o ho => ?_⟩
  rcases h.2 with ⟨rfl, _⟩ | ⟨g, cap, cur, rfl, _, hg, _⟩
  · cases hr
  · simp only [Value.ownBlock, Option.some.injEq] at hr
    subst hr
    rw [hg] at ho
    cases ho
    rfl

theorem SetAt.non {w W : World} {B b : Nat} {S : List Int} (h : SetAt (Value.int .i64) w b S) (hn : Non B w W) : SetAt (Value.int .i64) W b S := by
  obtain ⟨m, h⟩ := h
  obtain ⟨es, clock, hb, r⟩ := id h
  exact ⟨m, h.same ((hn.same b _ hb rfl).trans hb.symm)⟩
theorem set_box {w : World} {g : Nat} {v : Value} {t : TypeId} (h : w.heap[g]? = some (.cells #[v] t (0, 0))) (v' : Value) :
    (w.setCell ⟨g, 0, none⟩ v').heap[g]? = some (.cells #[v'] t (0, 0)) ∧ (w.setCell ⟨g, 0, none⟩ v').heap.size = w.heap.size ∧ ∀ k, k ≠ g → (w.setCell ⟨g, 0, none⟩ v').heap[k]? = w.heap[k]? := by
  have hg := (Array.getElem?_eq_some_iff.1 h).1
  refine ⟨?_, by simp [World.setCell], fun k hk => Below.heap_setCell w ⟨g, 0, none⟩ v' k hk⟩
  have hgg := (Array.getElem?_eq_some_iff.1 h).2
  rw [World.setCell, Array.getElem?_modify, if_pos rfl, h]
  rfl
theorem grown_set {w : World} {g : Nat} {v : Value} {t : TypeId} (_h : w.heap[g]? = some (.cells #[v] t (0, 0))) (v' : Value) : w.grownBy (w.setCell ⟨g, 0, none⟩ v') (some g) :=
  ⟨rfl, rfl, rfl, by simp [World.setCell], fun k _ hk => Below.heap_setCell w ⟨g, 0, none⟩ v' k (fun e => hk (by rw [e]))⟩
theorem own_cut {w : World} {base : Nat} {A : Option Addr} {n c : Nat} {xs : List Nat} {i : Nat} (h : Own w base (.slice A (n + 1) c) (castL (xs ++ [i]))) : Own w base (.slice A n c) (castL xs) := by
  obtain ⟨h0, h⟩ := h
  have hn : xs.length = n := by
    rcases h with ⟨e, _⟩ | ⟨g, cap, cur, e, _⟩
    · cases e
    · simp only [Value.slice.injEq] at e; simp [castL] at e; omega
  subst hn
  refine ⟨by simp, ?_⟩
  rcases h with ⟨e, _⟩ | ⟨g, cap, cur, e, h1, h2, h3, h4, h5, h6⟩
  · cases e
  · simp only [Value.slice.injEq] at e
    obtain ⟨rfl, _, rfl⟩ := e
    refine .inr ⟨g, c, cur, by simp [castL], h1, h2, by simp [castL] at h3 ⊢; omega, h4, h5, ?_⟩
    have := congrArg (List.take xs.length) h6
    simp [castL, List.take_take] at this ⊢
    rw [← this]
theorem Marks.keep {B : Nat} {w W : World} {ds : List Deferred} (h : Marks B ds w) (hk : ∀ k : Nat, w.heap[k]? = some (Obj.deferred (some [])) → W.heap[k]? = some (Obj.deferred (some []))) : Marks B ds W := by
  obtain ⟨rs, rfl, hd, hr⟩ := h
  exact ⟨rs, rfl, hd, fun r h => ⟨(hr r h).1, hk r (hr r h).2⟩⟩
theorem zero_bool (w : World) : (zeroValue 4).run Tryd.prog w = .ok (.bool false) w := by kernel_rfl


/-- Inside a range over a function: box g holds the slice of integers xs of the call's own; what else lay when the range began lies. -/
structure BoxIn (B g : Nat) (xs : List Int) (w2 W : World) : Prop where
  box : ∃ P c, W.heap[g]? = some (.cells #[.slice P xs.length c] 37 (0, 0)) ∧ Own W B (.slice P xs.length c) xs
  non : Non B w2 W
  rest : ∀ (k : Nat) (cs : Array Value) (t : TypeId), w2.heap[k]? = some (.cells cs t (0, 0)) → t ≠ 3 → k ≠ g → W.heap[k]? = some (.cells cs t (0, 0))

theorem BoxIn.start {B g : Nat} {xs : List Int} {w2 : World} {P : Option Addr} {c : Nat} (hb : w2.heap[g]? = some (.cells #[.slice P xs.length c] 37 (0, 0))) (ho : Own w2 B (.slice P xs.length c) xs) : BoxIn B g xs w2 w2 :=
  ⟨⟨P, c, hb, ho⟩, Non.refl _ _, fun _ _ _ h _ _ => h⟩
theorem BoxIn.turn {B g : Nat} {xs : List Int} {w2 W W' : World} {row : Option Nat} (h : BoxIn B g xs w2 W) (hB : B ≤ w2.heap.size) (hg : W.grownBy W' row) (hr : ∀ r, row = some r → w2.heap.size ≤ r ∧ ∃ o : Obj, W.heap[r]? = some o ∧ o.isCells = false) : BoxIn B g xs w2 W' := by
  obtain ⟨⟨P, c, hb, ho⟩, hn, hrest⟩ := h
  refine ⟨⟨P, c, (grownBy_keeps_cells hg (fun r e => (hr r e).2) hb rfl).trans hb, ho.kept hg ?_⟩, hn.turn hg hB fun r e => (hr r e).1, fun k cs t hk ht hkg => (grownBy_keeps_cells hg (fun r e => (hr r e).2) (hrest k cs t hk ht hkg) rfl).trans (hrest k cs t hk ht hkg)⟩
  by_cases e : (Value.slice P xs.length c).ownBlock = none
  · exact .inl e
  · obtain ⟨r, e⟩ := Option.ne_none_iff_exists'.1 e
    right
    rw [e]
    intro e2
    obtain ⟨o, ho1, ho2⟩ := (hr r e2.symm).2
    have := (own_cells ho r e).2 o ho1
    rw [this] at ho2; cases ho2
theorem BoxIn.own {B g : Nat} (xs0 : List Int) {β : Type} {xs : List β} (f : β → Int) {w2 : World} (hB : B ≤ w2.heap.size) : OwnFrom w2.heap.size (fun (pre : List { x : β // x ∈ xs }) W => BoxIn B g (xs0 ++ pre.map fun x => f x.1) w2 W) :=
  fun _ _ _ _ h hg hr => h.turn hB hg hr
/-- An element more: appended, and the box written. -/
theorem BoxIn.push {B g : Nat} {xs : List Int} {w2 W w1 : World} {P : Option Addr} {c : Nat} {v' : Value} {u : Int} (h : BoxIn B g xs w2 W) (hB : B ≤ g) (hb : W.heap[g]? = some (.cells #[.slice P xs.length c] 37 (0, 0)))
    (ho : Own W B (.slice P xs.length c) xs) (ho1 : Own w1 B v' (xs ++ [u])) (hg : W.grownBy w1 (Value.slice P xs.length c).ownBlock) (bx : Nat) (cs : Array Value) (hne' : bx ≠ g) (hbx : w2.heap[bx]? = some (.cells cs 27 (0, 0))) :
    KeepsFrom w2.heap.size W (w1.setCell ⟨g, 0, none⟩ v') ∧ KeepB (· = bx) W (w1.setCell ⟨g, 0, none⟩ v') ∧ BoxIn B g (xs ++ [u]) w2 (w1.setCell ⟨g, 0, none⟩ v') := by
  have hBW : B ≤ W.heap.size := by have := (Array.getElem?_eq_some_iff.1 hb).1; omega
  have hw1b : w1.heap[g]? = some (.cells #[.slice P xs.length c] 37 (0, 0)) := (hg.block g (Array.getElem?_eq_some_iff.1 hb).1 (fun e => own_type ho hb (by decide) e.symm)).trans hb
  obtain ⟨x6, xs', xo⟩ := set_box hw1b v'
  have hgX := grown_set hw1b v'
  have n1 : Non B W w1 := Non.of_grown hg hBW (own_cells ho)
  have n2 : Non B w1 (w1.setCell ⟨g, 0, none⟩ v') := Non.of_grown hgX (by have := hg.size; omega) (fun r e => by cases e; exact ⟨hB, fun o ho => by rw [hw1b] at ho; cases ho; rfl⟩)
  have n3 := n1.trans n2
  have rest : ∀ (k : Nat) (cs : Array Value) (t : TypeId), w2.heap[k]? = some (.cells cs t (0, 0)) → t ≠ 3 → k ≠ g → (w1.setCell ⟨g, 0, none⟩ v').heap[k]? = some (.cells cs t (0, 0)) := fun k cs t hk ht hkg => by
    have h1 := h.rest k cs t hk ht hkg
    rw [xo k hkg]
    exact (hg.block k (Array.getElem?_eq_some_iff.1 h1).1 (fun e => own_type ho h1 ht e.symm)).trans h1
  refine ⟨⟨n3.below.size, fun k o _ hk ho => n3.same k o hk ho⟩, ⟨n3.below.size, fun k e hl => ?_⟩, ?_, h.non.trans n3, rest⟩
  · subst e
    have h1 := h.rest k cs _ hbx (by decide) hne'
    rw [rest k cs _ hbx (by decide) hne', h1]
  · have ho2 := ho1.kept hgX (.inr (own_type ho1 hw1b (by decide)))
    obtain ⟨A2, c2, rfl, h1, h2, _⟩ := ho2.form
    exact ⟨A2, c2, x6, ho2⟩
end Go.Proofs.YtdfnmapmnmecnaaDoor
