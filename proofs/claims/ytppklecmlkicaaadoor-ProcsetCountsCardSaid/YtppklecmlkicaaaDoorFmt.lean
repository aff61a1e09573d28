/- procset.Format; the reference's. -/
import Derived.Test.YtppklecmlkicaaaDoorProg
import Derived.Test.YtppklecmlkicaaaDoorFmtR
import Derived.Test.YtppklecmlkicaaaDoorBoxS
import Derived.Deep.QuietTactic
import Derived.BigQuiet
import Derived.StillTactics
namespace Go.Proofs.YtppklecmlkicaaaDoor
open Go.RowKit Go.Shelf

attribute [local go_sem] Oper.semAt_some

def RetStrE (s : List UInt8) (k : Int) (w : World) (e : Ending) (w' : World) : Prop := e = .returned (.tuple #[.string ⟨s.toArray⟩, .int .i64 k]) ∧ Below w.heap.size w w'

set_option maxHeartbeats 400000 in
theorem rformat_any (n s : Int) (w : World) : Calls Tryd.prog 20 #[.int .i64 n, .int .i64 s] w (RetStrE (formE n s) (checkSE n s) w) := by
  have H : Hid (formE n s = if checkSE n s = 0 then textL s.toNat else []) := rfl
  have hc := rcheck_any n s w
  have hok := @check_ok n s
  obtain ⟨k, hk⟩ : ∃ k, checkSE n s = k := ⟨_, rfl⟩
  rw [hk] at hc hok H ⊢
  clear hk
  go_enter Tryd.func20, Tryd.ntmps20
  go_wp2_with fail
  refine hc.mono ?_
  rintro e w' ⟨rfl, rfl⟩
  by_cases h0 : k = 0
  · subst h0
    have HM := Lib.hid (H.out.trans (if_pos rfl))
    clear H
    obtain ⟨m, t, rfl, rfl, _, _, _, h32⟩ := hok rfl
    go_wp2_with fail
    refine (rtext_any t h32 w).mono ?_
    rintro e w' ⟨rfl, hb⟩
    have HB := Lib.hid hb
    clear hb
    go_wp2_with fail
    go_ret2
    exact ⟨by rw [HM.out]; rfl, HB.out⟩
  · have HM := Lib.hid (H.out.trans (if_neg h0))
    clear H
    go_wp2_with fail
    go_ret2
    exact ⟨by rw [HM.out]; rfl, Below.refl _ _⟩

theorem BoxInS.alloc {B g : Nat} {xs : List ByteArray} {w2 W : World} (h : BoxInS B g xs w2 W) (hB : B ≤ w2.heap.size) (o : Obj) : BoxInS B g xs w2 (W.alloc o) :=
  h.turn (row := none) hB ⟨rfl, rfl, rfl, by simp, fun k hk _ => Below.heap_alloc W o k hk⟩ (fun r e => by cases e)
theorem BoxInS.drew {B g : Nat} {xs : List ByteArray} {w2 W : World} (h : BoxInS B g xs w2 W) : BoxInS B g xs w2 W.drew :=
  ⟨h.box, ⟨⟨h.non.below.os, h.non.below.tape, h.non.below.output, h.non.below.size, h.non.below.block⟩, h.non.same⟩, h.rest⟩
theorem keep_boxS {B g : Nat} {xs ys : List ByteArray} {w2 W W' : World} {K : Nat → Prop} (h : BoxInS B g xs w2 W) (h' : BoxInS B g ys w2 W') (hs : W.heap.size ≤ W'.heap.size)
    (hK : ∀ k, K k → k < B ∨ (k ≠ g ∧ ∃ cs t, w2.heap[k]? = some (.cells cs t (0, 0)) ∧ t ≠ 9)) : KeepB K W W' :=
  ⟨hs, fun k hk _ => by
    rcases hK k hk with hk | ⟨hk, cs, t, h1, h2⟩
    · exact (h'.non.below.block k hk).trans (h.non.below.block k hk).symm
    · exact (h'.rest k cs t h1 h2 hk).trans (h.rest k cs t h1 h2 hk).symm⟩
def digS (x : Int) : ByteArray := ⟨#[dig x.toNat]⟩
theorem itoa_dig (p : Nat) (hp : p < 5) (w : World) : Calls Tryd.prog 49 #[.int .i64 (p : Int)] w fun e w' => e = .returned (.string (digS p)) ∧ w = w' := by
  refine (Tryd.strconv_Itoa_small p (by omega) w).mono ?_
  rintro e w' ⟨rfl, rfl⟩
  refine ⟨?_, rfl⟩
  rw [Lib.decDigits_one (by omega)]
  rfl

theorem digs_join {t : Nat} : Lib.join (((bitsL t).map fun p : Nat => digS (p : Int)).map (·.data.toList)) [44] = textTo t 5 := by
  rw [← text_all]
  unfold textTo
  rw [List.take_length, List.map_map]
  exact congrArg (fun l => Lib.join l [44]) (List.map_congr_left fun p _ => rfl)
theorem join_digs {t : Nat} (h32 : t < 32) {B : Nat} {v : Value} {W : World} (h : OwnS W B v ((bitsL t).map fun p : Nat => digS (p : Int))) :
    Calls Tryd.prog 50 #[v, .string ⟨#[44]⟩] W fun e w' => e = .returned (.string ⟨(textTo t 5).toArray⟩) ∧ Below W.heap.size W w' := by
  have hjn := @digs_join t
  have hl := bits5 t
  have hsm := text_small (k := 5) h32
  obtain ⟨L, hL⟩ : ∃ L, ((bitsL t).map fun p : Nat => digS (p : Int)) = L := ⟨_, rfl⟩
  have hll : L.length ≤ 5 := by rw [← hL, List.length_map]; exact hl
  rw [hL] at h hjn
  obtain ⟨T, hT⟩ : ∃ T, textTo t 5 = T := ⟨_, rfl⟩
  rw [hT] at hjn hsm ⊢
  clear hL hT
  by_cases h0 : L = []
  · subst h0
    obtain ⟨A, c, rfl, _, _⟩ := h.form
    refine (Tryd.strings_Join_none A c _ W).mono ?_
    rintro e w' ⟨rfl, rfl⟩
    have hT0 : T = [] := hjn.symm
    subst hT0
    exact ⟨rfl, Below.refl _ _⟩
  · obtain ⟨g, cap, rfl, hcap, hg, hcs⟩ := h.cells h0
    have hj2 : Lib.join (L.map (·.data.toList)) (⟨#[44]⟩ : ByteArray).data.toList = T := hjn
    have := Tryd.strings_Join g 0 cap L ⟨#[44]⟩ W hcs hg (by omega) hcap (by rw [hj2]; omega)
    rw [hj2] at this
    exact this

set_option maxRecDepth 100000 in
set_option maxHeartbeats 4000000 in
theorem format_any (n s : Int) (w : World) (hT : Tab w) (h2 : 2 ≤ w.heap.size) : Calls Tryd.prog 19 #[.int .i64 n, .int .i64 s] w (RetStrE (formE n s) (checkSE n s) w) := by
  have H : Hid (formE n s = if checkSE n s = 0 then textL s.toNat else []) := rfl
  have hc := check_any n s w
  have hok := @check_ok n s
  have HT := Lib.hid hT
  clear hT
  obtain ⟨k, hk⟩ : ∃ k, checkSE n s = k := ⟨_, rfl⟩
  rw [hk] at hc hok H ⊢
  clear hk
  refine calls_of_marks Tryd.func19 rfl ?_
  simp only [Tryd.ntmps19, List.size_toArray, List.length_cons, List.length_nil, Nat.reduceAdd, Nat.reduceSub, Array.replicate_succ, Array.replicate_zero, List.push_toArray, List.append_toArray, List.nil_append, List.cons_append]
  go_wp2_with fail
  refine hc.mono ?_
  rintro e w' ⟨rfl, rfl⟩
  by_cases h0 : k = 0
  · subst h0
    have HM := Lib.hid (H.out.trans (if_pos rfl))
    clear H
    obtain ⟨m, t, rfl, rfl, _, _, _, h32⟩ := hok rfl
    go_wp2_with fail
    refine (elements_any t _).mono ?_
    rintro e w2 ⟨rfl, hW⟩
    have hb0 : w2.heap[w.heap.size]? = some (.cells #[.slice none 0 0] 54 (0, 0)) := by rw [← hW]; exact blk_old (blk_new _ _) _
    have hb1 : w2.heap[w.heap.size + 1]? = some (.cells #[.int .i64 t] 3 (0, 0)) := by
      rw [← hW]
      have := blk_new (w.alloc (.cells #[.slice none 0 0] 54)) (.cells #[.int .i64 t] 3)
      rwa [World.size_alloc] at this
    have hB : Below w.heap.size w w2 := by rw [← hW]; exact bel2 _ _ _
    have hsz : w2.heap.size = w.heap.size + 2 := by rw [← hW]; simp
    have B2 : BoxInS w.heap.size w.heap.size [] w2 w2 := BoxInS.start hb0 (OwnS.nil _ _)
    rw [World.size_alloc]
    clear hW
    have hq := elements1_iter t h32 (w.heap.size + 1) w2 hb1 (HT.out.keep hB h2)
    have HB := Lib.hid hB
    have HB1 := Lib.hid hb1
    clear hB hb0 hb1
    go_wp2_with fail
    refine wp_range rfl (enters_of Tryd.func64 (by kernel_rfl) rfl) hq (by rintro k (rfl | rfl) <;> omega) (fun _ => rfl)
      (fun (pre : List { x : Int // x ∈ intL (bitsL t) }) W => BoxInS w.heap.size w.heap.size (pre.map fun x : { x : Int // x ∈ intL (bitsL t) } => digS x.1) w2 W) (fun _ _ _ => False) (fun _ _ _ _ h hg hr => h.turn (by omega) hg hr) (fun _ _ _ _ _ h _ _ => h)
      B2 ?a1 ?assign ?body ?done ?stop
    case assign =>
      intro l x W K hK
      gi_wp2
      exact hK
    case body =>
      intro l pre x W hI hlt
      obtain ⟨ys, hys⟩ : ∃ ys, (pre.map fun x : { x : Int // x ∈ intL (bitsL t) } => digS x.1) = ys := ⟨_, rfl⟩
      have hyl : ys.length ≤ 1000 := by
        rw [← hys, List.length_map]
        have := bits5 t
        rw [intL_length] at hlt
        omega
      have hsnoc : ((pre ++ [x]).map fun x : { x : Int // x ∈ intL (bitsL t) } => digS x.1) = ys ++ [digS x.1] := by rw [List.map_append, hys]; rfl
      have hx5 : ∃ p : Nat, x.1 = (p : Int) ∧ p < 5 := by
        obtain ⟨p, hp, he⟩ := List.mem_map.1 x.2
        exact ⟨p, he.symm, by simpa using (List.mem_filter.1 hp).1⟩
      rw [hys] at hI
      obtain ⟨p, hp, hp5⟩ := hx5
      obtain ⟨P2, c2, hbx2, ho2⟩ := hI.box
      have q6 := blk_cell hbx2 0 rfl
      have HIb := Lib.hid hI
      have HOw := Lib.hid ho2
      have HB2 := Lib.hid hbx2
      clear hI ho2 hbx2 hys
      have hit := Lib.hid (itoa_dig p hp5)
      rw [hp] at hsnoc ⊢
      have HSn := Lib.hid hsnoc
      clear hp hsnoc
      gi_wp2_with fail
      obtain ⟨X, hX⟩ : ∃ X, X = (W.alloc (.cells #[.string (digS p)] 9)).drew := ⟨_, rfl⟩
      have q8 := blk_cell (blk_old HB2.out (.cells #[.string (digS p)] 9)) 0 rfl
      have HOwX : Hid (OwnS X w.heap.size (.slice P2 ys.length c2) ys) := by rw [hX]; exact (HOw.out.alloc _).drew
      have HBX : Hid (BoxInS w.heap.size w.heap.size ys w2 X) := by rw [hX]; exact (HIb.out.alloc (by omega) _).drew
      have HXB : Hid (X.heap[w.heap.size]? = some (.cells #[.slice P2 ys.length c2] 54 (0, 0))) := by rw [hX]; exact blk_old HB2.out (.cells #[.string (digS p)] 9)
      have HKX : Hid (KeepsFrom w2.heap.size W X) := by rw [hX]; exact ⟨by show W.heap.size ≤ (W.alloc _).heap.size; rw [World.size_alloc]; exact Nat.le_succ _, fun k o _ hk _ => blk_old hk (.cells #[.string (digS p)] 9)⟩
      have AFT : Hid (∀ v' w3, OwnS w3 w.heap.size v' (ys ++ [digS p]) → X.grownBy w3 (Value.slice P2 ys.length c2).ownBlock → w3.cell? ⟨w.heap.size, 0, none⟩ = some (.slice P2 ys.length c2) ∧ w3.frozen? ⟨w.heap.size, 0, none⟩ = false ∧ w.heap.size < w3.heap.size) := fun v' w3 _ hg => by
        have h3b := (hg.block w.heap.size (blk_lt HXB.out) (fun e => ownS_type HOwX.out HXB.out (by decide) e.symm)).trans HXB.out
        exact ⟨blk_cell h3b 0 rfl, blk_froz h3b 0, blk_lt h3b⟩
      have FIN : Hid (∀ v' w3, OwnS w3 w.heap.size v' (ys ++ [digS p]) → X.grownBy w3 (Value.slice P2 ys.length c2).ownBlock → KeepsFrom w2.heap.size W (w3.setCell ⟨w.heap.size, 0, none⟩ v') ∧ KeepB (fun k => k = w.heap.size + 1 ∨ k = 1) W (w3.setCell ⟨w.heap.size, 0, none⟩ v') ∧ BoxInS w.heap.size w.heap.size (ys ++ [digS p]) w2 (w3.setCell ⟨w.heap.size, 0, none⟩ v')) := fun v' w3 ho hg => by
        obtain ⟨r1, _, r3⟩ := HBX.out.push (K := fun _ => False) (Nat.le_refl _) (fun _ h => h.elim) HXB.out HOwX.out ho hg
        have r4 := HKX.out.trans r1
        exact ⟨r4, keep_boxS HIb.out r3 r4.size (fun k hk => by
          rcases hk with rfl | rfl
          · exact .inr ⟨by omega, _, _, HB1.out, by decide⟩
          · exact .inl (by omega)), r3⟩
      have HCX : Hid (X.cell? ⟨W.heap.size, 0, none⟩ = some (.string (digS p))) := by rw [hX]; exact blk_cell (w := W.alloc (.cells #[.string (digS p)] 9)) (blk_new W _) 0 rfl
      have HSX : Hid (w.heap.size ≤ X.heap.size) := Nat.le_of_lt (blk_lt HXB.out)
      have HXE := Lib.hid hX
      clear hX
      refine wpIn_region_any (by kernel_rfl) ?_
      (try (change wpAnyIn _ _ _ _ _ _ _ _ _ (World.drew _)))
      refine wpAnyIn_ready (rs := [0, 1]) (by kernel_rfl) (by simp) ?_
      refine AllReadyIn.cons rfl (fun K hK => ?_) ?_
      · go_simp
        refine hK _ _ ?_
        clear hK
        refine wpAnyIn_ready (rs := [1]) (by kernel_rfl) (by simp) ?_
        refine AllReadyIn.cons rfl (fun K hK => ?_) ?_
        · go_simp
          refine hK _ _ ?_
          clear hK
          refine wpAnyIn_ready (rs := [2]) (by kernel_rfl) (by simp) ?_
          refine AllReadyIn.cons rfl (fun K hK => ?_) ?_
          · go_simp
            refine ⟨trivial, (CallsIn.inRound l ((callsIn_wide (n := 6)).2 (hit.out _))).mono ?_⟩
            rintro e w' ⟨rfl, rfl⟩
            refine hK _ _ ?_
            clear hK
            refine wpAnyIn_ready (rs := [3]) (by kernel_rfl) (by simp) ?_
            refine AllReadyIn.cons rfl (fun K hK => ?_) ?_
            · go_simp
              refine hK _ _ ?_
              clear hK
              refine wpAnyIn_ready (rs := [4]) (by kernel_rfl) (by simp) ?_
              refine AllReadyIn.cons rfl (fun K hK => ?_) ?_
              · rw [← HXE.out]
                refine stepIn_app1s rfl _ _ rfl w.heap.size (.slice P2 ys.length c2) ys (digS p) rfl HOwX.out W.heap.size rfl HCX.out (by omega) HSX.out ?_
                intro v' w3 hown1 hg3 hb3
                obtain ⟨q7, f7, l7⟩ := AFT.out v' w3 hown1 hg3
                obtain ⟨A3, k3, rfl, h31, h32⟩ := hown1.form
                have HA := Lib.hid hown1
                have HG := Lib.hid hg3
                clear hown1 hg3 hb3
                refine hK _ _ ?_
                clear hK
                refine wpAnyIn_ready (rs := [5]) (by kernel_rfl) (by simp) ?_
                refine AllReadyIn.cons rfl (fun K hK => ?_) ?_
                · go_simp
                  refine hK _ _ ?_
                  clear hK
                  refine wpAnyIn_done (by kernel_rfl) ?_ _
                  have F := FIN.out _ _ HA.out HG.out
                  rw [show (ys ++ [digS (p : Int)]).length = ys.length + 1 from by simp] at F
                  exact ⟨F.1, F.2.1, by dsimp only; rw [HSn.out]; exact F.2.2⟩
                exact AllReadyIn.nil
              exact AllReadyIn.nil
            exact AllReadyIn.nil
          exact AllReadyIn.nil
        exact AllReadyIn.nil
      refine AllReadyIn.cons rfl (fun K hK => ?_) ?_
      · go_simp
        refine hK _ _ ?_
        clear hK
        refine wpAnyIn_ready (rs := [0, 2]) (by kernel_rfl) (by simp) ?_
        refine AllReadyIn.cons rfl (fun K hK => ?_) ?_
        · go_simp
          refine hK _ _ ?_
          clear hK
          refine wpAnyIn_ready (rs := [2]) (by kernel_rfl) (by simp) ?_
          refine AllReadyIn.cons rfl (fun K hK => ?_) ?_
          · go_simp
            refine ⟨trivial, (CallsIn.inRound l ((callsIn_wide (n := 6)).2 (hit.out _))).mono ?_⟩
            rintro e w' ⟨rfl, rfl⟩
            refine hK _ _ ?_
            clear hK
            refine wpAnyIn_ready (rs := [3]) (by kernel_rfl) (by simp) ?_
            refine AllReadyIn.cons rfl (fun K hK => ?_) ?_
            · go_simp
              refine hK _ _ ?_
              clear hK
              refine wpAnyIn_ready (rs := [4]) (by kernel_rfl) (by simp) ?_
              refine AllReadyIn.cons rfl (fun K hK => ?_) ?_
              · rw [← HXE.out]
                refine stepIn_app1s rfl _ _ rfl w.heap.size (.slice P2 ys.length c2) ys (digS p) rfl HOwX.out W.heap.size rfl HCX.out (by omega) HSX.out ?_
                intro v' w3 hown1 hg3 hb3
                obtain ⟨q7, f7, l7⟩ := AFT.out v' w3 hown1 hg3
                obtain ⟨A3, k3, rfl, h31, h32⟩ := hown1.form
                have HA := Lib.hid hown1
                have HG := Lib.hid hg3
                clear hown1 hg3 hb3
                refine hK _ _ ?_
                clear hK
                refine wpAnyIn_ready (rs := [5]) (by kernel_rfl) (by simp) ?_
                refine AllReadyIn.cons rfl (fun K hK => ?_) ?_
                · go_simp
                  refine hK _ _ ?_
                  clear hK
                  refine wpAnyIn_done (by kernel_rfl) ?_ _
                  have F := FIN.out _ _ HA.out HG.out
                  rw [show (ys ++ [digS (p : Int)]).length = ys.length + 1 from by simp] at F
                  exact ⟨F.1, F.2.1, by dsimp only; rw [HSn.out]; exact F.2.2⟩
                exact AllReadyIn.nil
              exact AllReadyIn.nil
            exact AllReadyIn.nil
          exact AllReadyIn.nil
        refine AllReadyIn.cons rfl (fun K hK => ?_) ?_
        · go_simp
          refine ⟨trivial, (CallsIn.inRound l ((callsIn_wide (n := 6)).2 (hit.out _))).mono ?_⟩
          rintro e w' ⟨rfl, rfl⟩
          refine hK _ _ ?_
          clear hK
          refine wpAnyIn_ready (rs := [0, 3]) (by kernel_rfl) (by simp) ?_
          refine AllReadyIn.cons rfl (fun K hK => ?_) ?_
          · go_simp
            refine hK _ _ ?_
            clear hK
            refine wpAnyIn_ready (rs := [3]) (by kernel_rfl) (by simp) ?_
            refine AllReadyIn.cons rfl (fun K hK => ?_) ?_
            · go_simp
              refine hK _ _ ?_
              clear hK
              refine wpAnyIn_ready (rs := [4]) (by kernel_rfl) (by simp) ?_
              refine AllReadyIn.cons rfl (fun K hK => ?_) ?_
              · rw [← HXE.out]
                refine stepIn_app1s rfl _ _ rfl w.heap.size (.slice P2 ys.length c2) ys (digS p) rfl HOwX.out W.heap.size rfl HCX.out (by omega) HSX.out ?_
                intro v' w3 hown1 hg3 hb3
                obtain ⟨q7, f7, l7⟩ := AFT.out v' w3 hown1 hg3
                obtain ⟨A3, k3, rfl, h31, h32⟩ := hown1.form
                have HA := Lib.hid hown1
                have HG := Lib.hid hg3
                clear hown1 hg3 hb3
                refine hK _ _ ?_
                clear hK
                refine wpAnyIn_ready (rs := [5]) (by kernel_rfl) (by simp) ?_
                refine AllReadyIn.cons rfl (fun K hK => ?_) ?_
                · go_simp
                  refine hK _ _ ?_
                  clear hK
                  refine wpAnyIn_done (by kernel_rfl) ?_ _
                  have F := FIN.out _ _ HA.out HG.out
                  rw [show (ys ++ [digS (p : Int)]).length = ys.length + 1 from by simp] at F
                  exact ⟨F.1, F.2.1, by dsimp only; rw [HSn.out]; exact F.2.2⟩
                exact AllReadyIn.nil
              exact AllReadyIn.nil
            exact AllReadyIn.nil
          refine AllReadyIn.cons rfl (fun K hK => ?_) ?_
          · go_simp
            refine hK _ _ ?_
            clear hK
            refine wpAnyIn_ready (rs := [0]) (by kernel_rfl) (by simp) ?_
            refine AllReadyIn.cons rfl (fun K hK => ?_) ?_
            · go_simp
              refine hK _ _ ?_
              clear hK
              refine wpAnyIn_ready (rs := [4]) (by kernel_rfl) (by simp) ?_
              refine AllReadyIn.cons rfl (fun K hK => ?_) ?_
              · rw [← HXE.out]
                refine stepIn_app1s rfl _ _ rfl w.heap.size (.slice P2 ys.length c2) ys (digS p) rfl HOwX.out W.heap.size rfl HCX.out (by omega) HSX.out ?_
                intro v' w3 hown1 hg3 hb3
                obtain ⟨q7, f7, l7⟩ := AFT.out v' w3 hown1 hg3
                obtain ⟨A3, k3, rfl, h31, h32⟩ := hown1.form
                have HA := Lib.hid hown1
                have HG := Lib.hid hg3
                clear hown1 hg3 hb3
                refine hK _ _ ?_
                clear hK
                refine wpAnyIn_ready (rs := [5]) (by kernel_rfl) (by simp) ?_
                refine AllReadyIn.cons rfl (fun K hK => ?_) ?_
                · go_simp
                  refine hK _ _ ?_
                  clear hK
                  refine wpAnyIn_done (by kernel_rfl) ?_ _
                  have F := FIN.out _ _ HA.out HG.out
                  rw [show (ys ++ [digS (p : Int)]).length = ys.length + 1 from by simp] at F
                  exact ⟨F.1, F.2.1, by dsimp only; rw [HSn.out]; exact F.2.2⟩
                exact AllReadyIn.nil
              exact AllReadyIn.nil
            exact AllReadyIn.nil
          exact AllReadyIn.nil
        exact AllReadyIn.nil
      exact AllReadyIn.nil
    case done =>
      intro D ys W hD hys hI hDk
      have hl : (ys.map fun x : { x : Int // x ∈ intL (bitsL t) } => digS x.1) = (bitsL t).map fun p => digS (p : Nat) := by
        have h9 : (ys.map fun x : { x : Int // x ∈ intL (bitsL t) } => digS x.1) = (ys.map (·.1)).map digS := by rw [List.map_map]; rfl
        rw [h9, hys, intL, List.map_map]; rfl
      obtain ⟨L, hL⟩ : ∃ L, ((bitsL t).map fun p : Nat => digS (p : Int)) = L := ⟨_, rfl⟩
      rw [hl, hL] at hI
      obtain ⟨P2, c2, hbx2, ho2⟩ := hI.box
      have q6 := blk_cell hbx2 0 rfl
      have HIb := Lib.hid hI
      have HOw := Lib.hid ho2
      have hmk := Lib.hid (((Marks.nil w.heap.size w2)).cons (HIb.out.non.same · _ · rfl) HB.out.size (by omega) hDk)
      have hsm := text_small (k := 5) h32
      have hc2 := join_digs (B := w.heap.size) (v := .slice P2 L.length c2) (W := W) h32 (by rw [hL]; exact HOw.out)
      have HW2 := Lib.hid (HB.out.trans HIb.out.non.below)
      have HTL : Hid (textL t = 123 :: textTo t 5 ++ [125]) := rfl
      obtain ⟨T, hT⟩ : ∃ T, textTo t 5 = T := ⟨_, rfl⟩
      rw [hT] at hsm HTL hc2
      clear hI ho2 hbx2 hl hys hT hL
      go_wp2_with fail
      refine hc2.mono ?_
      rintro e w' ⟨rfl, hb⟩
      have HB3 := Lib.hid hb
      clear hb hc2
      go_wp2_with fail
      have hs : ((⟨#[123]⟩ : ByteArray) ++ ⟨T.toArray⟩ ++ ⟨#[125]⟩ : ByteArray) = ⟨(123 :: T ++ [125]).toArray⟩ := by
        apply ByteArray.ext
        simp
      have hs2 : (⟨(textL t).toArray⟩ : ByteArray) = (⟨#[123]⟩ : ByteArray) ++ ⟨T.toArray⟩ ++ ⟨#[125]⟩ := by rw [hs, HTL.out]
      have HS2 := Lib.hid hs2
      clear hs hs2
      refine ret_marks (B := w.heap.size) (hmk.out.keep fun k hk => (HB3.out.block k (blk_lt hk)).trans hk) (v := .tuple #[.string ((⟨#[123]⟩ : ByteArray) ++ ⟨T.toArray⟩ ++ ⟨#[125]⟩), .int .i64 0]) (fun W => by kernel_rfl) ?_
      intro W hS
      refine ⟨?_, (HW2.out.trans (HB3.out.mono HW2.out.size)).trans hS.below⟩
      rw [HM.out, ← HS2.out]
      rfl
    case stop =>
      intro D c pre W _ _ h
      exact h.elim
  · have HM := Lib.hid (H.out.trans (if_neg h0))
    clear H
    go_wp2_with fail
    refine ret_marks (B := w.heap.size) (Marks.nil _ _) (v := .tuple #[.string ⟨#[]⟩, .int .i64 k]) (fun W => by kernel_rfl) ?_
    intro W hS
    exact ⟨by rw [HM.out], hS.below⟩
end Go.Proofs.YtppklecmlkicaaaDoor
