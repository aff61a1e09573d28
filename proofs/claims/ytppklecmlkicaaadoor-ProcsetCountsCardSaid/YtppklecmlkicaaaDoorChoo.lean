/- Choose, twice. -/
import Derived.Test.YtppklecmlkicaaaDoorProg
import Derived.Test.YtppklecmlkicaaaDoorMemb
import Derived.Deep.QuietTactic
import Derived.BigQuiet
import Derived.Deep.RegionHeld3
import Derived.StillTactics
namespace Go.Proofs.YtppklecmlkicaaaDoor
open Go.RowKit

def chooseE (n s k : Int) : Int := if checkSE n s ≠ 0 then checkSE n s else if k < 0 ∨ sizeE n s < k then 2 else 0
def chooL (n s k : Int) : List Int := if chooseE n s k = 0 then (intL (subsL s.toNat)).filter (fun x => ((cardN x.toNat : Nat) : Int) == k) else []

theorem subs_lt {s : Nat} (hs : s < 32) {x : Int} (h : x ∈ intL (subsL s)) : ∃ t : Nat, x = (t : Int) ∧ t < 32 := by
  obtain ⟨t, ht, rfl⟩ := List.mem_map.1 h
  refine ⟨t, rfl, ?_⟩
  unfold subsL subsTo at ht
  have := List.mem_range.1 (List.mem_filter.1 ht).1
  omega

set_option maxRecDepth 100000 in
set_option maxHeartbeats 1000000 in
theorem choose1_any (x : Nat) (hx : x < 32) (k : Int) (bk : Nat) (w : World) (hb : w.heap[bk]? = some (.cells #[.int .i64 k] 3)) :
    Calls Tryd.prog 45 #[.int .i64 x, .pointer (some ⟨bk, 0, none⟩)] w fun e w' => e = .returned (.bool (((cardN x : Nat) : Int) == k)) ∧ ∃ m, w' = w.drewN m := by
  have c0 : w.cell? ⟨bk, 0, none⟩ = some (.int .i64 k) := blk_cell hb 0 rfl
  have ho : Hid (∀ w, Calls Tryd.prog 46 #[.int .u64 (IntKind.u64.wrap (x : Int))] w fun e w' => e = .returned (.int .i64 (cardN x : Nat)) ∧ w = w') := fun w => by
    have h0 : IntKind.u64.wrap (x : Int) = x := by rcases lt32 hx with rfl | rfl | rfl | rfl | rfl | rfl | rfl | rfl | rfl | rfl | rfl | rfl | rfl | rfl | rfl | rfl | rfl | rfl | rfl | rfl | rfl | rfl | rfl | rfl | rfl | rfl | rfl | rfl | rfl | rfl | rfl | rfl <;> rfl
    rw [h0]
    exact ones_any x hx w
  go_enter Tryd.func45, Tryd.ntmps45
  clear hb
  go_wp2_with fail
  go_region_with (go_at_call 46; refine (ho.out _).mono ?_; rintro e w2 ⟨rfl, rfl⟩)
  all_goals
    go_wp2_with fail
    go_ret
    exact ⟨rfl, 1, rfl⟩

theorem chooseE_bad {n s k : Int} (h : checkSE n s ≠ 0) : chooseE n s k = checkSE n s := if_pos h
theorem chooseE_out {n s k : Int} (h : checkSE n s = 0) (h2 : k < 0 ∨ sizeE n s < k) : chooseE n s k = 2 := by unfold chooseE; rw [if_neg (by simpa using h), if_pos h2]
theorem chooseE_ok {n s k : Int} (h : checkSE n s = 0) (h2 : ¬ (k < 0 ∨ sizeE n s < k)) : chooseE n s k = 0 := by unfold chooseE; rw [if_neg (by simpa using h), if_neg h2]

set_option maxRecDepth 100000 in
set_option maxHeartbeats 2000000 in
theorem choose_any (n s k : Int) (w : World) : Calls Tryd.prog 16 #[.int .i64 n, .int .i64 s, .int .i64 k] w (RetIntsE (chooL n s k) (chooseE n s k) w) := by
  have HL : Hid (chooL n s k = if chooseE n s k = 0 then (intL (subsL s.toNat)).filter (fun x => ((cardN x.toNat : Nat) : Int) == k) else []) := rfl
  have HE1 := Lib.hid (@chooseE_bad n s k)
  have HE2 := Lib.hid (@chooseE_out n s k)
  have HE3 := Lib.hid (@chooseE_ok n s k)
  have hok := @check_ok n s
  have hc := size_any n s (w.alloc (.cells #[.int .i64 k] 3))
  have hb0 := blk_new w (.cells #[.int .i64 k] 3)
  obtain ⟨er, her⟩ : ∃ er, checkSE n s = er := ⟨_, rfl⟩
  obtain ⟨sz, hsz⟩ : ∃ sz, sizeE n s = sz := ⟨_, rfl⟩
  obtain ⟨fe, hfe⟩ : ∃ fe, chooseE n s k = fe := ⟨_, rfl⟩
  rw [her, hsz] at hc
  rw [her] at hok HE1 HE2 HE3
  rw [hsz] at HE2 HE3
  rw [hfe] at HE1 HE2 HE3 HL ⊢
  clear her hfe hsz
  have HOK := Lib.hid hok
  clear hok
  go_enter Tryd.func16, Tryd.ntmps16
  clear hb0
  go_wp2_with fail
  have hb0 := blk_new w (.cells #[.int .i64 k] 3)
  refine hc.mono ?_
  rintro e w1 ⟨rfl, hb1⟩
  have hB : Below w.heap.size w w1 := (bel1 w _).trans (hb1.mono (by simp))
  have hsz : w.heap.size < w1.heap.size := by have := hb1.size; simp at this; omega
  have hbx : w1.heap[w.heap.size]? = some (.cells #[.int .i64 k] 3 (0, 0)) := (hb1.block _ (by simp)).trans hb0
  have HB := Lib.hid hB
  have HX := Lib.hid hbx
  have ck := blk_cell hbx 0 rfl
  clear hb1 hB hbx hb0
  by_cases h0 : er = 0
  · subst h0
    obtain ⟨m, t, rfl, rfl, _, _, _, h32⟩ := HOK.out rfl
    by_cases hk : k < 0 ∨ sz < k
    · have HM := Lib.hid (HE2.out rfl hk)
      clear HE1 HE2 HE3
      have HN : Hid (chooL m t k = []) := HL.out.trans (if_neg (by rw [HM.out]; decide))
      clear HL
      go_wp2_with fail
      all_goals (try (exfalso; omega))
      all_goals
        go_ret2
        exact ⟨_, by rw [HM.out]; rfl, by rw [HN.out]; exact Own.nil _ _, HB.out⟩
    · have HM := Lib.hid (HE3.out rfl hk)
      clear HE1 HE2 HE3
      have HN := Lib.hid (HL.out.trans (if_pos HM.out))
      clear HL
      go_wp2_with fail
      all_goals (try (exfalso; omega))
      refine (parts_any t w1).mono ?_
      rintro e W ⟨rfl, hW⟩
      have hb := blk_new w1 (.cells #[.int .i64 t] 3)
      have hB2 : Below w1.heap.size w1 W := by rw [← hW]; exact bel1 _ _
      have hs1 : W.heap.size = w1.heap.size + 1 := by rw [← hW]; simp
      rw [hW] at hb
      have hbk := (hB2.block _ hsz).trans HX.out
      have hc2 := collected_any 60 #[.pointer (some ⟨w1.heap.size, 0, none⟩)] (enters_of Tryd.func60 (by kernel_rfl) rfl) 45 #[.pointer (some ⟨w.heap.size, 0, none⟩)]
        (enters_of Tryd.func45 (by kernel_rfl) rfl) (fun k => k = w1.heap.size) (intL (subsL t)) (fun x => ((cardN x.toNat : Nat) : Int) == k) (by rw [intL_length]; have := subs_length t (t + 1); unfold subsL; omega) W
        (by rintro k rfl; omega) (fun W' hW' => parts1_iter t h32 _ W' (blk_below hb hW' (by omega))) (fun x hx W' hW' => by
          obtain ⟨y, rfl, hy⟩ := subs_lt h32 hx
          exact choose1_any y hy k _ W' (blk_below hbk hW' (by omega)))
      have HB2 := Lib.hid (HB.out.trans (hB2.mono (by omega)))
      clear hB2 hb hW hbk
      go_wp2_with fail
      refine hc2.mono ?_
      rintro e w' ⟨v, rfl, hown, hb⟩
      have HO := Lib.hid hown
      have HB3 := Lib.hid hb
      clear hown hb
      go_wp2_with fail
      go_ret2
      obtain ⟨q1, q2⟩ := own_push HO.out HB3.out HB2.out
      exact ⟨_, by rw [HM.out]; rfl, by rw [HN.out]; exact q1, q2⟩
  · have HM := Lib.hid (HE1.out h0)
    clear HE1 HE2 HE3
    have HN : Hid (chooL n s k = []) := HL.out.trans (if_neg (by rw [HM.out]; exact h0))
    clear HL
    go_wp2_with fail
    go_ret2
    exact ⟨_, by rw [HM.out]; rfl, by rw [HN.out]; exact Own.nil _ _, HB.out⟩
end Go.Proofs.YtppklecmlkicaaaDoor
