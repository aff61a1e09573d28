/- The law Returns: its walk. -/
import Derived.Test.YtppklecmlkicaaaDoorProg
import Derived.Test.YtppklecmlkicaaaDoorLwMi
import Derived.Test.YtppklecmlkicaaaDoorIsSort
import Derived.Test.YtppklecmlkicaaaDoorOwnRev
import Derived.Deep.QuietTactic
import Derived.BigQuiet
import Derived.StillTactics
namespace Go.Proofs.YtppklecmlkicaaaDoor
open Go.RowKit

set_option maxRecDepth 100000 in
set_option maxHeartbeats 4000000 in
theorem returns_any (n s : Int) (w : World) (hT : Tab w) (m : Int) (hm : w.cell? ⟨3, 0, none⟩ = some (.int .i64 m)) (h4 : 4 ≤ w.heap.size) :
    Calls Tryd.prog 8 #[.int .i64 n, .int .i64 s] w fun e w' => e = .returned (.bool true) ∧ Below w.heap.size w w' := by
  have HT := Lib.hid hT
  have HM := Lib.hid hm
  have C0 := Lib.hid (check_any n s w)
  by_cases hc : checkSE n s = 0
  case neg =>
    have c5 := awake_any w hT m hm h4
    obtain ⟨x3, hx3⟩ : ∃ L, checkSE n s = L := ⟨_, rfl⟩
    rw [hx3] at C0 hc
    have e0 : (x3 != 0) = true := by simpa using hc
    clear hT hm hx3 hc
    go_enter Tryd.func8, Tryd.ntmps8
    go_wp2_with fail
    refine C0.out.mono ?_
    rintro e w1 ⟨rfl, rfl⟩
    go_wp2_with fail
    refine c5.mono ?_
    rintro e w2 ⟨rfl, hb⟩
    have B2 := Lib.hid hb
    clear hb c5
    go_wp2_with fail
    go_ret
    exact ⟨rfl, B2.out⟩
  case pos =>
  obtain ⟨a, t, rfl, rfl, a1, a5, hlt, h32⟩ := check_ok hc
  have hz : sizeE (a : Int) (t : Int) = (((intL (bitsL t)).length : Nat) : Int) := by unfold sizeE; rw [if_pos hc, intL_length]; rfl
  have hml : memL (a : Int) (t : Int) = intL (bitsL t) := by unfold memL; rw [if_pos hc]; rfl
  have hl5 : (intL (bitsL t)).length ≤ 5 := by rw [intL_length]; exact bits_length t 5
  have hri : Hid (Rise (intL (bitsL t))) := fun i h => @bits_rise t h32 i h
  obtain ⟨o1, o2⟩ := of_mem a1 a5 hlt
  have hfe : formE (a : Int) (t : Int) = textL t := by unfold formE; rw [if_pos hc]; rfl
  have hpt := parse_text a1 a5 hlt
  have hts : (textL t).length ≤ 11 := by
    unfold textL
    have := text_small (s := t) (k := 5) h32
    simp
    omega
  have C1 := Lib.hid (members_any (a : Int) (t : Int))
  have C2 := Lib.hid (size_any (a : Int) (t : Int))
  have C6 := Lib.hid (format_any (a : Int) (t : Int))
  rw [hc] at C0
  rw [hml, hc] at C1
  rw [hz, hc] at C2
  unfold RetStrE at C6
  rw [hfe, hc] at C6
  obtain ⟨T, hTe⟩ : ∃ T : ByteArray, (⟨(textL t).toArray⟩ : ByteArray) = T := ⟨_, rfl⟩
  rw [hTe] at C6 hpt
  have hTs : T.size ≤ 11 := by rw [← hTe]; exact hts
  obtain ⟨xs, hxs⟩ : ∃ xs, intL (bitsL t) = xs := ⟨_, rfl⟩
  rw [hxs] at C1 C2 hl5 hri o1 o2
  have O1 := Lib.hid o1
  have O2 := Lib.hid o2
  have HP := Lib.hid hpt
  clear hT hm hc hz hml hfe hTe hxs o1 o2 hpt hts
  go_enter Tryd.func8, Tryd.ntmps8
  go_wp2_with fail
  refine C0.out.mono ?_
  rintro e w1 ⟨rfl, rfl⟩
  go_wp2_with fail
  refine (C1.out w HT.out (by omega)).mono ?_
  rintro e w1 ⟨v1, rfl, ho1, hb⟩
  have B1 := Lib.hid hb
  have HO1 := Lib.hid ho1
  obtain ⟨A1, k1, rfl, _, _, hI1⟩ := ho1.form
  clear hb ho1 hI1
  go_wp2_with fail
  refine (C2.out w1).mono ?_
  rintro e w2 ⟨rfl, hb⟩
  have B2 := Lib.hid (B1.out.trans (hb.mono B1.out.size))
  have HO2 := Lib.hid (HO1.out.below hb (Nat.le_refl _))
  have C3 := Lib.hid (sorted_any A1 k1 xs (by omega) hri.out w2 (by obtain ⟨A, c, e, _, _, h⟩ := HO2.out.form; cases e; exact h))
  clear hb HO1 B1
  go_wp2_with fail
  refine C3.out.mono ?_
  rintro e w3 ⟨rfl, hb⟩
  have B3 := Lib.hid (B2.out.trans (hb.mono B2.out.size))
  have HO3 := Lib.hid (HO2.out.below hb (Nat.le_refl _))
  have C4 := Lib.hid (of_any (a : Int) A1 k1 xs (by omega) w3 (by obtain ⟨A, c, e, _, _, h⟩ := HO3.out.form; cases e; exact h))
  rw [O1.out] at C4
  clear hb HO2 B2 C3
  go_wp2_with fail
  refine C4.out.mono ?_
  rintro e w4 ⟨rfl, hb⟩
  have B4 := Lib.hid (B3.out.trans (hb.mono B3.out.size))
  have HO4 := Lib.hid (HO3.out.below hb (Nat.le_refl _))
  have C5 := Lib.hid (reverse_own HO4.out (by omega))
  clear hb HO3 B3 C4
  go_wp2_with fail
  refine C5.out.mono ?_
  rintro e w5 ⟨rfl, ho5, hg⟩
  have B5 := Lib.hid (B4.out.grown hg B4.out.size (fun k hk => (HO4.out.lt k hk).1))
  obtain ⟨A5, c5, e5, _, _, hI5⟩ := ho5.form
  have hA5 : A5 = A1 := by injection e5 with h _ _; exact h.symm
  subst hA5
  have C4 := Lib.hid (of_any (a : Int) A5 k1 xs.reverse (by simp; omega) w5 hI5)
  rw [O2.out, List.length_reverse] at C4
  clear hg HO4 B4 C5 ho5 e5 hI5
  go_wp2_with fail
  refine C4.out.mono ?_
  rintro e w6 ⟨rfl, hb⟩
  have B6 := Lib.hid (B5.out.trans (hb.mono B5.out.size))
  clear hb B5 C4
  go_wp2_with fail
  refine (C6.out w6 (HT.out.keep B6.out (by omega)) (by have := B6.out.size; omega)).mono ?_
  rintro e w7 ⟨rfl, hb⟩
  have B7 := Lib.hid (B6.out.trans (hb.mono B6.out.size))
  clear hb B6
  have C3 := Lib.hid (parse_all (a : Int) T (by omega) w7 m ((B7.out.cell (p := ⟨3, 0, none⟩) (by show 3 < w.heap.size; omega)).trans HM.out))
  rw [HP.out] at C3
  go_wp2_with fail
  refine C3.out.mono ?_
  rintro e w8 ⟨rfl, hb⟩
  have B8 := Lib.hid (B7.out.trans (hb.mono B7.out.size))
  have c5 := awake_any w8 (HT.out.keep B8.out (by omega)) m ((B8.out.cell (p := ⟨3, 0, none⟩) (by show 3 < w.heap.size; omega)).trans HM.out) (by have := B8.out.size; omega)
  have C5 := Lib.hid c5
  clear hb B7 c5 C3
  go_wp2_with fail
  refine C5.out.mono ?_
  rintro e w9 ⟨rfl, hb⟩
  have B9 := Lib.hid (B8.out.trans (hb.mono B8.out.size))
  clear hb
  go_wp2_with fail
  go_ret
  exact ⟨rfl, B9.out⟩
end Go.Proofs.YtppklecmlkicaaaDoor
