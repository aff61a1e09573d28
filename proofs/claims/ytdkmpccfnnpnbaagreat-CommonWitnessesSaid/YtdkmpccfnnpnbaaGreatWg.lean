/- Parts CmnP FewS ExF39 Ex39 CmnR CmnB RepN Tail CmnF CmnC CmnD CmnO CmnH. -/
import Derived.Test.YtdkmpccfnnpnbaaGreatWf
import Derived.Test.YtdkmpccfnnpnbaaGreatProg
import Derived.Test.YtdkmpccfnnpnbaaGreatWe
import Derived.Test.YtdkmpccfnnpnbaaGreatWc
import Derived.Test.YtdkmpccfnnpnbaaGreatWb
import Derived.Laws.EntriesVeiled
import Derived.Carry
import Derived.Test.YtdkmpccfnnpnbaaGreatWa
import Derived.Test.YtdkmpccfnnpnbaaGreatWd
import Derived.Laws.CopyOwn
import Derived.Deep.RegionLaw
import Derived.Deep.QuietTactic
import Derived.BigQuiet
import Derived.StillTactics
import Derived.IntWalk
import Derived.Deep.DeepCutAuto
import Derived.Maps.RangeWalk
import Derived.Deep.LoopGhost

namespace Go.Proofs.YtdkmpccfnnpnbaaGreat
set_option maxHeartbeats 4000000
section
def ptn (s : Sy) : Nat := s.xs.length * (s.p.k.toNat + 1)
def psG (s : Sy) (g : Int) : List Nat := zn g.toNat s.n.toNat
def zJ (s : Sy) (g : Int) : Int := if xM s ≠ 0 then xM s else if g < 0 ∨ 2 ^ s.n.toNat ≤ g then 2 else 0
def xh (s : Sy) (g : Int) : Nat → Nat → Prop := yN (psG s g) (zS s)
theorem xg (s : Sy) (g : Int) (i k : Nat) (h : xh s g i k) : xh s g k i := uj _ _ i k h
noncomputable def uc (n : Nat) (adj : Nat → Nat → Prop) (L : List Nat) : List Int :=
 @dite _ (∃ f : List Int, f.length = n ∧ Far n adj (fun i => i ∈ L) (fun i => f.getD i 0)) (Classical.propDecidable _) (fun h => Classical.choose h) (fun _ => [])
theorem qm {n : Nat} {adj : Nat → Nat → Prop} {L : List Nat} {f : List Int} (hl : f.length = n) (hf : Far n adj (fun i => i ∈ L) (fun i => f.getD i 0)) : uc n adj L = f := by
 have h : ∃ f : List Int, f.length = n ∧ Far n adj (fun i => i ∈ L) (fun i => f.getD i 0) := ⟨f, hl, hf⟩
 unfold uc
 rw [dif_pos h]
 obtain ⟨h1, h2⟩ := Classical.choose_spec h
 exact far_list h2 hf h1 hl
noncomputable def ji (s : Sy) (g : Int) : List Int × Int := if zJ s g ≠ 0 then ([], zJ s g) else (kQ (ptn s) (xh s g), 0)
def zC (s : Sy) (g : Int) (set : List Bool) : Int := if zJ s g ≠ 0 then zJ s g else if set.length ≠ ptn s then 15 else 0
noncomputable def jP (s : Sy) (g : Int) (set : List Bool) : List Int × Int := if zC s g set ≠ 0 then ([], zC s g set) else (uc (ptn s) (xh s g) (zX set), 0)
noncomputable def jH (s : Sy) (g : Int) (set : List Bool) : List Bool × Int := if zC s g set ≠ 0 then ([], zC s g set) else (wV (ptn s) (xh s g) set, 0)
def kO (l : List (Nat × Nat)) : List (Int × Int) := l.map fun t => ((t.1 : Int), (t.2 : Int))
def yV (f : List Int) (n : Nat) (nb : Nat → List (Nat × Nat)) (i : Nat) : List (Int × Int) := ((i : Int), -1) :: kO (qv f n nb (f.getD i 0).toNat i)
noncomputable def qJ (s : Sy) (g pt : Int) (set : List Bool) : (List (Int × Int) × Bool) × Int :=
 if zC s g set ≠ 0 then (([], false), zC s g set)
 else if pt < 0 ∨ (ptn s : Int) ≤ pt then (([], false), 6)
 else if (uc (ptn s) (xh s g) (zX set)).getD pt.toNat 0 < 0 then (([], false), 0)
 else ((yV (uc (ptn s) (xh s g) (zX set)) (ptn s) (zL (psG s g) (zS s)) pt.toNat, true), 0)
def qd (f : Nat → Int) : Nat → Nat → Int
 | 0, _ => 0
 | m + 1, i => if f i ≠ 0 then f i else qd f m (i + 1)
def ZJ (n : Nat) (ps : List Nat) (cls : Nat → List Int) (walk : List (Int × Int)) (i : Nat) : Int :=
 if (walk.getD i (0, 0)).1 < 0 ∨ (n : Int) ≤ (walk.getD i (0, 0)).1 then 6
 else if i = 0 then (if (walk.getD i (0, 0)).2 ≠ -1 then 3 else 0)
 else if (walk.getD i (0, 0)).2 ∉ zO ps then 2
 else if (cls (walk.getD i (0, 0)).2.toNat).getD (walk.getD i (0, 0)).1.toNat 0 ≠ (cls (walk.getD i (0, 0)).2.toNat).getD (walk.getD (i - 1) (0, 0)).1.toNat 0 then 18 else 0
def qX (s : Sy) (g : Int) (set : List Bool) (walk : List (Int × Int)) : Int :=
 if zC s g set ≠ 0 then zC s g set
 else if walk.length = 0 then 16
 else if 65536 < walk.length then 5
 else if qd (ZJ (ptn s) (psG s g) (zS s) walk) walk.length 0 ≠ 0 then qd (ZJ (ptn s) (psG s g) (zS s) walk) walk.length 0
 else if set.getD (walk.getD (walk.length - 1) (0, 0)).1.toNat false = true then 18 else 0
theorem gx (s : Sy) (q : Nat) : (zS s q).length = ptn s := by unfold zS; rw [xH, vf]; rfl
theorem ZR (s : Sy) (g : Int) : (psG s g).Pairwise (· < ·) := by unfold psG zn; exact List.Pairwise.filter _ List.pairwise_lt_range
theorem psG_len (s : Sy) (g : Int) : (psG s g).length ≤ s.n.toNat := by unfold psG zn; exact Nat.le_trans (List.length_filter_le _ _) (by simp)
theorem xX {s : Sy} {g : Int} {set : List Bool} (h : zC s g set = 0) : zJ s g = 0 ∧ set.length = ptn s := by
 unfold zC at h
 by_cases h1 : zJ s g = 0
 · rw [if_neg (by simpa using h1)] at h
   refine ⟨h1, ?_⟩
   by_cases h2 : set.length = ptn s
   · exact h2
   · rw [if_pos h2] at h; cases h
 · rw [if_pos h1] at h; exact absurd h h1
theorem wG {s : Sy} {g : Int} (h : zJ s g = 0) : xM s = 0 ∧ 0 ≤ g ∧ g < 2 ^ s.n.toNat := by
 unfold zJ at h
 by_cases h1 : xM s = 0
 · rw [if_neg (by simpa using h1)] at h
   refine ⟨h1, ?_⟩
   by_cases h2 : g < 0 ∨ 2 ^ s.n.toNat ≤ g
   · rw [if_pos h2] at h; cases h
   · omega
 · rw [if_pos h1] at h; exact absurd h h1
theorem xU {s : Sy} {g : Int} (hf : xO s.p) (h : zJ s g = 0) : 1 ≤ ptn s ∧ ptn s ≤ 700 ∧ (psG s g).length ≤ 5 := by
 obtain ⟨h1, _, _⟩ := wG h
 obtain ⟨_, K, N, hF⟩ := qw hf h1
 have hx := xs_pos hf h1
 have hn := hF.n
 have hn5 := hF.n5
 have hk := hF.k
 have hk6 := hF.k6
 have hlx := hF.lx
 refine ⟨?_, ?_, ?_⟩
 · have := Nat.mul_le_mul hx (show 1 ≤ s.p.k.toNat + 1 by omega)
   unfold ptn; omega
 · have := Nat.mul_le_mul hlx (show s.p.k.toNat + 1 ≤ 7 by omega)
   unfold ptn; omega
 · have := psG_len s g
   omega
theorem QT {set : List Bool} {n : Nat} (h : set.length = n) : ∀ x ∈ zX set, x < n := fun x hx => by have := (kZ.1 hx).1; omega
theorem wO (set : List Bool) : (zX set).length ≤ set.length := by unfold zX; exact Nat.le_trans (List.length_filter_le _ _) (by simp)
theorem JI (set : List Bool) (b : Bool) : zX (set ++ [b]) = if b = false then zX set ++ [set.length] else zX set := by
 unfold zX
 rw [List.length_append, List.length_singleton, List.range_succ, List.filter_append]
 have e1 : (List.range set.length).filter (fun i => (set ++ [b]).getD i false == false) = (List.range set.length).filter (fun i => set.getD i false == false) := by
  refine List.filter_congr fun i hi => ?_
  have := List.mem_range.1 hi
  rw [List.getD_eq_getElem?_getD, List.getD_eq_getElem?_getD, List.getElem?_append_left this]
 rw [e1]
 have e2 : (set ++ [b]).getD set.length false = b := by rw [List.getD_eq_getElem?_getD, List.getElem?_append_right (by omega)]; simp
 cases b with
 | false => rw [if_pos rfl, List.filter_cons, e2]; rfl
 | true => rw [if_neg (by simp), List.filter_cons, e2]; simp
end
section
open Go.RowKit
attribute [local go_sem] Oper.semAt_some
def okV (v : List Int) : Bool := decide (v.length ≤ 10)
def okX (x : Exn) : Bool := decide (x.word.length ≤ 10) && decide (x.views.length ≤ 10) && x.views.all okV
def vx (s : Sy) : Bool := xP s.p && decide (s.vs.length ≤ 600) && decide (s.xs.length ≤ 70) && s.xs.all okX
theorem qE {s : Sy} (hl : LowSy s) (h : vx s = true) : xO s.p ∧ ¬ (3 < s.p.t.n ∧ s.p.t.n ≤ 5) ∧ LowS s ∧ s.vs.length ≤ 600 ∧ s.xs.length ≤ 70 := by
 unfold vx at h
 simp only [Bool.and_eq_true, decide_eq_true_eq] at h
 obtain ⟨⟨⟨h1, h2⟩, h3⟩, _⟩ := h
 obtain ⟨f1, f2⟩ := few_x h1
 exact ⟨f1, f2, ⟨hl.fp, by omega, by omega, hl.fe⟩, h2, h3⟩
theorem okX_word {x : Exn} (h : ¬ x.word.length ≤ 10) : okX x = false := by unfold okX; rw [decide_eq_false h]; rfl
theorem JG {x : Exn} (h : ¬ x.views.length ≤ 10) : okX x = false := by unfold okX; rw [decide_eq_false h, Bool.and_false]; rfl
theorem okX_all {x : Exn} (h1 : x.word.length ≤ 10) (h2 : x.views.length ≤ 10) : okX x = x.views.all okV := by unfold okX; rw [decide_eq_true h1, decide_eq_true h2]; rfl
set_option maxRecDepth 100000 in
theorem fewS_any (s : Sy) (hl : LowSy s) (A SV AV AX : Option Addr) (kc ks kv kx : Nat) (w : World) (hS : SyAt w w.heap.size A SV AV AX s) :
  Calls Tryz.prog 17 #[.agg (s.vs_ A kc SV ks AV kv AX kx)] w fun e w' => e = .returned (.bool (vx s)) ∧ Below w.heap.size w w' := by
 obtain ⟨w1, hw1⟩ : ∃ w1, w.alloc (.cells (s.vs_ A kc SV ks AV kv AX kx) 35) = w1 := ⟨_, rfl⟩
 have hbb := zh w (.cells (s.vs_ A kc SV ks AV kv AX kx) 35)
 have hb01 : Below w.heap.size w w1 := by rw [← hw1]; exact zF w _
 have hsz1 : w1.heap.size = w.heap.size + 1 := by rw [← hw1]; simp
 rw [hw1] at hbb
 have HF := zH (few_any s.p hl.fp A kc SV ks w1 (hS.up hb01).fc (hS.up hb01).fs)
 have HX := zH (hS.up hb01).fx
 have hvl := hl.fv
 have hxl := hl.fx
 have HLX := zH hl.fe
 have HRB : Hid (vx s = (xP s.p && decide (s.vs.length ≤ 600) && decide (s.xs.length ≤ 70) && s.xs.all okX)) := rfl
 obtain ⟨r, hr⟩ : ∃ r, vx s = r := ⟨_, rfl⟩
 rw [hr] at HRB ⊢
 obtain ⟨b, hb⟩ : ∃ b, xP s.p = b := ⟨_, rfl⟩
 rw [hb] at HF HRB
 unfold Pb.vs at HF
 unfold Sy.vs_ at hw1 hbb ⊢
 have HW1 := zH hw1
 have HBB := zH hbb
 have HB01 := zH hb01
 have p0 := za hbb 0 rfl
 have p1 := za hbb 1 rfl
 have p2 := za hbb 2 rfl
 have p3 := za hbb 3 rfl
 have p4 := za hbb 4 rfl
 have p5 := za hbb 5 rfl
 have p6 := za hbb 6 rfl
 clear hw1 hbb hb01 hS hl hr hb
 go_enter Tryz.func17, Tryz.ntmps17
 go_wp2_with fail
 rw [HW1.out]
 go_wp2_with fail
 refine HF.out.mono ?_
 rintro e w2 ⟨rfl, hb2⟩
 have HB2 := zH (HB01.out.trans (hb2.mono (by omega)))
 have d0 := (hb2.block _ (by omega : w.heap.size < w1.heap.size)).trans HBB.out
 have HD0 := zH d0
 have HX2 := zH ((HX.out.keep hb2).more hb2.size)
 have hs2 := hb2.size
 have x8 := za d0 8 rfl
 have x9 := za d0 9 rfl
 clear p0 p1 p2 p3 p4 p5 p6 hb2 HF HBB HW1 HX d0
 cases b with
 | false =>
  have hRf : Hid (r = false) := HRB.out
  clear HRB
  go_wp2_with fail
  all_goals
   go_ret
   exact ⟨zg hRf.out.symm, HB2.out⟩
 | true =>
 by_cases h8 : s.vs.length ≤ 600
 case neg =>
  have hRf : Hid (r = false) := HRB.out.trans (by rw [decide_eq_false h8]; rfl)
  clear HRB
  go_wp2_with fail
  all_goals first | (exfalso; omega) | skip
  all_goals
   go_ret
   exact ⟨zg hRf.out.symm, HB2.out⟩
 case pos =>
 by_cases h9 : s.xs.length ≤ 70
 case neg =>
  have hRf : Hid (r = false) := HRB.out.trans (by rw [decide_eq_false h9, Bool.and_false]; rfl)
  clear HRB
  go_wp2_with fail
  all_goals first | (exfalso; omega) | skip
  all_goals
   go_ret
   exact ⟨zg hRf.out.symm, HB2.out⟩
 case pos =>
 have HR : Hid (r = (s.xs.drop 0).all okX) := HRB.out.trans (by rw [decide_eq_true h8, decide_eq_true h9, List.drop_zero]; rfl)
 clear HRB
 go_wp2_with fail
 all_goals first | (exfalso; omega) | skip
 clear x8 x9
 go_loopw [3] (fun i wr => ∃ k : Nat, k ≤ s.xs.length ∧ i = .int .i64 (k : Int) ∧ Hid (r = (s.xs.drop k).all okX) ∧ Hid (Below w2.heap.size w2 wr)) (fun i _ => s.xs.length - (intOf i).toNat)
 case atStart => exact ⟨0, by omega, rfl, HR, Below.refl _ _⟩
 case round =>
  clear HR
  obtain ⟨k, hk, rfl, HR, hb⟩ := hrel
  have d0 := (hb.out.block _ (by omega : w.heap.size < w2.heap.size)).trans HD0.out
  have x9 := za d0 9 rfl
  clear d0
  by_cases hlt : k < s.xs.length
  case neg =>
   obtain rfl : k = s.xs.length := by omega
   have hRt : Hid (r = true) := HR.out.trans (by rw [List.drop_length]; rfl)
   clear HR
   go_wp2_with fail
   go_ret
   exact ⟨zg hRt.out.symm, HB2.out.trans (hb.out.mono (by omega))⟩
  case pos =>
   obtain ⟨bx, ox, A1, c1, A2, c2, eA, hbx, y0, y1, y2, _, hL⟩ := (HX2.out.keep hb.out).row k hlt
   subst eA
   obtain ⟨x, hx⟩ : ∃ x, s.xs[k] = x := ⟨_, rfl⟩
   have hxw := HLX.out _ (List.getElem_mem hlt)
   have hdr : s.xs.drop k = x :: s.xs.drop (k + 1) := by rw [List.drop_eq_getElem_cons hlt, hx]
   have HRK : Hid (r = (okX x && (s.xs.drop (k + 1)).all okX)) := HR.out.trans (by rw [hdr]; rfl)
   rw [hx] at y0 y1 y2 hL hxw
   obtain ⟨hxw1, hxw2, hxw3⟩ := hxw
   have HXW := zH hxw3
   have hsz := hb.out.size
   have hbxw : bx < wr.heap.size := by omega
   have hk0 : (0 : Int) ≤ (k : Int) := by omega
   have hk1 : (k : Int) < (s.xs.length : Int) := by omega
   obtain ⟨W3, hW3, b3, hs3, hB3⟩ := zj wr #[.int .i64 x.c, .slice A1 x.word.length c1, .slice A2 x.views.length c2] 94
   have HW3 := zH hW3
   have HB3 := zH (hb.out.trans (hB3.mono hsz))
   have HD3 := zH b3
   have HL := zH ((hL.more hsz).keep hB3)
   have e9 : W3.cell? ⟨w.heap.size, 9, none⟩ = wr.cell? ⟨w.heap.size, 9, none⟩ := hB3.cell (p := ⟨w.heap.size, 9, none⟩) (by show w.heap.size < _; omega)
   have z1 := za b3 1 rfl
   have z2 := za b3 2 rfl
   have HE9 := zH (e9.trans x9)
   clear hW3 hB3 b3 hL hxw3 hx hdr HR e9
   by_cases h1 : x.word.length ≤ 10
   case neg =>
    have hRf : Hid (r = false) := HRK.out.trans (by rw [okX_word h1]; rfl)
    clear HRK
    go_wp2_with fail
    rw [HW3.out]
    go_wp2_with fail
    all_goals first | (exfalso; omega) | skip
    all_goals
     go_ret
     exact ⟨zg hRf.out.symm, HB2.out.trans (HB3.out.mono (by omega))⟩
   case pos =>
   by_cases h2 : x.views.length ≤ 10
   case neg =>
    have hRf : Hid (r = false) := HRK.out.trans (by rw [JG h2]; rfl)
    clear HRK
    go_wp2_with fail
    rw [HW3.out]
    go_wp2_with fail
    all_goals first | (exfalso; omega) | skip
    all_goals
     go_ret
     exact ⟨zg hRf.out.symm, HB2.out.trans (HB3.out.mono (by omega))⟩
   case pos =>
   have HRJ : Hid (r = ((x.views.drop 0).all okV && (s.xs.drop (k + 1)).all okX)) := HRK.out.trans (by rw [okX_all h1 h2, List.drop_zero])
   clear HRK
   go_wp2_with fail
   rw [HW3.out]
   go_wp2_with fail
   all_goals first | (exfalso; omega) | skip
   clear z1 z2 y0 y1 y2 x9 HW3
   obtain ⟨bE, hbE⟩ : ∃ bE, wr.heap.size = bE := ⟨_, rfl⟩
   rw [hbE] at HD3 ⊢
   obtain ⟨wo, rfl⟩ : ∃ y, y = wr := ⟨_, rfl⟩
   go_loopw [5] (fun i wx => ∃ j n : Nat, j ≤ x.views.length ∧ i = .int .i64 (j : Int) ∧ wx = W3.drewN n ∧ Hid (r = ((x.views.drop j).all okV && (s.xs.drop (k + 1)).all okX))) (fun i _ => x.views.length - (intOf i).toNat)
   case atStart => exact ⟨0, 0, by omega, rfl, rfl, HRJ⟩
   case round =>
    clear HRJ
    obtain ⟨j, n, hj, rfl, rfl, HRJ⟩ := hrel
    have z2 : (W3.drewN n).cell? ⟨bE, 2, none⟩ = some (.slice A2 x.views.length c2) := za HD3.out 2 rfl
    by_cases hjl : j < x.views.length
    case neg =>
     obtain rfl : j = x.views.length := by omega
     have hRt : Hid (r = (s.xs.drop (k + 1)).all okX) := HRJ.out.trans (by rw [List.drop_length]; rfl)
     clear HRJ
     go_wp2_with fail
     go_roundw
     case rel => exact ⟨k + 1, by omega, by go_num, hRt, zM HB3.out n⟩
     case measure => simp [intOf]; omega
    case pos =>
     obtain ⟨bl, ol, A3, c3, eA, hbl, v0, _⟩ := HL.out.at_ j hjl
     subst eA
     obtain ⟨v, hv⟩ : ∃ v, x.views[j] = v := ⟨_, rfl⟩
     have hvl3 := HXW.out _ (List.getElem_mem hjl)
     have hdr : x.views.drop j = v :: x.views.drop (j + 1) := by rw [List.drop_eq_getElem_cons hjl, hv]
     have HRK : Hid (r = ((okV v && (x.views.drop (j + 1)).all okV) && (s.xs.drop (k + 1)).all okX)) := HRJ.out.trans (by rw [hdr]; rfl)
     rw [hv] at v0 hvl3
     have v1 : (W3.drewN n).cell? ⟨bl, ol + j, none⟩ = some (.slice A3 v.length c3) := v0
     have hj0 : (0 : Int) ≤ (j : Int) := by omega
     have hj1 : (j : Int) < (x.views.length : Int) := by omega
     clear hdr hv v0 HRJ
     by_cases h3 : v.length ≤ 10
     case neg =>
      have hRf : Hid (r = false) := HRK.out.trans (by unfold okV; rw [decide_eq_false h3]; rfl)
      clear HRK
      go_wp2_with fail
      all_goals first | (exfalso; omega) | skip
      go_ret
      exact ⟨zg hRf.out.symm, HB2.out.trans ((zM HB3.out n).mono (by omega))⟩
     case pos =>
      have hRt : Hid (r = ((x.views.drop (j + 1)).all okV && (s.xs.drop (k + 1)).all okX)) := HRK.out.trans (by rw [show okV v = true from decide_eq_true h3]; rfl)
      clear HRK
      go_wp2_with fail
      all_goals first | (exfalso; omega) | skip
      go_roundw
      case rel => exact ⟨j + 1, n, by omega, by go_num, rfl, hRt⟩
      case measure => simp [intOf]; omega
end
section
def exMv (p : Int) : Mv := ⟨⟨2, p, 3, 0, 0, 0, 0⟩, 0⟩
def exC1 : Cs := ⟨[0, 0], [[0, 0]], []⟩
def exC2 : Cs := ⟨[0, 1], [[0, 0]], []⟩
def gY : Pb := ⟨⟨2, 2, 1, [exC1, exC2]⟩, ⟨2, [[exMv 1, exMv 3]]⟩, 1⟩
def yc : Sy := (zN gY).1
theorem ex_few : xP gY = true := by decide +kernel
theorem Z6 : xO gY := (few_x ex_few).1
theorem ex_ok : (zN gY).2 = 0 := by decide +kernel
theorem ex_low : Xp gY := by
 refine ⟨⟨by decide, fun c hc => ?_⟩, by decide, fun l hl => ?_⟩
 · have : c = exC1 ∨ c = exC2 := by simpa [gY] using hc
   rcases this with rfl | rfl
   · refine ⟨by decide, by decide, by decide, fun v hv => ?_, fun v hv => ?_⟩
     · have : v = [0, 0] := by simpa [exC1] using hv
       subst this; decide
     · simp [exC1] at hv
   · refine ⟨by decide, by decide, by decide, fun v hv => ?_, fun v hv => ?_⟩
     · have : v = [0, 0] := by simpa [exC2] using hv
       subst this; decide
     · simp [exC2] at hv
 · have : l = [exMv 1, exMv 3] := by simpa [gY] using hl
   subst this; decide
theorem kI : LowS yc := ug ex_low Z6
theorem exs_p : yc.p = gY := by decide +kernel
theorem QZ : yc.xs.length = 4 ∧ yc.n = 2 := by decide +kernel
theorem exs_ver : xM yc = 0 := by decide +kernel
theorem qF : xO yc.p := by rw [exs_p]; exact Z6
theorem jq : zS yc 0 = [0, 1, 0, 2, 0, 1, 0, 3] ∧ zS yc 1 = [0, 1, 0, 1, 2, 3, 2, 3] := by decide +kernel
theorem yG : psG yc 3 = [0, 1] ∧ psG yc 2 = [1] ∧ ptn yc = 8 := by decide +kernel
theorem gj : zJ yc 3 = 0 ∧ zJ yc 2 = 0 := by
 unfold zJ
 rw [exs_ver]
 decide +kernel
def yl : List Bool := [false, false, false, false, true, true, true, true]
theorem qt : zC yc 3 yl = 0 ∧ zC yc 2 yl = 0 := by
 unfold zC
 rw [gj.1, gj.2, yG.2.2]
 decide
def farB (n : Nat) (adj : Nat → Nat → Bool) (src : Nat → Bool) (f : Nat → Int) : Bool :=
 (List.range n).all fun i => decide (-1 ≤ f i) && (decide (f i = 0) == src i) && (!decide (0 < f i) || (List.range n).any fun k => adj i k && decide (f k = f i - 1)) && (List.range n).all fun k => !(adj i k && decide (0 ≤ f k)) || (decide (0 ≤ f i) && decide (f i ≤ f k + 1))
theorem ub {n : Nat} {adj : Nat → Nat → Prop} {src : Nat → Prop} {a : Nat → Nat → Bool} {s : Nat → Bool} {f : Nat → Int} (ha : ∀ i k, adj i k ↔ a i k = true) (hs : ∀ i, src i ↔ s i = true) (h : farB n a s f = true) : Far n adj src f := by
 have h1 := fun i hi => List.all_eq_true.1 h i (List.mem_range.2 hi)
 simp only [Bool.and_eq_true] at h1
 refine ⟨fun i hi => of_decide_eq_true (h1 i hi).1.1.1, fun i hi => ?_, fun i hi h0 => ?_, fun i k hi hk hak h0 => ?_⟩
 · rw [hs i, ← eq_of_beq (h1 i hi).1.1.2, decide_eq_true_iff]
 · have := (h1 i hi).1.2
   rw [decide_eq_true h0, Bool.not_true, Bool.false_or] at this
   obtain ⟨k, hk, e⟩ := List.any_eq_true.1 this
   simp only [Bool.and_eq_true, decide_eq_true_iff] at e
   exact ⟨k, List.mem_range.1 hk, (ha i k).2 e.1, e.2⟩
 · have := List.all_eq_true.1 (h1 i hi).2 k (List.mem_range.2 hk)
   rw [(ha i k).1 hak, decide_eq_true h0] at this
   simpa using this
def adjB (ps : List Nat) (cls : Nat → List Int) (i k : Nat) : Bool := ps.any fun p => (cls p).getD i 0 == (cls p).getD k 0
theorem adjB_iff (ps : List Nat) (cls : Nat → List Int) (i k : Nat) : yN ps cls i k ↔ adjB ps cls i k = true := by
 unfold yN adjB
 rw [List.any_eq_true]
 simp
def Xa (q : Nat) : List Int := if q = 0 then [0, 1, 0, 2, 0, 1, 0, 3] else if q = 1 then [0, 1, 0, 1, 2, 3, 2, 3] else []
theorem Q1 (g : Int) (hg : ∀ q ∈ psG yc g, q = 0 ∨ q = 1) (i k : Nat) : xh yc g i k ↔ adjB (psG yc g) Xa i k = true := by
 rw [← adjB_iff]
 unfold xh yN
 have e : ∀ q ∈ psG yc g, zS yc q = Xa q := fun q hq => by
  rcases hg q hq with rfl | rfl
  · exact jq.1
  · exact jq.2
 constructor
 · rintro ⟨q, hq, h⟩; exact ⟨q, hq, by rw [← e q hq]; exact h⟩
 · rintro ⟨q, hq, h⟩; exact ⟨q, hq, by rw [e q hq]; exact h⟩
theorem jf (i k : Nat) : xh yc 3 i k ↔ adjB [0, 1] Xa i k = true := by rw [Q1 3 (by rw [yG.1]; simp), yG.1]
theorem Y8 (i k : Nat) : xh yc 2 i k ↔ adjB [1] Xa i k = true := by rw [Q1 2 (by rw [yG.2.1]; simp), yG.2.1]
def qT : List Int := [0, 0, 0, 0, 1, 1, 1, 2]
def exFar2 : List Int := [0, 0, 0, 0, -1, -1, -1, -1]
theorem Y7 : uc (ptn yc) (xh yc 3) (zX yl) = qT := by
 refine qm (by rw [yG.2.2]; rfl) ?_
 rw [yG.2.2]
 exact ub jf (s := fun i => decide (i ∈ zX yl)) (fun i => by simp) (by decide +kernel)
theorem exs_far2 : uc (ptn yc) (xh yc 2) (zX yl) = exFar2 := by
 refine qm (by rw [yG.2.2]; rfl) ?_
 rw [yG.2.2]
 exact ub Y8 (s := fun i => decide (i ∈ zX yl)) (fun i => by simp) (by decide +kernel)
theorem exs_rad : jP yc 3 yl = (qT, 0) := by unfold jP; rw [qt.1, Y7]; rfl
theorem QX {s : Sy} {g : Int} {set : List Bool} {f : List Int} (hn : set.length = ptn s) (hf : Far (ptn s) (xh s g) (fun i => i ∈ zX set) (fun i => f.getD i 0)) (hl : f.length = ptn s) : wV (ptn s) (xh s g) set = f.map fun d => decide (d < 0) := YZ hn hf hl (xg s g)
theorem exs_held3 : jH yc 3 yl = (List.replicate 8 false, 0) := by
 unfold jH
 rw [qt.1, QX (f := qT) (by rw [yG.2.2]; rfl) (by rw [yG.2.2]; exact ub jf (s := fun i => decide (i ∈ zX yl)) (fun i => by simp) (by decide +kernel)) (by rw [yG.2.2]; rfl)]
 rfl
theorem exs_held2 : jH yc 2 yl = (yl, 0) := by
 unfold jH
 rw [qt.2, QX (f := exFar2) (by rw [yG.2.2]; rfl) (by rw [yG.2.2]; exact ub Y8 (s := fun i => decide (i ∈ zX yl)) (fun i => by simp) (by decide +kernel)) (by rw [yG.2.2]; rfl)]
 rfl
def kJ : List Int := [0, 1, 0, 1, 0, 1, 0, 1]
theorem exs_conn (i j : Nat) (hi : i < 8) (hj : j < 8) : kJ.getD i 0 = kJ.getD j 0 ↔ Conn 8 (xh yc 3) i j := by
 have far0 : Far 8 (xh yc 3) (fun k => k = 0) (fun i => ([0, -1, 1, -1, 1, -1, 1, -1] : List Int).getD i 0) := ub jf (s := fun k => decide (k = 0)) (fun i => by simp) (by decide +kernel)
 have far1 : Far 8 (xh yc 3) (fun k => k = 1) (fun i => ([-1, 0, -1, 1, -1, 1, -1, 2] : List Int).getD i 0) := ub jf (s := fun k => decide (k = 1)) (fun i => by simp) (by decide +kernel)
 constructor
 · intro h
   have hd : ∀ i, i < 8 → (kJ.getD i 0 = 0 ∧ 0 ≤ ([0, -1, 1, -1, 1, -1, 1, -1] : List Int).getD i 0) ∨ (kJ.getD i 0 = 1 ∧ 0 ≤ ([-1, 0, -1, 1, -1, 1, -1, 2] : List Int).getD i 0) := by decide +kernel
   rcases hd i hi with ⟨a1, a2⟩ | ⟨a1, a2⟩ <;> rcases hd j hj with ⟨b1, b2⟩ | ⟨b1, b2⟩
   · exact (((far0.reach (by omega) (xg _ _) i hi).1 a2).symm (xg _ _)).trans ((far0.reach (by omega) (xg _ _) j hj).1 b2)
   · omega
   · omega
   · exact (((far1.reach (by omega) (xg _ _) i hi).1 a2).symm (xg _ _)).trans ((far1.reach (by omega) (xg _ _) j hj).1 b2)
 · intro h
   have hst : ∀ i, i < 8 → ∀ j, j < 8 → adjB [0, 1] Xa i j = true → kJ.getD i 0 = kJ.getD j 0 := by decide +kernel
   induction h with
   | refl => rfl
   | step _ h1 h2 h3 ih => exact (ih h1).trans (hst _ h1 _ h2 ((jf _ _).1 h3))
theorem exs_comp : ji yc 3 = (kJ, 0) := by
 unfold ji
 rw [gj.1, yG.2.2, ← compL_of (n := 8) (xg yc 3) kJ rfl (fun i j h1 h2 => by rw [← zD h1 0, ← zD h2 0]; exact exs_conn i j h1 h2)]
 decide +kernel
def qG : List (Int × Int) := [(7, -1), (5, 1), (1, 0)]
theorem exs_wit : qJ yc 3 7 yl = ((qG, true), 0) := by
 have hn : zL (psG yc 3) (zS yc) = zL [0, 1] Xa := by
  funext i
  rw [yG.1]
  unfold zL
  simp only [List.flatMap_cons, List.flatMap_nil, jq.1, jq.2]
  rfl
 unfold qJ
 rw [qt.1, Y7, hn, yG.2.2]
 decide +kernel
theorem QY (walk : List (Int × Int)) (i : Nat) : ZJ (ptn yc) (psG yc 3) (zS yc) walk i = ZJ 8 [0, 1] Xa walk i := by
 unfold ZJ
 rw [yG.1, yG.2.2]
 have e : ∀ q : Nat, q = 0 ∨ q = 1 → zS yc q = Xa q := fun q h => by
  rcases h with rfl | rfl
  · exact jq.1
  · exact jq.2
 generalize walk.getD i (0, 0) = t
 by_cases h : t.2 ∈ zO [0, 1]
 · have h1 : t.2.toNat = 0 ∨ t.2.toNat = 1 := by
    have h2 : t.2 = 0 ∨ t.2 = 1 := by simpa [zO] using h
    omega
   rw [e _ h1]
 · simp only [if_pos h]
theorem jL {f g : Nat → Int} (h : ∀ i, f i = g i) : ∀ m i, qd f m i = qd g m i
 | 0, _ => rfl
 | m + 1, i => by unfold qd; rw [h i, jL h m (i + 1)]
theorem exs_verw : qX yc 3 yl qG = 0 := by
 unfold qX
 rw [qt.1, jL (QY _)]
 decide +kernel
theorem exs_verw2 : qX yc 3 yl (qG.take 2) = 18 := by
 unfold qX
 rw [qt.1, jL (QY _)]
 decide +kernel
end
section
open Go.RowKit
attribute [local go_sem] Oper.semAt_some
theorem vo {S : Nat → Prop} {W : World} {b : Nat} {xs : List Int} {t : TypeId} (hS : S b) (h : W.heap[b]? = some (.cells ((xs.map (Value.int .i64)).toArray) t (0, 0))) : IAtS S W (some ⟨b, 0, none⟩) xs := fun _ =>
 ⟨b, 0, rfl, hS, zd h, fun i hi => by rw [Nat.zero_add]; exact za h i (by simp [hi])⟩
theorem YS {S : Nat → Prop} {W : World} {b : Nat} {v : List Int} {A : Option Addr} {c : Nat} {t : TypeId} (hS : S b) (h : W.heap[b]? = some (.cells #[.slice A v.length c] t (0, 0))) (h2 : IAtS S W A v) : LAtS S W (some ⟨b, 0, none⟩) [v] := fun _ =>
 ⟨b, 0, rfl, hS, zd h, fun i hi => by
  obtain rfl : i = 0 := by simpa using hi
  exact ⟨A, c, za h 0 rfl, h2⟩⟩
def uX : List Mv := [exMv 1, exMv 3]
def XV (l : List Mv) : List Value := l.flatMap fun m => m.cells.toList
theorem ex_moves {S : Nat → Prop} {W : World} {base : Nat} {A : Option Addr} {c : Nat} (h : OwnR kMv W base (.slice A 2 c) 2 (XV uX)) (hS : ∀ b, base ≤ b → b < W.heap.size → S b) : MAtS S W A uX := fun _ => by
 obtain ⟨A', c', e, _, _, h3⟩ := h.form
 cases e
 obtain ⟨g, rfl, ho, hg, hc⟩ := h3 (by omega)
 refine ⟨g, 0, rfl, hS g (h.lt g ho).1 hg, hg, fun i hi k u hu => ?_⟩
 have hi2 : i = 0 ∨ i = 1 := by have : i < 2 := hi; omega
 have hk8 : k < 8 := by
  rcases hi2 with rfl | rfl
  · exact (Array.getElem?_eq_some_iff.1 hu).1
  · exact (Array.getElem?_eq_some_iff.1 hu).1
 rw [Nat.zero_add]
 refine hc _ _ ?_
 rw [← hu]
 have h8 : k = 0 ∨ k = 1 ∨ k = 2 ∨ k = 3 ∨ k = 4 ∨ k = 5 ∨ k = 6 ∨ k = 7 := by omega
 rcases hi2 with rfl | rfl <;> rcases h8 with rfl | rfl | rfl | rfl | rfl | rfl | rfl | rfl <;> rfl
theorem set10 {w : World} {g : Nat} {a0 a1 a2 a3 a4 a5 a6 a7 a8 a9 : Value} {t : TypeId} (h : w.heap[g]? = some (.cells #[a0, a1, a2, a3, a4, a5, a6, a7, a8, a9] t (0, 0))) (v0 v1 v2 v3 v4 v5 v6 v7 v8 v9 : Value) :
  ∃ W, ((((((((((w.setCell ⟨g, 0, none⟩ v0).setCell ⟨g, 1, none⟩ v1).setCell ⟨g, 2, none⟩ v2).setCell ⟨g, 3, none⟩ v3).setCell ⟨g, 4, none⟩ v4).setCell ⟨g, 5, none⟩ v5).setCell ⟨g, 6, none⟩ v6).setCell ⟨g, 7, none⟩ v7).setCell ⟨g, 8, none⟩ v8).setCell ⟨g, 9, none⟩ v9) = W ∧ W.heap[g]? = some (.cells #[v0, v1, v2, v3, v4, v5, v6, v7, v8, v9] t (0, 0)) ∧ (∀ k, k ≠ g → W.heap[k]? = w.heap[k]?) ∧ (∀ B, B ≤ g → Below B w W) ∧ W.heap.size = w.heap.size := by
 refine ⟨_, rfl, ?_, fun k hk => ?_, fun B hB => ?_, by simp [World.setCell]⟩
 · have k0 : (w.setCell ⟨g, 0, none⟩ v0).heap[g]? = some (.cells #[v0, a1, a2, a3, a4, a5, a6, a7, a8, a9] t (0, 0)) := heap_setCell_same _ g 0 _ _ v0 h
   have k1 : ((w.setCell ⟨g, 0, none⟩ v0).setCell ⟨g, 1, none⟩ v1).heap[g]? = some (.cells #[v0, v1, a2, a3, a4, a5, a6, a7, a8, a9] t (0, 0)) := heap_setCell_same _ g 1 _ _ v1 k0
   have k2 : (((w.setCell ⟨g, 0, none⟩ v0).setCell ⟨g, 1, none⟩ v1).setCell ⟨g, 2, none⟩ v2).heap[g]? = some (.cells #[v0, v1, v2, a3, a4, a5, a6, a7, a8, a9] t (0, 0)) := heap_setCell_same _ g 2 _ _ v2 k1
   have k3 : ((((w.setCell ⟨g, 0, none⟩ v0).setCell ⟨g, 1, none⟩ v1).setCell ⟨g, 2, none⟩ v2).setCell ⟨g, 3, none⟩ v3).heap[g]? = some (.cells #[v0, v1, v2, v3, a4, a5, a6, a7, a8, a9] t (0, 0)) := heap_setCell_same _ g 3 _ _ v3 k2
   have k4 : (((((w.setCell ⟨g, 0, none⟩ v0).setCell ⟨g, 1, none⟩ v1).setCell ⟨g, 2, none⟩ v2).setCell ⟨g, 3, none⟩ v3).setCell ⟨g, 4, none⟩ v4).heap[g]? = some (.cells #[v0, v1, v2, v3, v4, a5, a6, a7, a8, a9] t (0, 0)) := heap_setCell_same _ g 4 _ _ v4 k3
   have k5 : ((((((w.setCell ⟨g, 0, none⟩ v0).setCell ⟨g, 1, none⟩ v1).setCell ⟨g, 2, none⟩ v2).setCell ⟨g, 3, none⟩ v3).setCell ⟨g, 4, none⟩ v4).setCell ⟨g, 5, none⟩ v5).heap[g]? = some (.cells #[v0, v1, v2, v3, v4, v5, a6, a7, a8, a9] t (0, 0)) := heap_setCell_same _ g 5 _ _ v5 k4
   have k6 : (((((((w.setCell ⟨g, 0, none⟩ v0).setCell ⟨g, 1, none⟩ v1).setCell ⟨g, 2, none⟩ v2).setCell ⟨g, 3, none⟩ v3).setCell ⟨g, 4, none⟩ v4).setCell ⟨g, 5, none⟩ v5).setCell ⟨g, 6, none⟩ v6).heap[g]? = some (.cells #[v0, v1, v2, v3, v4, v5, v6, a7, a8, a9] t (0, 0)) := heap_setCell_same _ g 6 _ _ v6 k5
   have k7 : ((((((((w.setCell ⟨g, 0, none⟩ v0).setCell ⟨g, 1, none⟩ v1).setCell ⟨g, 2, none⟩ v2).setCell ⟨g, 3, none⟩ v3).setCell ⟨g, 4, none⟩ v4).setCell ⟨g, 5, none⟩ v5).setCell ⟨g, 6, none⟩ v6).setCell ⟨g, 7, none⟩ v7).heap[g]? = some (.cells #[v0, v1, v2, v3, v4, v5, v6, v7, a8, a9] t (0, 0)) := heap_setCell_same _ g 7 _ _ v7 k6
   have k8 : (((((((((w.setCell ⟨g, 0, none⟩ v0).setCell ⟨g, 1, none⟩ v1).setCell ⟨g, 2, none⟩ v2).setCell ⟨g, 3, none⟩ v3).setCell ⟨g, 4, none⟩ v4).setCell ⟨g, 5, none⟩ v5).setCell ⟨g, 6, none⟩ v6).setCell ⟨g, 7, none⟩ v7).setCell ⟨g, 8, none⟩ v8).heap[g]? = some (.cells #[v0, v1, v2, v3, v4, v5, v6, v7, v8, a9] t (0, 0)) := heap_setCell_same _ g 8 _ _ v8 k7
   have k9 : ((((((((((w.setCell ⟨g, 0, none⟩ v0).setCell ⟨g, 1, none⟩ v1).setCell ⟨g, 2, none⟩ v2).setCell ⟨g, 3, none⟩ v3).setCell ⟨g, 4, none⟩ v4).setCell ⟨g, 5, none⟩ v5).setCell ⟨g, 6, none⟩ v6).setCell ⟨g, 7, none⟩ v7).setCell ⟨g, 8, none⟩ v8).setCell ⟨g, 9, none⟩ v9).heap[g]? = some (.cells #[v0, v1, v2, v3, v4, v5, v6, v7, v8, v9] t (0, 0)) := heap_setCell_same _ g 9 _ _ v9 k8
   exact k9
 · exact (Below.heap_setCell _ ⟨g, 9, none⟩ v9 k hk).trans ((Below.heap_setCell _ ⟨g, 8, none⟩ v8 k hk).trans ((Below.heap_setCell _ ⟨g, 7, none⟩ v7 k hk).trans ((Below.heap_setCell _ ⟨g, 6, none⟩ v6 k hk).trans ((Below.heap_setCell _ ⟨g, 5, none⟩ v5 k hk).trans ((Below.heap_setCell _ ⟨g, 4, none⟩ v4 k hk).trans ((Below.heap_setCell _ ⟨g, 3, none⟩ v3 k hk).trans ((Below.heap_setCell _ ⟨g, 2, none⟩ v2 k hk).trans ((Below.heap_setCell _ ⟨g, 1, none⟩ v1 k hk).trans (Below.heap_setCell _ ⟨g, 0, none⟩ v0 k hk)))))))))
 · refine Below.setCell (p := ⟨g, 9, none⟩) ?_ hB _
   refine Below.setCell (p := ⟨g, 8, none⟩) ?_ hB _
   refine Below.setCell (p := ⟨g, 7, none⟩) ?_ hB _
   refine Below.setCell (p := ⟨g, 6, none⟩) ?_ hB _
   refine Below.setCell (p := ⟨g, 5, none⟩) ?_ hB _
   refine Below.setCell (p := ⟨g, 4, none⟩) ?_ hB _
   refine Below.setCell (p := ⟨g, 3, none⟩) ?_ hB _
   refine Below.setCell (p := ⟨g, 2, none⟩) ?_ hB _
   refine Below.setCell (p := ⟨g, 1, none⟩) ?_ hB _
   refine Below.setCell (p := ⟨g, 0, none⟩) ?_ hB _
   exact Below.refl B w
set_option maxRecDepth 100000 in
theorem gW (w : World) : Calls Tryz.prog 62 #[] w fun e w' => ∃ A kc SV ks AV kv AX kx, e = .returned (.tuple #[.agg (yc.vs_ A kc SV ks AV kv AX kx), .bool true]) ∧ SyAt w' w'.heap.size A SV AV AX yc ∧ Below w.heap.size w w' := by
 obtain ⟨w0, hw0, d0, hs0, hB0⟩ := zj w #[.int .i64 0, .int .i64 0, .int .i64 0, .slice none 0 0, .int .i64 0, .slice none 0 0, .int .i64 0, .int .i64 0, .slice none 0 0, .slice none 0 0] 35
 obtain ⟨w1, hw1, d1, hs1, hB1⟩ := zj w0 #[.int .i64 1, .int .i64 3] 3
 have HW0 := zH hw0
 have HW1 := zH hw1
 rw [hs0] at d1
 have HD0 := zH ((hB1.block _ (by omega)).trans d0)
 have HD1 := zH d1
 have HB1 := zH (hB0.trans (hB1.mono (by omega)))
 have hs1' : w1.heap.size = w.heap.size + 1 + 1 := by omega
 clear hw0 hw1 d0 d1 hB0 hB1 hs1
 go_enter Tryz.func62, Tryz.ntmps62
 go_wp2_with fail
 rw [HW0.out, HW1.out]
 try rw [hs0]
 clear HW0 HW1
 go_wp2_with fail
 go_loopw [2, 10] (fun o i wr => ∃ k : Nat, k ≤ 2 ∧ i = .int .i64 (k : Int) ∧ Hid (OwnR kMv wr w1.heap.size o k (XV (uX.take k))) ∧ Hid (Below w1.heap.size w1 wr)) (fun _ i _ => 2 - (intOf i).toNat)
 case atStart => exact ⟨0, by omega, rfl, OwnR.nil _ _ _, Below.refl _ _⟩
 case round =>
  obtain ⟨k, hk, rfl, HO, hb⟩ := hrel
  have hsz := hb.out.size
  obtain ⟨Ao, co, rfl, _, _, _⟩ := HO.out.form
  have dd := (hb.out.block _ (by omega : w.heap.size + 1 < w1.heap.size)).trans HD1.out
  by_cases hlt : k < 2
  · obtain ⟨v, hv⟩ : ∃ v : Int, (k = 0 ∧ v = 1) ∨ (k = 1 ∧ v = 3) := by
     rcases (by omega : k = 0 ∨ k = 1) with rfl | rfl
     · exact ⟨1, .inl ⟨rfl, rfl⟩⟩
     · exact ⟨3, .inr ⟨rfl, rfl⟩⟩
    have c1 : wr.cell? ⟨w.heap.size + 1, k, none⟩ = some (.int .i64 v) := by
     rcases hv with ⟨rfl, rfl⟩ | ⟨rfl, rfl⟩
     · exact za dd 0 rfl
     · exact za dd 1 rfl
    have htk : XV (uX.take (k + 1)) = XV (uX.take k) ++ #[Value.int .i64 2, .int .i64 v, .int .i64 3, .int .i64 0, .int .i64 0, .int .i64 0, .int .i64 0, .int .i64 0].toList := by
     rcases hv with ⟨rfl, rfl⟩ | ⟨rfl, rfl⟩ <;> rfl
    have HTK := zH htk
    have hk0 : (0 : Int) ≤ (k : Int) := by omega
    have hk1 : (k : Int) < 2 := by omega
    clear dd hv htk
    go_wp2_with (at_builtin; go_must (refine yo kMv_ok rfl _ _ (by rfl) w1.heap.size (.slice Ao k co) k (XV (uX.take k)) (by rfl) (HO.out.alloc _) wr.heap.size #[.int .i64 2, .int .i64 v, .int .i64 3, .int .i64 0, .int .i64 0, .int .i64 0, .int .i64 0, .int .i64 0] (by rfl) (zh wr _) rfl (by simp [Value.oneCell']) (by omega) (by simp; omega) _ rfl ?_); intro g' cap' w4 hr4 hg4 hat4 hlt4
                 have HR4 : Hid (OwnR kMv w4 w1.heap.size (.slice (some ⟨g', 0, none⟩) (k + 1) cap') (k + 1) (XV (uX.take (k + 1)))) := by rw [HTK.out]; exact hr4
                 have HB4 : Hid (Below w1.heap.size w1 w4) := hb.out.trans (((zF wr _).mono hsz).grown hg4 (by simp; omega) (fun k hk => (HO.out.lt k hk).1))
                 clear hr4 hg4 hat4)
    go_roundw
    case rel => exact ⟨k + 1, by omega, by go_num, HR4, HB4⟩
    case measure => simp [intOf]; omega
  · obtain rfl : k = 2 := by omega
    have HO2 : Hid (OwnR kMv wr w1.heap.size (.slice Ao 2 co) 2 (XV uX)) := HO.out
    obtain ⟨w3, hw3⟩ : ∃ w3, w3 = wr := ⟨_, rfl⟩
    rw [← hw3] at HO2 hb hsz ⊢
    clear dd HO hw3 hlt
    go_upto_region 8 with fail
    obtain ⟨a0, ha0, e0, hs0, hb0⟩ := zj w3 #[.int .i64 0, .int .i64 0] 3
    obtain ⟨a1, ha1, e1, hs1, hb1⟩ := zj a0 #[.int .i64 0, .int .i64 0] 3
    obtain ⟨a2, ha2, e2, hs2, hb2⟩ := zj a1 #[.slice (some ⟨w3.heap.size + 1, 0, none⟩) 2 2] 38
    obtain ⟨a3, ha3, e3, hs3, hb3⟩ := zj a2 #[.int .i64 0, .int .i64 1] 3
    obtain ⟨a4, ha4, e4, hs4, hb4⟩ := zj a3 #[.int .i64 0, .int .i64 0] 3
    obtain ⟨a5, ha5, e5, hs5, hb5⟩ := zj a4 #[.slice (some ⟨w3.heap.size + 1 + 1 + 1 + 1, 0, none⟩) 2 2] 38
    obtain ⟨a6, ha6, e6, hs6, hb6⟩ := zj a5 #[.slice (some ⟨w3.heap.size, 0, none⟩) 2 2, .slice (some ⟨w3.heap.size + 1 + 1, 0, none⟩) 1 1, .slice none 0 0, .slice (some ⟨w3.heap.size + 1 + 1 + 1, 0, none⟩) 2 2, .slice (some ⟨w3.heap.size + 1 + 1 + 1 + 1 + 1, 0, none⟩) 1 1, .slice none 0 0] 168
    obtain ⟨a7, ha7, e7, hs7, hb7⟩ := zj a6 #[.int .i64 2, .int .i64 2, .int .i64 1, .slice (some ⟨w3.heap.size + 1 + 1 + 1 + 1 + 1 + 1, 0, none⟩) 2 2] 24
    rw [ha0, ha1, ha2, ha3, ha4, ha5, ha6, ha7]
    rw [hs0] at e1
    rw [hs0] at hs1
    rw [hs1] at e2
    rw [hs1] at hs2
    rw [hs2] at e3
    rw [hs2] at hs3
    rw [hs3] at e4
    rw [hs3] at hs4
    rw [hs4] at e5
    rw [hs4] at hs5
    rw [hs5] at e6
    rw [hs5] at hs6
    rw [hs6] at e7
    rw [hs6] at hs7
    have D0 : Hid (a7.heap[w3.heap.size]? = some (.cells #[.int .i64 0, .int .i64 0] 3 (0, 0))) := (hb7.block _ (by omega)).trans ((hb6.block _ (by omega)).trans ((hb5.block _ (by omega)).trans ((hb4.block _ (by omega)).trans ((hb3.block _ (by omega)).trans ((hb2.block _ (by omega)).trans ((hb1.block _ (by omega)).trans (e0)))))))
    have D1 : Hid (a7.heap[w3.heap.size + 1]? = some (.cells #[.int .i64 0, .int .i64 0] 3 (0, 0))) := (hb7.block _ (by omega)).trans ((hb6.block _ (by omega)).trans ((hb5.block _ (by omega)).trans ((hb4.block _ (by omega)).trans ((hb3.block _ (by omega)).trans ((hb2.block _ (by omega)).trans (e1))))))
    have D2 : Hid (a7.heap[w3.heap.size + 1 + 1]? = some (.cells #[.slice (some ⟨w3.heap.size + 1, 0, none⟩) 2 2] 38 (0, 0))) := (hb7.block _ (by omega)).trans ((hb6.block _ (by omega)).trans ((hb5.block _ (by omega)).trans ((hb4.block _ (by omega)).trans ((hb3.block _ (by omega)).trans (e2)))))
    have D3 : Hid (a7.heap[w3.heap.size + 1 + 1 + 1]? = some (.cells #[.int .i64 0, .int .i64 1] 3 (0, 0))) := (hb7.block _ (by omega)).trans ((hb6.block _ (by omega)).trans ((hb5.block _ (by omega)).trans ((hb4.block _ (by omega)).trans (e3))))
    have D4 : Hid (a7.heap[w3.heap.size + 1 + 1 + 1 + 1]? = some (.cells #[.int .i64 0, .int .i64 0] 3 (0, 0))) := (hb7.block _ (by omega)).trans ((hb6.block _ (by omega)).trans ((hb5.block _ (by omega)).trans (e4)))
    have D5 : Hid (a7.heap[w3.heap.size + 1 + 1 + 1 + 1 + 1]? = some (.cells #[.slice (some ⟨w3.heap.size + 1 + 1 + 1 + 1, 0, none⟩) 2 2] 38 (0, 0))) := (hb7.block _ (by omega)).trans ((hb6.block _ (by omega)).trans (e5))
    have D6 : Hid (a7.heap[w3.heap.size + 1 + 1 + 1 + 1 + 1 + 1]? = some (.cells #[.slice (some ⟨w3.heap.size, 0, none⟩) 2 2, .slice (some ⟨w3.heap.size + 1 + 1, 0, none⟩) 1 1, .slice none 0 0, .slice (some ⟨w3.heap.size + 1 + 1 + 1, 0, none⟩) 2 2, .slice (some ⟨w3.heap.size + 1 + 1 + 1 + 1 + 1, 0, none⟩) 1 1, .slice none 0 0] 168 (0, 0))) := (hb7.block _ (by omega)).trans (e6)
    have D7 : Hid (a7.heap[w3.heap.size + 1 + 1 + 1 + 1 + 1 + 1 + 1]? = some (.cells #[.int .i64 2, .int .i64 2, .int .i64 1, .slice (some ⟨w3.heap.size + 1 + 1 + 1 + 1 + 1 + 1, 0, none⟩) 2 2] 24 (0, 0))) := e7
    have HB8 : Hid (Below w3.heap.size w3 a7) := (((((((hb0).trans (hb1.mono (by omega))).trans (hb2.mono (by omega))).trans (hb3.mono (by omega))).trans (hb4.mono (by omega))).trans (hb5.mono (by omega))).trans (hb6.mono (by omega))).trans (hb7.mono (by omega))
    clear ha0 e0 hb0 ha1 e1 hb1 ha2 e2 hb2 ha3 e3 hb3 ha4 e4 hb4 ha5 e5 hb5 ha6 e6 hb6 ha7 e7 hb7
    have HO7 := zH (HO2.out.below HB8.out (Nat.le_refl _))
    have HB7 := zH (hb.out.trans (HB8.out.mono hsz))
    have hs9 : a7.heap.size = w3.heap.size + 8 := by omega
    have x0 := za D7.out 0 rfl
    have x1 := za D7.out 1 rfl
    have x2 := za D7.out 2 rfl
    have x3 := za D7.out 3 rfl
    clear HO2 HB8 hs1 hs2 hs3 hs4 hs5 hs6 hs7
    go_wp2_with fail
    obtain ⟨a8, ha8, e8, hs8, hb8⟩ := zj a7 #[.slice Ao 2 co] 198
    rw [ha8]
    have hss : a8.heap.size = w3.heap.size + 9 := by omega
    have S : Nat → Prop := fun k => w1.heap.size ≤ k ∧ k < a8.heap.size
    have N0 := (hb8.block _ (by omega)).trans D0.out
    have N1 := (hb8.block _ (by omega)).trans D1.out
    have N2 := (hb8.block _ (by omega)).trans D2.out
    have N3 := (hb8.block _ (by omega)).trans D3.out
    have N4 := (hb8.block _ (by omega)).trans D4.out
    have N5 := (hb8.block _ (by omega)).trans D5.out
    have N6 := (hb8.block _ (by omega)).trans D6.out
    have i0 : IAtS (fun k => w1.heap.size ≤ k ∧ k < a8.heap.size) a8 _ [0, 0] := vo (by omega) N0
    have i1 : IAtS (fun k => w1.heap.size ≤ k ∧ k < a8.heap.size) a8 _ [0, 0] := vo (by omega) N1
    have i3 : IAtS (fun k => w1.heap.size ≤ k ∧ k < a8.heap.size) a8 _ [0, 1] := vo (by omega) N3
    have i4 : IAtS (fun k => w1.heap.size ≤ k ∧ k < a8.heap.size) a8 _ [0, 0] := vo (by omega) N4
    have l2 := YS (v := [0, 0]) (S := fun k => w1.heap.size ≤ k ∧ k < a8.heap.size) (by omega) N2 i1
    have l5 := YS (v := [0, 0]) (S := fun k => w1.heap.size ≤ k ∧ k < a8.heap.size) (by omega) N5 i4
    have hO8 := HO7.out.below hb8 (Nat.le_refl _)
    have m8 : MAtS (fun k => w1.heap.size ≤ k ∧ k < a8.heap.size) a8 Ao uX := ex_moves hO8 fun b h1 h2 => ⟨h1, h2⟩
    have hCL : CAtL w1.heap.size a8.heap.size a8 (some ⟨w3.heap.size + 1 + 1 + 1 + 1 + 1 + 1, 0, none⟩) gY.t.cases := by
     refine ⟨[.slice (some ⟨w3.heap.size, 0, none⟩) 2 2, .slice (some ⟨w3.heap.size + 1 + 1, 0, none⟩) 1 1, .slice none 0 0, .slice (some ⟨w3.heap.size + 1 + 1 + 1, 0, none⟩) 2 2, .slice (some ⟨w3.heap.size + 1 + 1 + 1 + 1 + 1, 0, none⟩) 1 1, .slice none 0 0], rfl, fun _ => ⟨_, 0, rfl, by omega, fun j u hu => ?_⟩, by simp [Value.oneCell'], fun i hi => ?_⟩
     · rw [Nat.zero_add]
       exact za N6 j (by simpa using hu)
     · have h2 : i = 0 ∨ i = 1 := by have : i < 2 := hi; omega
       rcases h2 with rfl | rfl
       · refine ⟨[.slice (some ⟨w3.heap.size, 0, none⟩) 2 2, .slice (some ⟨w3.heap.size + 1 + 1, 0, none⟩) 1 1, .slice none 0 0], ⟨_, 2, _, 1, none, 0, rfl, i0, l2, LAtS.nil _ _ _⟩, fun j u hu => ?_⟩
         have hj : j < 3 := (List.getElem?_eq_some_iff.1 hu).1
         rw [← hu]
         rcases (by omega : j = 0 ∨ j = 1 ∨ j = 2) with rfl | rfl | rfl <;> rfl
       · refine ⟨[.slice (some ⟨w3.heap.size + 1 + 1 + 1, 0, none⟩) 2 2, .slice (some ⟨w3.heap.size + 1 + 1 + 1 + 1 + 1, 0, none⟩) 1 1, .slice none 0 0], ⟨_, 2, _, 1, none, 0, rfl, i3, l5, LAtS.nil _ _ _⟩, fun j u hu => ?_⟩
         have hj : j < 3 := (List.getElem?_eq_some_iff.1 hu).1
         rw [← hu]
         rcases (by omega : j = 0 ∨ j = 1 ∨ j = 2) with rfl | rfl | rfl <;> rfl
    have hSL : SAtL w1.heap.size a8.heap.size a8 (some ⟨a7.heap.size, 0, none⟩) gY.a.sts := by
     refine ⟨[.slice Ao 2 co], rfl, fun _ => ⟨_, 0, rfl, by omega, fun j u hu => ?_⟩, by simp [Value.oneCell'], fun i hi => ?_⟩
     · rw [Nat.zero_add]
       exact za e8 j (by simpa using hu)
     · obtain rfl : i = 0 := by have : i < 1 := hi; omega
       exact ⟨[.slice Ao 2 co], ⟨Ao, co, rfl, m8⟩, fun j u hu => by rw [← hu]; congr 1; omega⟩
    have hCA : CAt a8 a8.heap.size (some ⟨w3.heap.size + 1 + 1 + 1 + 1 + 1 + 1, 0, none⟩) gY.t.cases := fun _ => ⟨_, 0, rfl, zd N6, fun i hi => by
     have h2 : i = 0 ∨ i = 1 := by have : i < 2 := hi; omega
     rcases h2 with rfl | rfl
     · exact ⟨_, _, _, za N6 0 rfl, za N6 1 rfl, za N6 2 rfl, ⟨_, 2, rfl, i0.iat⟩, ⟨_, 1, rfl, l2.lat⟩, ⟨none, 0, rfl, LAt.nil _ _ _⟩⟩
     · exact ⟨_, _, _, za N6 3 rfl, za N6 4 rfl, za N6 5 rfl, ⟨_, 2, rfl, i3.iat⟩, ⟨_, 1, rfl, l5.lat⟩, ⟨none, 0, rfl, LAt.nil _ _ _⟩⟩⟩
    have hSA : SAt a8 a8.heap.size (some ⟨a7.heap.size, 0, none⟩) gY.a.sts := fun _ => ⟨_, 0, rfl, zd e8, fun i hi => by
     obtain rfl : i = 0 := by have : i < 1 := hi; omega
     refine ⟨Ao, co, za e8 0 rfl, fun _ => ?_⟩
     obtain ⟨b, off, e, _, hb', hc⟩ := m8 (by decide)
     exact ⟨b, off, e, hb', hc⟩⟩
    have hbd := gF gY Z6 _ 2 _ 1 a8 w1.heap.size a8.heap.size (Nat.le_refl _) hCA hSA hCL hSL
    have HR : Hid (zN gY = (yc, 0)) := Prod.ext rfl ex_ok
    rw [HR.out] at hbd
    have hargs : gY.vs (some ⟨w3.heap.size + 1 + 1 + 1 + 1 + 1 + 1, 0, none⟩) 2 (some ⟨a7.heap.size, 0, none⟩) 1 = #[.int .i64 2, .int .i64 2, .int .i64 1, .slice (some ⟨w3.heap.size + 1 + 1 + 1 + 1 + 1 + 1, 0, none⟩) 2 2, .int .i64 2, .slice (some ⟨a7.heap.size, 0, none⟩) 1 1, .int .i64 1] := rfl
    rw [hargs, hs9] at hbd
    have HBD := zH hbd
    have hBB := zH (HB7.out.trans (hb8.mono HB7.out.size))
    have HD08 : Hid (a8.heap[w.heap.size]? = some (.cells #[.int .i64 0, .int .i64 0, .int .i64 0, .slice none 0 0, .int .i64 0, .slice none 0 0, .int .i64 0, .int .i64 0, .slice none 0 0, .slice none 0 0] 35 (0, 0))) := (hBB.out.block _ (by omega)).trans HD0.out
    clear ha8 e8 hb8 S N0 N1 N2 N3 N4 N5 N6 i0 i1 i3 i4 l2 l5 hO8 m8 hCL hSL hCA hSA HR hargs hbd x0 x1 x2 x3 HO7 D0 D1 D2 D3 D4 D5 D6 D7
    refine HBD.out.mono ?_
    rintro e w9 ⟨A2, kc2, SV2, ks2, AV, kv, AX, kx, rfl, hSY, hv1, hv2, hb9⟩
    have h4 : ((yc.xs.length : Int) == 4) = true := by rw [QZ.1]; decide
    have h44 : (yc.xs.length : Int) = 4 := by rw [QZ.1]; rfl
    obtain ⟨T, hT⟩ : ∃ T, yc = T := ⟨_, rfl⟩
    rw [hT] at hSY h4 h44
    have HT := zH hT
    have HSY := zH hSY
    have HB9 := zH (hBB.out.trans (hb9.mono hBB.out.size))
    have HB89 := zH hb9
    rw [hT]
    have hs89 := hb9.size
    unfold Sy.vs_
    clear hb9 hSY hv1 hv2 HBD hT
    go_upto_region 9 with fail
    obtain ⟨W10, hW10, d10, hs10, hb10⟩ := zj w9 #[.int .i64 T.p.t.n, .int .i64 T.p.t.ins, .int .i64 T.p.t.outs, .slice A2 T.p.t.cases.length kc2, .int .i64 T.p.a.n, .slice SV2 T.p.a.sts.length ks2, .int .i64 T.p.k, .int .i64 T.n, .slice AV T.vs.length kv, .slice AX T.xs.length kx] 35
    rw [hW10]
    have HD10 := zH d10
    have HB10 := zH (HB9.out.trans (hb10.mono HB9.out.size))
    have HD0T : Hid (W10.heap[w.heap.size]? = some (.cells #[.int .i64 0, .int .i64 0, .int .i64 0, .slice none 0 0, .int .i64 0, .slice none 0 0, .int .i64 0, .int .i64 0, .slice none 0 0, .slice none 0 0] 35 (0, 0))) := (hb10.block _ (by omega)).trans ((HB89.out.block _ (zd HD08.out)).trans HD08.out)
    have HSM : Hid (∀ k, k < w9.heap.size → W10.heap[k]? = w9.heap[k]?) := fun k hk => hb10.block k hk
    have hz10 : w.heap.size < w9.heap.size := by omega
    clear hW10 d10 hb10
    refine zo [(0, true), (1, true), (2, true), (3, true), (4, true), (5, true), (6, true), (7, true), (8, true), (9, false), (10, false)] (fun X => X.heap[w9.heap.size]? = some (.cells #[.int .i64 T.p.t.n, .int .i64 T.p.t.ins, .int .i64 T.p.t.outs, .slice A2 T.p.t.cases.length kc2, .int .i64 T.p.a.n, .slice SV2 T.p.a.sts.length ks2, .int .i64 T.p.k, .int .i64 T.n, .slice AV T.vs.length kv, .slice AX T.xs.length kx] 35 (0, 0))) (by kernel_rfl) (by kernel_rfl) HD10.out ?_
    repeat
     apply zt rfl
     · rintro K' hK' X u
       obtain ⟨q0, q1, q2, q3, q4, q5, q6, q7, q8, q9⟩ := zv u
       clear u
       go_simp
       exact hK'
    have HB11 : Hid (Below w1.heap.size w1 W10.drew) := HB10.out.drew
    have HD11 : Hid (W10.drew.heap[w.heap.size]? = some (.cells #[.int .i64 0, .int .i64 0, .int .i64 0, .slice none 0 0, .int .i64 0, .slice none 0 0, .int .i64 0, .int .i64 0, .slice none 0 0, .slice none 0 0] 35 (0, 0))) := HD0T.out
    have HX11 : Hid (W10.drew.heap[w9.heap.size]? = some (.cells #[.int .i64 T.p.t.n, .int .i64 T.p.t.ins, .int .i64 T.p.t.outs, .slice A2 T.p.t.cases.length kc2, .int .i64 T.p.a.n, .slice SV2 T.p.a.sts.length ks2, .int .i64 T.p.k, .int .i64 T.n, .slice AV T.vs.length kv, .slice AX T.xs.length kx] 35 (0, 0))) := HD10.out
    have HSM11 : Hid (∀ k, k < w9.heap.size → W10.drew.heap[k]? = w9.heap[k]?) := HSM.out
    have hz11 : Hid (W10.drew.heap.size = w9.heap.size + 1) := hs10
    obtain ⟨W11, hW11⟩ : ∃ W11, W10.drew = W11 := ⟨_, rfl⟩
    rw [hW11] at HB11 HD11 HX11 HSM11 hz11 ⊢
    clear hW11 HB10 HD0T HD10 HSM
    obtain ⟨r0, r1, r2, r3, r4, r5, r6, r7, r8, r9⟩ := zv HD11.out
    have g0 := zb HD11.out 0
    have g1 := zb HD11.out 1
    have g2 := zb HD11.out 2
    have g3 := zb HD11.out 3
    have g4 := zb HD11.out 4
    have g5 := zb HD11.out 5
    have g6 := zb HD11.out 6
    have g7 := zb HD11.out 7
    have g8 := zb HD11.out 8
    have g9 := zb HD11.out 9
    have l1 := zd HD11.out
    refine zB rfl ?_
    intro K' hK'
    go_simp
    obtain ⟨WF, hWF, f1, f2, f3, f4⟩ := set10 HD11.out (.int .i64 T.p.t.n) (.int .i64 T.p.t.ins) (.int .i64 T.p.t.outs) (.slice A2 T.p.t.cases.length kc2) (.int .i64 T.p.a.n) (.slice SV2 T.p.a.sts.length ks2) (.int .i64 T.p.k) (.int .i64 T.n) (.slice AV T.vs.length kv) (.slice AX T.xs.length kx)
    rw [hWF]
    have hkp := (f2 w9.heap.size (by omega)).trans HX11.out
    refine hK' _ _ hkp ?_
    clear hK' K' r0 r1 r2 r3 r4 r5 r6 r7 r8 r9 g0 g1 g2 g3 g4 g5 g6 g7 g8 g9 l1 hWF
    refine zB rfl ?_
    intro K' hK'
    go_simp
    refine hK' _ _ hkp ?_
    refine zG ?_
    clear hK' K'
    obtain ⟨c0, c1, c2, c3, c4, c5, c6, c7, c8, c9⟩ := zv f1
    go_wp2_with fail
    refine bodyPost_ret (v := .tuple #[.agg #[.int .i64 T.p.t.n, .int .i64 T.p.t.ins, .int .i64 T.p.t.outs, .slice A2 T.p.t.cases.length kc2, .int .i64 T.p.a.n, .slice SV2 T.p.a.sts.length ks2, .int .i64 T.p.k, .int .i64 T.n, .slice AV T.vs.length kv, .slice AX T.xs.length kx], .bool true]) (by simp [results, Tryz.results62, go_sem, c0, c1, c2, c3, c4, c5, c6, c7, c8, c9]) rfl ?_
    have hbw := HB1.out
    refine ⟨A2, kc2, SV2, ks2, AV, kv, AX, kx, by rw [HT.out]; rfl, ?_, ?_⟩
    · rw [HT.out]
      refine HSY.out WF (by have := hz11.out; omega) fun k hk hl => ?_
      exact (f2 k (by omega)).trans (HSM11.out k hl)
    · exact (HB1.out.trans (HB11.out.mono (by omega))).trans (f3 _ (Nat.le_refl _))
end
section
open Go.RowKit Go.Shelf
attribute [local go_sem] Oper.semAt_some
def yS : Value := .agg #[.int .i64 0, .slice none 0 0, .map none, .map none]
def Jh (s : Sy) (g : Int) (w : World) (e : Ending) (w' : World) : Prop := Below w.heap.size w w' ∧ ((zJ s g ≠ 0 ∧ e = .returned (.tuple #[yS, .int .i64 (zJ s g)])) ∨
 (zJ s g = 0 ∧ ∃ Ap kp bC bM, e = .returned (.tuple #[.agg (stC (ptn s) Ap (psG s g).length kp bC bM), .int .i64 0]) ∧ ∀ W, (∀ k, w.heap.size ≤ k → k < w'.heap.size → W.heap[k]? = w'.heap[k]?) → StAt W w'.heap.size Ap bC bM (ptn s) (psG s g) (zS s)))
theorem Xx {w : World} {g : Nat} {x0 x1 x2 x3 : Value} {t : TypeId} (h : w.heap[g]? = some (.cells #[x0, x1, x2, x3] t (0, 0))) (y0 y1 y2 y3 : Value) :
  ∃ W, ((((w.setCell ⟨g, 0, none⟩ y0).setCell ⟨g, 1, none⟩ y1).setCell ⟨g, 2, none⟩ y2).setCell ⟨g, 3, none⟩ y3) = W ∧ W.heap[g]? = some (.cells #[y0, y1, y2, y3] t (0, 0)) ∧ (∀ k, k ≠ g → W.heap[k]? = w.heap[k]?) ∧ ∀ B, B ≤ g → Below B w W := by
 refine ⟨_, rfl, ?_, fun k hk => ?_, fun B hB => ?_⟩
 · have a1 := heap_setCell_same w g 0 _ _ y0 h
   have a2 := heap_setCell_same _ g 1 _ _ y1 a1
   have a3 := heap_setCell_same _ g 2 _ _ y2 a2
   have a4 := heap_setCell_same _ g 3 _ _ y3 a3
   exact a4
 · exact (Below.heap_setCell _ ⟨g, 3, none⟩ y3 k hk).trans ((Below.heap_setCell _ ⟨g, 2, none⟩ y2 k hk).trans ((Below.heap_setCell _ ⟨g, 1, none⟩ y1 k hk).trans (Below.heap_setCell _ ⟨g, 0, none⟩ y0 k hk)))
 · exact ((((Below.refl B w).setCell (by show B ≤ g; omega) y0).setCell (by show B ≤ g; omega) y1).setCell (by show B ≤ g; omega) y2).setCell (by show B ≤ g; omega) y3
theorem ZW {W W9 : World} {base : Nat} {A : Option Addr} {n c : Nat} {xs : List Int} (ho : Own W base (.slice A n c) xs) (h : ∀ k, base ≤ k → k < W.heap.size → W9.heap[k]? = W.heap[k]?) : IAt W9 W.heap.size A xs := fun h0 => by
 obtain ⟨A', c', e', _, _, hI⟩ := ho.form
 simp only [Value.slice.injEq] at e'
 obtain ⟨e1', -, -⟩ := e'
 subst e1'
 obtain ⟨b, off, e, hlt, hc⟩ := hI h0
 subst e
 have hb := (ho.lt b rfl).1
 exact ⟨b, off, rfl, hlt, fun i hi => (World.cell?_of_block (h b hb hlt)).trans (hc i hi)⟩
theorem QQ (w : World) (c1 : Array Value) (t1 : TypeId) : ∃ W0, (w.alloc (.cells c1 t1)).drew = W0 ∧ W0.heap[w.heap.size]? = some (.cells c1 t1 (0, 0)) ∧ W0.heap.size = w.heap.size + 1 ∧ Below w.heap.size w W0 :=
 ⟨_, rfl, zh w _, by show (w.alloc _).heap.size = _; simp, (zF w _).drew⟩
set_option maxRecDepth 100000 in
theorem Yu (s : Sy) (hs : LowS s) (hf : xO s.p) (g : Int) (A SV AV AX : Option Addr) (kc ks kv kx : Nat) (w : World) (hS : SyAt w w.heap.size A SV AV AX s) :
  Calls Tryz.prog 65 #[.agg (s.vs_ A kc SV ks AV kv AX kx), .int .i64 g] w (Jh s g w) := by
 obtain ⟨w1, hw1, d0, d1, hs1, hB⟩ := zW w (s.vs_ A kc SV ks AV kv AX kx) #[.int .i64 0, .slice none 0 0, .map none, .map none] 35 126
 have HV := zH (QD s hs hf A SV AV AX kc ks kv kx w1 (hS.up hB))
 have HS1 := zH (hS.up hB)
 have HVF := zH (fun h => qw hf h)
 have HXP := zH (fun h => xs_pos (s := s) hf h)
 have HCL := zH (fun (p : Nat) (X : World) (hX : Below w.heap.size w X) => Xf s hs hf (p : Int) A SV AV AX kc ks kv kx X ((hS.keep hX).more hX.size))
 have HRE : Hid (zJ s g = if xM s ≠ 0 then xM s else if g < 0 ∨ 2 ^ s.n.toNat ≤ g then 2 else 0) := rfl
 have HPN : Hid (ptn s = s.xs.length * (s.p.k.toNat + 1)) := rfl
 have HKL := zH (fun q => (by unfold zS; rw [xH, vf]; rfl : (zS s q).length = ptn s))
 have HCE : Hid (∀ p : Int, clsE s p = if xM s ≠ 0 then ([], xM s) else if p < 0 ∨ s.n ≤ p then ([], 2) else (zS s p.toNat, 0)) := fun _ => rfl
 obtain ⟨CLS, hCLS⟩ : ∃ CLS, zS s = CLS := ⟨_, rfl⟩
 unfold Jh
 rw [hCLS] at HKL HCE ⊢
 obtain ⟨r, hr⟩ : ∃ r, xM s = r := ⟨_, rfl⟩
 rw [hr] at HV HVF HXP HRE HCE
 obtain ⟨re, hre⟩ : ∃ re, zJ s g = re := ⟨_, rfl⟩
 rw [hre] at HRE ⊢
 have HPS : Hid (psG s g = zn g.toNat s.n.toNat) := rfl
 obtain ⟨PS, hPS⟩ : ∃ PS, psG s g = PS := ⟨_, rfl⟩
 rw [hPS] at HPS ⊢
 obtain ⟨PN, hPN⟩ : ∃ PN, ptn s = PN := ⟨_, rfl⟩
 rw [hPN] at HPN HKL ⊢
 unfold Sy.vs_ at hw1 d0 HV HCL ⊢
 have HW1 := zH hw1
 have HB := zH hB
 have HD := zH d0
 have HD1 := zH d1
 obtain ⟨p0, p1, p2, p3, p4, p5, p6, p7, p8, p9⟩ := zv d0
 clear hw1 d0 d1 hB hS hr hre hCLS hPN hPS hs hf
 go_enter Tryz.func65, Tryz.ntmps65
 go_wp2_with fail
 rw [HW1.out]
 go_wp2_with fail
 refine HV.out.mono ?_
 rintro e w2 ⟨rfl, hb2⟩
 have HB2 := zH (HB.out.trans (hb2.mono (by omega)))
 have HG2 := zH hb2
 have d0 := (hb2.block _ (by omega : w.heap.size < w1.heap.size)).trans HD.out
 have d1 := (hb2.block _ (by omega : w.heap.size + 1 < w1.heap.size)).trans HD1.out
 clear p0 p1 p2 p3 p4 p5 p6 p7 p8 p9 hb2 HV HW1 HD HD1
 have c0 := za d1 0 rfl
 have c1 := za d1 1 rfl
 have c2 := za d1 2 rfl
 have c3 := za d1 3 rfl
 have f0 := zb d1 0
 have f1 := zb d1 1
 have f2 := zb d1 2
 have f3 := zb d1 3
 have l1 := zd d1
 by_cases h0 : r = 0
 case neg =>
  have hR : Hid (re = r) := HRE.out.trans (if_pos h0)
  have e0 : (r != 0) = true := by simpa using h0
  have HD1 := zH d1
  clear HRE HVF d0 d1 HCL HCE HKL HXP HPN
  go_wp2_with fail
  obtain ⟨W, hW, e1, _, e3⟩ := Xx HD1.out (.int .i64 0) (.slice none 0 0) (.map none) (.map none)
  rw [hW]
  have q0 := za e1 0 rfl
  have q1 := za e1 1 rfl
  have q2 := za e1 2 rfl
  have q3 := za e1 3 rfl
  refine bodyPost_ret (v := .tuple #[yS, .int .i64 r]) (by simp [results, Tryz.results65, go_sem, q0, q1, q2, q3, yS]) rfl ?_
  rw [hR.out]
  exact ⟨HB2.out.trans (e3 _ (by omega)), .inl ⟨h0, rfl⟩⟩
 case pos =>
 subst h0
 obtain ⟨hsb, K, N, hF⟩ := HVF.out rfl
 clear hsb
 have hRE : re = if g < 0 ∨ 2 ^ s.n.toNat ≤ g then 2 else 0 := HRE.out.trans (if_neg (by simp))
 have hn := hF.n
 have hn1 := hF.n1
 have hn5 := hF.n5
 have hk := hF.k
 have hk6 := hF.k6
 have hlx := hF.lx
 have hpos := HXP.out rfl
 rw [hn, Int.toNat_natCast] at hRE
 have hPS := HPS.out
 rw [hn, Int.toNat_natCast] at hPS
 have HPS2 := zH hPS
 have HRE2 := zH hRE
 have HN := zH hn
 have HK := zH hk
 have hPN := HPN.out
 rw [hk, Int.toNat_natCast] at hPN
 have HPN2 := zH hPN
 have hPNl : 1 ≤ PN ∧ PN ≤ 600 := by
  have h1 := Nat.mul_le_mul hlx (show K + 1 ≤ 7 by omega)
  have h2 := Nat.mul_le_mul hpos (show 1 ≤ K + 1 by omega)
  omega
 have HCE2 : Hid (∀ p : Nat, p < N → clsE s (p : Int) = (CLS p, 0)) := fun p hp => by
  rw [HCE.out, if_neg (by simp), if_neg (by rw [hn]; omega), Int.toNat_natCast]
 have HDD := zH d0
 have HD1 := zH d1
 have q7 : w2.cell? ⟨w.heap.size, 7, none⟩ = some (.int .i64 (N : Int)) := by rw [← hn]; exact za d0 7 rfl
 clear HRE HVF hRE hF hn HPN hPN HCE hk d0 d1 HPS hPS
 by_cases h1 : g < 0
 case pos =>
  have hR : Hid (re = 2) := HRE2.out.trans (if_pos (.inl h1))
  clear HRE2 HCL HCE2 HKL HXP HPN2 HN HK
  go_wp2_with fail
  obtain ⟨W, hW, e1, _, e3⟩ := Xx HD1.out (.int .i64 0) (.slice none 0 0) (.map none) (.map none)
  rw [hW]
  have q0 := za e1 0 rfl
  have q1 := za e1 1 rfl
  have q2 := za e1 2 rfl
  have q3 := za e1 3 rfl
  refine bodyPost_ret (v := .tuple #[yS, .int .i64 2]) (by simp [results, Tryz.results65, go_sem, q0, q1, q2, q3, yS]) rfl ?_
  rw [hR.out]
  exact ⟨HB2.out.trans (e3 _ (by omega)), .inl ⟨by decide, rfl⟩⟩
 case neg =>
 obtain ⟨G, rfl⟩ := Int.eq_ofNat_of_zero_le (show 0 ≤ g by omega)
 rw [Int.toNat_natCast] at HPS2
 have hwT : wrap64 ((2 : Int) ^ N) = ((2 ^ N : Nat) : Int) := by
  obtain e | e | e | e | e : N = 1 ∨ N = 2 ∨ N = 3 ∨ N = 4 ∨ N = 5 := by omega
  all_goals (rw [e]; decide +kernel)
 have hT32 : 2 ^ N ≤ 32 := by
  obtain e | e | e | e | e : N = 1 ∨ N = 2 ∨ N = 3 ∨ N = 4 ∨ N = 5 := by omega
  all_goals (rw [e]; decide)
 have hG0 : ¬ ((G : Int) < 0) := by omega
 by_cases h2 : G < 2 ^ N
 case neg =>
  have hR : Hid (re = 2) := HRE2.out.trans (if_pos (.inr (by exact_mod_cast Nat.le_of_not_lt h2)))
  have hTG : wrap64 ((2 : Int) ^ N) ≤ (G : Int) := by rw [hwT]; omega
  clear HRE2 HCL HCE2 HKL HXP HPN2 HN HK hwT h2
  go_wp2_with fail
  obtain ⟨W, hW, e1, _, e3⟩ := Xx HD1.out (.int .i64 0) (.slice none 0 0) (.map none) (.map none)
  rw [hW]
  have q0 := za e1 0 rfl
  have q1 := za e1 1 rfl
  have q2 := za e1 2 rfl
  have q3 := za e1 3 rfl
  refine bodyPost_ret (v := .tuple #[yS, .int .i64 2]) (by simp [results, Tryz.results65, go_sem, q0, q1, q2, q3, yS]) rfl ?_
  rw [hR.out]
  exact ⟨HB2.out.trans (e3 _ (by omega)), .inl ⟨by decide, rfl⟩⟩
 case pos =>
  have hR : Hid (re = 0) := HRE2.out.trans (if_neg (by
   rintro (h | h)
   · omega
   · have : (2 ^ N : Nat) ≤ G := by exact_mod_cast h
     omega))
  have hTG : ¬ (wrap64 ((2 : Int) ^ N) ≤ (G : Int)) := by rw [hwT]; omega
  have q6 : w2.cell? ⟨w.heap.size, 6, none⟩ = some (.int .i64 (K : Int)) := by rw [← HK.out]; exact za HDD.out 6 rfl
  have q9 := za HDD.out 9 rfl
  have hPNI : (s.xs.length : Int) * ((K : Int) + 1) = (PN : Int) := by rw [HPN2.out]; push_cast; rfl
  have HWM : Hid (wrap64 ((s.xs.length : Int) * ((K : Int) + 1)) = (PN : Int)) := by
   show wrap64 _ = _
   rw [hPNI]
   exact IntWalk.wrap64_in _ (by omega)
  clear hPNI
  have hmm := @run_makeMap Tryz.prog
  have hG32 : G < 32 := by omega
  clear HRE2 hwT hT32
  go_upto_region 7 with fail
  rw [HWM.out]
  obtain ⟨a3, h3⟩ : ∃ a3, w2.alloc (.map #[] 0) = a3 := ⟨_, rfl⟩
  have m3 : MapOf (Value.int .i64) a3 w2.heap.size 0 (fun _ => none) := by rw [← h3]; exact MapOf.made w2
  have y3 : a3.heap.size = w2.heap.size + 1 := by rw [← h3]; simp
  have z3 : Below w2.heap.size w2 a3 := by rw [← h3]; exact zF _ _
  rw [h3]
  obtain ⟨a4, h4⟩ : ∃ a4, a3.alloc (.map #[] 0) = a4 := ⟨_, rfl⟩
  have m4 : MapOf ka a4 a3.heap.size 0 (fun _ => none) := by rw [← h4]; exact MapOf.made a3
  have y4 : a4.heap.size = a3.heap.size + 1 := by rw [← h4]; simp
  have z4 : Below a3.heap.size a3 a4 := by rw [← h4]; exact zF _ _
  rw [h4]
  obtain ⟨a5, h5, x5, y5, z5⟩ := zj a4 #[.int .i64 (PN : Int), .slice none 0 0, .map (some w2.heap.size), .map (some (w2.heap.size + 1))] 126
  rw [h5]
  have hb25 : Below w2.heap.size w2 a5 := (z3.trans (z4.mono (by omega))).trans (z5.mono (by omega))
  have hRS : RdS w.heap.size (w2.heap.size + 1 + 1) w2.heap.size (w2.heap.size + 1) PN #[.int .i64 s.p.t.n, .int .i64 s.p.t.ins, .int .i64 s.p.t.outs, .slice A s.p.t.cases.length kc, .int .i64 s.p.a.n, .slice SV s.p.a.sts.length ks, .int .i64 s.p.k, .int .i64 s.n, .slice AV s.vs.length kv, .slice AX s.xs.length kx] (.slice none 0 0) (fun _ => none) (fun _ => none) (zn G 0) (zn G 0) CLS (vi CLS (zn G 0)) w a5 := by
   refine ⟨HB2.out.trans (hb25.mono (by omega)), (hb25.block _ (by omega)).trans HDD.out, (hb25.block _ (by omega)).trans HD1.out, ?_, Own.nil _ _, ⟨0, m3.same ((z5.block _ (by omega)).trans (z4.block _ (by omega)))⟩, ⟨0, ?_⟩, fun p hp => ?_, fun x => ⟨?_, fun v z e => (by cases e)⟩, fun x y v u z e => (by cases e), by omega, by omega, by omega, by omega⟩
   · rw [show w2.heap.size + 1 + 1 = a4.heap.size by omega]; exact x5
   · rw [← y3]; exact m4.same (z5.block _ (by omega))
   · simp [zn] at hp
   · have : vi CLS (zn G 0) x = [] := by unfold vi; rw [if_neg (by simp [zn])]
     rw [this]
     exact Own.nil _ _
  obtain ⟨bX, hbX⟩ : ∃ bX, w2.heap.size + 1 + 1 = bX := ⟨_, rfl⟩
  obtain ⟨bC, hbC⟩ : ∃ bC, w2.heap.size = bC := ⟨_, rfl⟩
  obtain ⟨bM, hbM⟩ : ∃ bM, bC + 1 = bM := ⟨_, rfl⟩
  rw [hbX] at hRS ⊢
  rw [hbC] at hRS ⊢
  rw [hbM] at hRS ⊢
  have q7 : a5.cell? ⟨w.heap.size, 7, none⟩ = some (.int .i64 (N : Int)) := by rw [← HN.out]; exact za hRS.b0 7 rfl
  have HRS := zH hRS
  clear h3 m3 y3 z3 h4 m4 y4 z4 h5 x5 y5 z5 hb25 hRS hbX hbC hbM c0 c1 c2 c3 f0 f1 f2 f3 q6 q9 HDD HD1 hmm hTG hG0 h1 l1 HG2 HB2 HWM
  go_wp2_with fail
  go_loopw [44] (fun i wr => ∃ k : Nat, k ≤ N ∧ i = .int .i64 (k : Int) ∧ ∃ V f fM, Hid (RdS w.heap.size bX bC bM PN #[.int .i64 s.p.t.n, .int .i64 s.p.t.ins, .int .i64 s.p.t.outs, .slice A s.p.t.cases.length kc, .int .i64 s.p.a.n, .slice SV s.p.a.sts.length ks, .int .i64 s.p.k, .int .i64 s.n, .slice AV s.vs.length kv, .slice AX s.xs.length kx] V f fM (zn G k) (zn G k) CLS (vi CLS (zn G k)) w wr)) (fun i _ => N - (intOf i).toNat)
  case atStart => exact ⟨0, by omega, rfl, _, _, _, HRS.out⟩
  case round =>
   obtain ⟨k, hk, rfl, V, f, fM, hRS⟩ := hrel
   clear HRS q7
   by_cases hlt : k < N
   · have hb0 := bit_test0 hG32 (show k < 5 by omega)
     have hk0 : (0 : Int) ≤ (k : Int) := by omega
     have hk1 : (k : Int) < (N : Int) := by omega
     have hG00 : (0 : Int) ≤ (G : Int) := by omega
     by_cases hbit : G.testBit k = true
     case neg =>
      have hbf : G.testBit k = false := by simpa using hbit
      rw [hbf] at hb0
      have hE : zn G (k + 1) = zn G k := by rw [jj, if_neg hbit]
      have hRS2 : Hid (RdS w.heap.size bX bC bM PN #[.int .i64 s.p.t.n, .int .i64 s.p.t.ins, .int .i64 s.p.t.outs, .slice A s.p.t.cases.length kc, .int .i64 s.p.a.n, .slice SV s.p.a.sts.length ks, .int .i64 s.p.k, .int .i64 s.n, .slice AV s.vs.length kv, .slice AX s.xs.length kx] V f fM (zn G (k + 1)) (zn G (k + 1)) CLS (vi CLS (zn G (k + 1))) w wr) := by rw [hE]; exact hRS
      clear hRS hE hbit hbf
      go_wp2_with fail
      go_roundw
      case rel => exact ⟨k + 1, by omega, by go_num, V, f, fM, hRS2.out⟩
      case measure => simp [intOf]; omega
     case pos =>
      rw [hbit] at hb0
      have hE : zn G (k + 1) = zn G k ++ [k] := by rw [jj, if_pos hbit]
      have HE := zH hE
      have hnk : k ∉ zn G k := by simp [zn]
      have HNK := zH hnk
      have hbl : (zn G k).length ≤ 5 := by
       have := List.length_filter_le (fun p => G.testBit p) (List.range k)
       unfold zn; simp at this; omega
      obtain ⟨AV0, cV0, rfl, _, _, _⟩ := hRS.out.own.form
      rw [zw] at hRS
      have hc := HCL.out k wr hRS.out.below
      rw [HCE2.out k hlt] at hc
      have HC := zH hc
      obtain ⟨p0, p1, p2, p3, p4, p5, p6, p7, p8, p9⟩ := zv hRS.out.b0
      clear hE hnk hbit hc HCL
      go_wp2_with fail
      refine HC.out.mono ?_
      rintro e w3 ⟨A3, c3, rfl, ho3, hb3⟩
      have hRS3 := hRS.out.on hb3
      have hcl := HKL.out k
      have ho3' : Own w3 w.heap.size (.slice A3 PN c3) (CLS k) := by rw [← hcl]; exact ho3.low hRS.out.below.size
      have hbs3 := hb3.size
      have hnew3 : ∀ z, (Value.slice A3 PN c3).ownBlock = some z → wr.heap.size ≤ z := fun z e => (ho3.lt z (by rw [hcl]; exact e)).1
      have HO3 := zH ho3'
      have HNW3 := zH hnew3
      have HVl := zH (hRS.out.own.lt)
      have HRl := zH (fun (x : Int × Int) (v : Value) (hx : fM x = some v) (z : Nat) (hz : v.ownBlock = some z) => (by have := (hRS.out.rowM x).1; rw [hx] at this; exact (this.lt z hz).2 : z < wr.heap.size))
      have HRS3 := zH hRS3
      have HBXl := zH (zd hRS.out.bx)
      rw [hcl]
      have x1 := za hRS3.bx 1 rfl
      clear p0 p1 p2 p3 p4 p5 p6 p7 p8 p9 HC hRS3 hRS hcl ho3 ho3' hnew3 hb3
      go_upto_region 15 with (at_builtin; go_must (refine yo wT rfl _ _ (by rfl) w.heap.size (.slice AV0 (zn G k).length cV0) (zn G k).length ((zO (zn G k)).map (Value.int .i64)) (by rfl) (by have := HRS3.out.own; unfold Own at this; rw [zw] at this; exact World.ownsRow.alloc this _) w3.heap.size #[.int .i64 (k : Int)] (by rfl) (zh w3 _) rfl (by simp [Value.oneCell']) (by omega) (by have := HRS3.out.below.size; simp; omega) _ rfl ?_); intro g' cap' w4 hr4 hg4 hat4 hlt4
                              have hg34 := yE hg4
                              have hx4 := (hg34.block bX (zd HRS3.out.bx) (fun e => (HRS3.out.clear HRS3.out.kinds.2.2.1).1 e.symm)).trans HRS3.out.bx
                              have y1 := za hx4 1 rfl
                              have f1 := zb hx4 1
                              have l1 := zd hx4
                              have HR4 := zH hr4
                              have HG34 := zH hg34
                              have HAT4 := zH hat4
                              clear hr4 hg4 hat4 hg34 hx4)
      have hown4 : Own w4 w.heap.size (.slice (some ⟨g', 0, none⟩) ((zn G k).length + 1) cap') (zO (zn G k ++ [k])) := by
       have h4 := HR4.out
       unfold OwnR at h4
       unfold Own
       rw [zw, List.length_append, List.length_singleton, show (zO (zn G k ++ [k])).map (Value.int .i64) = (zO (zn G k)).map (Value.int .i64) ++ (#[Value.int .i64 (k : Int)]).toList by simp [zO]]
       exact h4
      have hat5 : (Value.slice (some ⟨g', 0, none⟩) ((zn G k).length + 1) cap').ownBlock = (Value.slice AV0 (zn G k).length cV0).ownBlock ∨ ∃ z, (Value.slice (some ⟨g', 0, none⟩) ((zn G k).length + 1) cap').ownBlock = some z ∧ w3.heap.size ≤ z := by
       rcases HAT4.out with h | h
       · exact .inl h.symm
       · exact .inr ⟨g', rfl, by rw [h]; simp⟩
      have hRS5 := HRS3.out.proc (p := k) HG34.out hown4 hat5
      obtain ⟨w5, hw5⟩ : ∃ w5, w4.setCell ⟨bX, 1, none⟩ (.slice (some ⟨g', 0, none⟩) ((zn G k).length + 1) cap') = w5 := ⟨_, rfl⟩
      rw [hw5] at hRS5 ⊢
      obtain ⟨g3, hg3⟩ : ∃ g3, A3 = some ⟨g3, 0, none⟩ := by
       rcases HO3.out.2 with ⟨e, h0⟩ | ⟨g, cap, cur, e, _⟩
       · injection e with _ e1 _
         have := hPNl.1
         omega
       · injection e with e1 _ _
         exact ⟨g, e1⟩
      subst hg3
      have hg3w : wr.heap.size ≤ g3 := HNW3.out g3 rfl
      have hg3l : g3 < w3.heap.size := (HO3.out.lt g3 rfl).2
      have hbXl := HBXl.out
      have h53 : w5.heap[g3]? = w3.heap[g3]? := by
       rw [← hw5]
       exact (Below.heap_setCell w4 ⟨bX, 1, none⟩ _ g3 (by show g3 ≠ bX; omega)).trans (HG34.out.block g3 hg3l (fun e => by have := (HVl.out g3 e.symm).2; omega))
      have HO5 : Hid (Own w5 w.heap.size (.slice (some ⟨g3, 0, none⟩) PN c3) (CLS k)) := xp HO3.out fun z e => by
       have : g3 = z := by simpa [Value.ownBlock] using e
       subst this
       exact h53
      have HV5 : Hid ((Value.slice (some ⟨g', 0, none⟩) ((zn G k).length + 1) cap').ownBlock ≠ some g3) := fun e => by
       have e9 : g' = g3 := by simpa [Value.ownBlock] using e
       rcases HAT4.out with h | h
       · have := (HVl.out g' h).2; omega
       · simp at h; omega
      have HM5 : Hid (∀ x v, fM x = some v → v.ownBlock ≠ some g3) := fun x v hx e => by have := HRl.out x v hx g3 e; omega
      have htC : Tryz.prog.underlying 123 = some (.map 3 38) := Tryz.underlying123
      have HTM : Hid (Tryz.prog.underlying 124 = some (.map 75 38)) := Tryz.underlying124
      obtain ⟨mc, hmc⟩ := hRS5.mC
      obtain ⟨w6, hrun6, hm6, hg6⟩ := hmc.put kH htC (k : Int) (.slice (some ⟨g3, 0, none⟩) PN c3)
      have hRS6 := hRS5.put (p := k) hg6 hm6 HO5.out HV5.out HM5.out
      rw [← JS (cls := CLS) HNK.out] at hRS6
      have hFk : qy f (k : Int) (.slice (some ⟨g3, 0, none⟩) PN c3) (k : Int) = some (.slice (some ⟨g3, 0, none⟩) PN c3) := by simp [qy]
      obtain ⟨F, hF⟩ : ∃ F, qy f (k : Int) (.slice (some ⟨g3, 0, none⟩) PN c3) = F := ⟨_, rfl⟩
      rw [hF] at hRS6 hFk
      have HRS6 := zH hRS6
      have HFK := zH hFk
      have z2 := za hRS5.bx 2 rfl
      clear hRS6 hFk hF hm6 hg6 hmc htC hRS5 hw5 hown4 hat5 h53 HO5 HV5 HM5 HBXl HR4 HG34 HAT4 HRS3 HVl HRl HNW3 HO3 hg3w hg3l hbXl y1 f1 l1 x1 hlt4
      go_wp2_with fail
      go_loopw [74] (fun i wq => ∃ j : Nat, j ≤ PN ∧ i = .int .i64 (j : Int) ∧ ∃ fM, Hid (RdS w.heap.size bX bC bM PN #[.int .i64 s.p.t.n, .int .i64 s.p.t.ins, .int .i64 s.p.t.outs, .slice A s.p.t.cases.length kc, .int .i64 s.p.a.n, .slice SV s.p.a.sts.length ks, .int .i64 s.p.k, .int .i64 s.n, .slice AV s.vs.length kv, .slice AX s.xs.length kx] (.slice (some ⟨g', 0, none⟩) ((zn G k).length + 1) cap') F fM (zn G k ++ [k]) (zn G k ++ [k]) CLS (vU CLS (zn G k) k j) w wq)) (fun i _ => PN - (intOf i).toNat)
      case atStart => exact ⟨0, by omega, rfl, fM, HRS6.out⟩
      case round =>
       obtain ⟨j, hj, rfl, fM, hRj⟩ := hrel
       clear HRS6 hrun6 z2
       by_cases hjl : j < PN
       · obtain ⟨g9, c9, e9, ho9, hv9, hm9⟩ := hRj.out.rowC k (by simp)
         have e99 := HFK.out.symm.trans e9
         simp only [Option.some.injEq, Value.slice.injEq, Addr.mk.injEq, and_true, true_and] at e99
         obtain ⟨e91, e92⟩ := e99
         subst e91
         subst e92
         have hcl := HKL.out k
         have hjc : j < (CLS k).length := by omega
         obtain ⟨A8, c8, e8, _, _, hI8⟩ := ho9.form
         simp only [Value.slice.injEq] at e8
         obtain ⟨e81, -, -⟩ := e8
         subst e81
         obtain ⟨b8, o8, e82, _, z8⟩ := hI8.at_ j hjc
         simp only [Option.some.injEq, Addr.mk.injEq, and_true] at e82
         obtain ⟨rfl, rfl⟩ := e82
         obtain ⟨y, hy⟩ : ∃ y, (CLS k)[j] = y := ⟨_, rfl⟩
         rw [hy, Nat.zero_add] at z8
         have hsuc := JT (dn := zn G k) hjc
         rw [hy] at hsuc
         have HSUC := zH hsuc
         obtain ⟨A4, c4, e4, hle4, hm4, _⟩ := (hRj.out.rowM (y, (k : Int))).1.form
         have hml : (vU CLS (zn G k) k j (y, (k : Int))).length ≤ 700 := by
          have : vU CLS (zn G k) k j (y, (k : Int)) = kS ((CLS k).take j) y := if_pos rfl
          rw [this]
          unfold kS
          refine Nat.le_trans (List.length_filter_le _ _) ?_
          simp; omega
         have hrow := (hRj.out.rowM (y, (k : Int))).1
         rw [e4] at hrow
         rw [zw] at e4 hrow hle4
         obtain ⟨ML, hML⟩ : ∃ ML, vU CLS (zn G k) k j (y, (k : Int)) = ML := ⟨_, rfl⟩
         rw [hML] at e4 hrow hml
         have HML := zH hML
         have HROW := zH hrow
         have HE4 := zH e4
         obtain ⟨mm, hmm⟩ := hRj.out.mM
         have HMM := zH hmm
         have HLK : Hid (∀ X : World, X.heap[bM]? = wr.heap[bM]? → (Instr.lookup 124 (.map (some bM)) (.agg #[.int .i64 y, .int .i64 (k : Int)]) false).run Tryz.prog X = .ok (.slice A4 ML.length c4) X) := fun X hX => by
          have := (HMM.out.same hX).look wk HTM.out (z := .slice none 0 0) (by kernel_rfl) (y, (k : Int))
          rw [HE4.out] at this
          exact this
         have hj0 : (0 : Int) ≤ (j : Int) := by omega
         have hj1 : (j : Int) < (PN : Int) := by omega
         clear e9 ho9 hv9 hm9 hcl hI8 hsuc hML hrow e4 hmm hle4 hm4 hy hjc
         go_wp2_with fail
         refine zo [(0, true), (1, true), (2, true), (3, true), (4, true), (5, true), (6, true), (7, true), (8, true), (9, true), (10, true), (11, true), (12, false), (13, false), (14, false)] (fun X => X.heap[bX]? = some (.cells #[.int .i64 (PN : Int), .slice (some ⟨g', 0, none⟩) ((zn G k).length + 1) cap', .map (some bC), .map (some bM)] 126 (0, 0)) ∧ X.heap[bM]? = wr.heap[bM]?) (by kernel_rfl) (by kernel_rfl) ⟨hRj.out.bx, rfl⟩ ?_
         clear z8
         repeat
          apply zt rfl
          · rintro K' hK' X ⟨u1, u2⟩
            have u3 : X.cell? ⟨bX, 3, none⟩ = some (.map (some bM)) := za u1 3 rfl
            have hlk := HLK.out X u2
            clear u1 u2
            go_simp
            exact hK'
         have hbX2 := zd hRj.out.bx
         have hbM2 := HMM.out.lt
         have hwB := hRj.out.below.size
         refine zB rfl ?_
         intro K' hK'
         go_simp
         obtain ⟨W1, hW1, d1, hs1, hb1⟩ := QQ wr #[.int .i64 (j : Int)] 3
         rw [hW1]
         have m1 := (hb1.block _ hbX2).trans hRj.out.bx
         have m2 := hb1.block _ hbM2
         refine hK' _ _ ⟨m1, m2⟩ ?_
         clear hK' K' hW1
         refine zB rfl ?_
         intro K' hK'
         rw [if_pos (by rfl)]
         have hro1 := HROW.out.below hb1 (Nat.le_refl _)
         have HRO1 : Hid (OwnR kIn W1 w.heap.size (.slice A4 ML.length c4) ML.length ((zO ML).map (Value.int .i64))) := by
          have h9 := hro1
          unfold Own at h9
          rw [zw] at h9
          exact h9
         refine jl wT (.tmp 89) (.tmp 91) (by rfl) w.heap.size (.slice A4 ML.length c4) ML.length ((zO ML).map (Value.int .i64)) (by rfl) HRO1.out wr.heap.size #[.int .i64 (j : Int)] (by rfl) d1 rfl (by simp [Value.oneCell']) (by omega) (by omega) _ rfl ?_
         intro g'' cap'' W2 hr2 hg2 hat2 hlt2
         have hVne : ∀ q, q = bX ∨ q = bM → (Value.slice A4 ML.length c4).ownBlock ≠ some q := fun q hq e => by
          have h7 : ((fM (y, (k : Int))).getD (.slice none 0 0)).ownBlock = some q := by rw [HE4.out]; exact e
          rcases hq with rfl | rfl
          · exact (hRj.out.clear hRj.out.kinds.2.2.1).2.2 _ h7
          · exact (hRj.out.clear hRj.out.kinds.2.2.2.2).2.2 _ h7
         have n1 := (hg2.block bX (by omega) (fun e => hVne bX (.inl rfl) e.symm)).trans m1
         have n2 := (hg2.block bM (by omega) (fun e => hVne bM (.inr rfl) e.symm)).trans m2
         refine hK' _ _ ⟨n1, n2⟩ ?_
         clear hK' K'
         obtain ⟨W3, hrun3, hm3, hg3⟩ := (HMM.out.same n2).put wk HTM.out (y, (k : Int)) (.slice (some ⟨g'', 0, none⟩) (ML.length + 1) cap'')
         refine yZ rfl (by kernel_rfl) ?_
         intro K' hK'
         simp only [ka] at hrun3
         go_simp
         refine hK' (fun _ => True) _ _ trivial ?_
         refine zG ?_
         clear hK' K' hrun3
         have hg02 : wr.grownBy W2 ((fM (y, (k : Int))).getD (.slice none 0 0)).ownBlock := by
          rw [HE4.out]
          exact ⟨hg2.os.trans hb1.os, hg2.tape.trans hb1.tape, hg2.output.trans hb1.output, by have := hg2.size; omega, fun q hq hn => (hg2.block q (by omega) hn).trans (hb1.block q hq)⟩
         have ho2 : Own W2 w.heap.size (.slice (some ⟨g'', 0, none⟩) (ML.length + 1) cap'') (zO (vU CLS (zn G k) k j (y, (k : Int)) ++ [j])) := by
          rw [HML.out]
          unfold Own
          rw [zw, List.length_append, List.length_singleton, show (zO (ML ++ [j])).map (Value.int .i64) = (zO ML).map (Value.int .i64) ++ (#[Value.int .i64 (j : Int)]).toList by simp [zO]]
          exact hr2
         have hat9 : (Value.slice (some ⟨g'', 0, none⟩) (ML.length + 1) cap'').ownBlock = ((fM (y, (k : Int))).getD (.slice none 0 0)).ownBlock ∨ ∃ z, (Value.slice (some ⟨g'', 0, none⟩) (ML.length + 1) cap'').ownBlock = some z ∧ wr.heap.size ≤ z := by
          rcases hat2 with h | h
          · rw [HE4.out]; exact .inl h.symm
          · exact .inr ⟨g'', rfl, by omega⟩
         have hRn := hRj.out.member (x0 := (y, (k : Int))) (i := j) hg02 ho2 hat9 hg3 hm3
         rw [HSUC.out] at hRn
         have HRN := zH hRn
         clear hg02 ho2 hat9 hRn hm3 hg3 hr2 hg2 hat2 hlt2 n1 n2 hVne HRO1 hro1 m1 m2 d1 hs1 hb1 HLK HMM HE4 HROW HML hRj hbX2 hbM2 hwB
         go_wp2_with fail
         go_roundw
         case rel => exact ⟨j + 1, by omega, by go_num, _, HRN.out⟩
         case measure => simp [intOf]; omega
       · obtain rfl : j = PN := by omega
         have hRe := hRj.out
         rw [memP_end (HKL.out k), ← HE.out] at hRe
         have hll : (zn G k).length + 1 = (zn G (k + 1)).length := by rw [HE.out]; simp
         rw [hll] at hRe
         have HRe := zH hRe
         clear hRe hRj HFK hll
         go_wp2_with fail
         go_roundw
         case rel => exact ⟨k + 1, by omega, by go_num, _, _, _, HRe.out⟩
         case measure => simp [intOf]; omega
   · obtain rfl : k = N := by omega
     have hRS9 := hRS.out
     rw [HPS2.out.symm] at hRS9
     have hlen9 : ∀ p ∈ PS, (CLS p).length = PN := fun p _ => HKL.out p
     obtain ⟨AV0, cV0, rfl, _, _, hI9⟩ := hRS9.own.form
     rw [zw] at hRS9
     have HRS9 := zH hRS9
     have HI9 := zH hI9
     have c0 := za hRS9.bx 0 rfl
     have c1 := za hRS9.bx 1 rfl
     have c2 := za hRS9.bx 2 rfl
     have c3 := za hRS9.bx 3 rfl
     have f0 := zb hRS9.b1 0
     have f1 := zb hRS9.b1 1
     have f2 := zb hRS9.b1 2
     have f3 := zb hRS9.b1 3
     have l1 := zd hRS9.b1
     have g0 := za hRS9.b1 0 rfl
     have g1 := za hRS9.b1 1 rfl
     have g2 := za hRS9.b1 2 rfl
     have g3 := za hRS9.b1 3 rfl
     have HD9 := zH hRS9.b1
     clear hRS hRS9 hI9 HCL HCE2 HPS2
     go_wp2_with fail
     obtain ⟨W, hW, e1, e2, e3⟩ := Xx HD9.out (.int .i64 (PN : Int)) (.slice AV0 PS.length cV0) (.map (some bC)) (.map (some bM))
     rw [hW]
     have q0 := za e1 0 rfl
     have q1 := za e1 1 rfl
     have q2 := za e1 2 rfl
     have q3 := za e1 3 rfl
     refine bodyPost_ret (v := .tuple #[.agg #[.int .i64 (PN : Int), .slice AV0 PS.length cV0, .map (some bC), .map (some bM)], .int .i64 0]) (by simp [results, Tryz.results65, go_sem, q0, q1, q2, q3]) rfl ?_
     have hsz : W.heap.size = wr.heap.size := by rw [← hW]; simp [World.setCell]
     have hrowk : ∀ {v : Value} {xs : List Int}, Own wr w.heap.size v xs → Own W w.heap.size v xs := fun {v xs} ho => xp ho fun z e => e2 z (by
      rintro rfl
      rcases ho.2 with ⟨rfl, _⟩ | ⟨g, cap, cur, rfl, hb, hgg, rest⟩
      · cases e
      · have : g = w.heap.size + 1 := by simpa [Value.ownBlock] using e
        subst this
        exact HRS9.out.kinds.2.1 _ hgg)
     obtain ⟨a1, a2, a3, a4⟩ := HRS9.out.apart
     obtain ⟨mC, hmC⟩ := HRS9.out.mC
     obtain ⟨mM, hmM⟩ := HRS9.out.mM
     refine ⟨HRS9.out.below.trans (e3 _ (by omega)), .inr ⟨hR.out, AV0, cV0, bC, bM, rfl, fun W9 h9 => ⟨?_, ?_, ?_, ⟨mC, f, (hmC.same (e2 bC a3)).same (h9 bC (by have := HRS9.out.lC; omega) (by rw [hsz]; exact hmC.lt)), fun p hp => ?_⟩, ⟨mM, fM, (hmM.same (e2 bM a4)).same (h9 bM (by have := HRS9.out.lM; omega) (by rw [hsz]; exact hmM.lt)), fun p hp q => ?_⟩, hlen9⟩⟩⟩
     · exact ZW (hrowk HRS9.out.own) h9
     · rw [hsz]; exact hmC.lt
     · rw [hsz]; exact hmM.lt
     · obtain ⟨g, c, ef, ho, _, _⟩ := HRS9.out.rowC p hp
       exact ⟨_, c, ef, ZW (hrowk ho) h9⟩
     · have ho := (HRS9.out.rowM (q, (p : Int))).1
       have hmd : vi CLS PS (q, (p : Int)) = kS (CLS p) q := by
        unfold vi
        rw [if_pos ⟨by omega, by simpa using hp⟩]
        simp
       rw [hmd] at ho
       obtain ⟨A', c', e', _, _, _⟩ := ho.form
       rw [e'] at ho
       rw [zw] at e'
       exact ⟨A', c', e', ZW (hrowk ho) h9⟩
end
section
open Go.RowKit Go.Shelf
attribute [local go_sem] Oper.semAt_some
theorem YK (n : Nat) (Ap : Option Addr) (m kp bC bM : Nat) (i : Int) (w : World) : Calls Tryz.prog 74 #[.agg (stC n Ap m kp bC bM), .int .i64 i] w fun e w' =>
  e = .returned (.func (.func 131) #[] #[.pointer (some ⟨w.heap.size, 0, none⟩), .pointer (some ⟨w.heap.size + 1, 0, none⟩)]) ∧ (w.alloc (.cells (stC n Ap m kp bC bM) 126)).alloc (.cells #[.int .i64 i] 3) = w' := by
 unfold stC
 go_enter Tryz.func74, Tryz.ntmps74
 go_wp2
 go_ret
 exact ⟨rfl, rfl⟩
def qa (l : List Nat) (p t : Nat) : List (Nat × Nat) := (l.drop t).map fun k => (k, p)
theorem Z3 {l : List Nat} {p t : Nat} (h : t < l.length) : qa l p t = (l[t], p) :: qa l p (t + 1) := by
 unfold qa; rw [List.drop_eq_getElem_cons h]; rfl
theorem YR {l : List Nat} {p t : Nat} (h : t = l.length) : qa l p t = [] := by subst h; unfold qa; rw [List.drop_length]; rfl
theorem nbr_drop {ps : List Nat} {cls : Nat → List Int} {i j : Nat} (h : j < ps.length) : zL (ps.drop j) cls i = qa (kS (cls ps[j]) ((cls ps[j]).getD i 0)) ps[j] 0 ++ zL (ps.drop (j + 1)) cls i := by
 rw [List.drop_eq_getElem_cons h]
 unfold zL qa
 rw [List.flatMap_cons, List.drop_zero]
theorem uU (l : List Nat) (i : Nat) (h : i < (zO l).length) : (zO l)[i] = ((l[i]'(by simpa [zO] using h) : Nat) : Int) := by simp [zO]
set_option maxRecDepth 100000 in
theorem Zm (n i : Nat) (hn : n ≤ 100000) (hi : i < n) (Ap : Option Addr) (kp bC bM : Nat) (ps : List Nat) (hpl : ps.length ≤ 100) (cls : Nat → List Int) (B bx bp : Nat) (w : World) (hx : w.heap[bx]? = some (.cells (stC n Ap ps.length kp bC bM) 126 (0, 0)))
  (hp : w.heap[bp]? = some (.cells #[.int .i64 (i : Int)] 3 (0, 0))) (hS : StAt w B Ap bC bM n ps cls) (hB : B ≤ w.heap.size) :
  QB Tryz.prog 131 #[.pointer (some ⟨bx, 0, none⟩), .pointer (some ⟨bp, 0, none⟩)] (fun x : Nat × Nat => #[.agg #[.int .i64 x.1, .int .i64 x.2]]) (fun k => k < B ∨ k = bx ∨ k = bp) (zL ps cls i) w := fun n' hn' l J Jx W hW hJ hJx hY h0 => by
 have hbx : bx < w.heap.size := zd hx
 have hbp : bp < w.heap.size := zd hp
 have hx0 := (hW.block bx hbx).trans hx
 have hp0 := (hW.block bp hbp).trans hp
 have HS0 := zH (hS.same (w' := W) fun k hk => hW.block k (by omega))
 have HY := zH hY
 have H0 := zH h0
 have HX0 := zH hx0
 have HP0 := zH hp0
 have hBs : B ≤ W.heap.size := Nat.le_trans hB hW.size
 have hxW : bx < W.heap.size := Nat.lt_of_lt_of_le hbx hW.size
 have hpW : bp < W.heap.size := Nat.lt_of_lt_of_le hbp hW.size
 have hz3 : ∀ W : World, (zeroValue 38).run Tryz.prog W = .ok (.slice none 0 0) W := fun W => by kernel_rfl
 have ht1 : Tryz.prog.underlying 123 = some (.map 3 38) := Tryz.underlying123
 have ht2 : Tryz.prog.underlying 124 = some (.map 75 38) := Tryz.underlying124
 have q1 : W.cell? ⟨bx, 1, none⟩ = some (.slice Ap ps.length kp) := za hx0 1 rfl
 clear hY hS hJx h0 hx0 hp0 hx hp hW hB hbx hbp
 refine callsIn_of_wp Tryz.func131 rfl trivial ?_ rfl
 simp only [Tryz.ntmps131, List.size_toArray, List.length_cons, List.length_nil, Nat.reduceAdd, Nat.reduceSub, Array.replicate_succ, Array.replicate_zero, List.push_toArray, List.append_toArray, List.nil_append, List.cons_append]
 gi_wp2
 gi_loopw [11] (fun q wr => ∃ j : Nat, j ≤ ps.length ∧ q = .int .i64 (j : Int) ∧ ∃ pre : List { x : Nat × Nat // x ∈ zL ps cls i }, Hid (pre.map (·.1) ++ zL (ps.drop j) cls i = zL ps cls i) ∧ Hid (J pre wr) ∧ Hid (StAt wr B Ap bC bM n ps cls) ∧ Hid (wr.heap[bx]? = some (.cells (stC n Ap ps.length kp bC bM) 126 (0, 0))) ∧ Hid (wr.heap[bp]? = some (.cells #[.int .i64 (i : Int)] 3 (0, 0))) ∧ W.heap.size ≤ wr.heap.size) (fun q _ => ps.length - (intOf q).toNat)
 case atStart => exact ⟨0, by omega, rfl, [], by simp [Hid], H0, HS0, HX0, HP0, Nat.le_refl _⟩
 case round =>
  obtain ⟨j, hj, rfl, pre, hpr, hJ0, hSr, hXr, hPr, hsz⟩ := hrel
  clear q1 HX0 HP0 HS0 H0
  by_cases hlt : j < ps.length
  · have hdr := nbr_drop (cls := cls) (i := i) hlt
    obtain ⟨p, hpp⟩ : ∃ p, ps[j] = p := ⟨_, rfl⟩
    have hpm : p ∈ ps := by rw [← hpp]; exact List.getElem_mem hlt
    rw [hpp] at hdr
    have hpr2 := hpr.out
    rw [hdr] at hpr2
    have hcl := hSr.out.len p hpm
    obtain ⟨kk, hkk⟩ : ∃ kk, (cls p).getD i 0 = kk := ⟨_, rfl⟩
    obtain ⟨ml, hml⟩ : ∃ ml, kS (cls p) kk = ml := ⟨_, rfl⟩
    rw [hkk, hml] at hpr2
    have HP := zH hpr2
    obtain ⟨bpr, opr, ePr, hbpr, zp⟩ := hSr.out.procs.at_ j (by simpa [zO] using hlt)
    rw [uU, hpp] at zp
    subst ePr
    have hj0 : (0 : Int) ≤ (j : Int) := by omega
    have hj1 : (j : Int) < (ps.length : Int) := by omega
    obtain ⟨m1, f1, hM1, hf1⟩ := hSr.out.cl
    obtain ⟨A1, c1, e1, hI1⟩ := hf1 p hpm
    obtain ⟨m2, f2, hM2, hf2⟩ := hSr.out.mb
    obtain ⟨A2, c2, e2, hI2⟩ := hf2 p hpm kk
    rw [hml] at e2 hI2
    have hlk1 := (show MapOf (Value.int .i64) wr.drew bC m1 f1 from hM1).look kH ht1 (hz3 _) (p : Int)
    rw [e1] at hlk1
    simp only [Option.getD_some] at hlk1
    have hlk2 := (show MapOf ka wr.drew bM m2 f2 from hM2).look wk ht2 (hz3 _) (kk, (p : Int))
    rw [e2] at hlk2
    simp only [ka] at hlk2
    obtain ⟨b1, o1, eA1, hb1, zc⟩ := hI1.at_ i (by omega)
    subst eA1
    have hgv : (cls p)[i]'(by omega) = kk := by rw [← hkk, zD (by omega)]
    rw [hgv] at zc
    have hI2' := zH hI2
    have hmlen : ml.length ≤ 100000 := by
     rw [← hml]; unfold kS
     refine Nat.le_trans (List.length_filter_le _ _) ?_
     simp; omega
    have g1 : wr.drew.cell? ⟨bx, 2, none⟩ = some (.map (some bC)) := za hXr.out 2 rfl
    have g2 : wr.drew.cell? ⟨bx, 3, none⟩ = some (.map (some bM)) := za hXr.out 3 rfl
    have g3 : wr.drew.cell? ⟨bp, 0, none⟩ = some (.int .i64 (i : Int)) := za hPr.out 0 rfl
    have g4 : wr.drew.cell? ⟨b1, o1 + i, none⟩ = some (.int .i64 kk) := zc
    have hi0 : (0 : Int) ≤ (i : Int) := by omega
    have hi1 : (i : Int) < (n : Int) := by omega
    clear hdr hpr hpr2 hM1 hf1 hM2 hf2 e1 e2 hI1 hI2 zc hgv hcl hkk hml hpp
    gi_wp2_with fail
    refine wpIn_wide.2 ?_
    refine zo [(0, true), (1, true), (2, true), (3, true), (4, true), (5, true), (6, true), (7, true), (8, true), (9, true), (10, true), (11, true), (12, true), (13, true)] (fun X => X = wr.drew) (by kernel_rfl) (by kernel_rfl) rfl ?_
    repeat
     apply zt rfl
     · rintro K' hK' X rfl
       go_simp
       exact hK'
    refine zG ?_
    clear hlk1 hlk2 g1 g2 g3 g4 zp
    obtain ⟨wq, hwq⟩ : ∃ wq, wr.drew = wq := ⟨_, rfl⟩
    have hszq : W.heap.size ≤ wq.heap.size := by rw [← hwq]; exact hsz
    have HSq : Hid (StAt wq B (some ⟨bpr, opr, none⟩) bC bM n ps cls) := by rw [← hwq]; exact hSr.out.same fun _ _ => rfl
    have HXq : Hid (wq.heap[bx]? = some (.cells (stC n (some ⟨bpr, opr, none⟩) ps.length kp bC bM) 126 (0, 0))) := by rw [← hwq]; exact hXr.out
    have HPq : Hid (wq.heap[bp]? = some (.cells #[.int .i64 (i : Int)] 3 (0, 0))) := by rw [← hwq]; exact hPr.out
    have HIq : Hid (IAt wq B A2 (zO ml)) := by rw [← hwq]; exact hI2'.out.sameB fun _ _ => rfl
    have HJq : Hid (J pre wq) := by rw [← hwq]; exact hJ pre wr wr.drew none hJ0.out ⟨rfl, rfl, rfl, Nat.le_refl _, fun _ _ _ => rfl⟩ (fun r e => by cases e)
    rw [hwq]
    clear hwq hSr hXr hPr hI2' hJ0 hsz hb1
    gi_wp2_with fail
    gi_loopw [28] (fun q wr => ∃ t : Nat, t ≤ ml.length ∧ q = .int .i64 (t : Int) ∧ ∃ pre : List { x : Nat × Nat // x ∈ zL ps cls i }, Hid (pre.map (·.1) ++ (qa ml p t ++ zL (ps.drop (j + 1)) cls i) = zL ps cls i) ∧ Hid (J pre wr) ∧ Hid (StAt wr B (some ⟨bpr, opr, none⟩) bC bM n ps cls) ∧ Hid (IAt wr B A2 (zO ml)) ∧ Hid (wr.heap[bx]? = some (.cells (stC n (some ⟨bpr, opr, none⟩) ps.length kp bC bM) 126 (0, 0))) ∧ Hid (wr.heap[bp]? = some (.cells #[.int .i64 (i : Int)] 3 (0, 0))) ∧ W.heap.size ≤ wr.heap.size) (fun q _ => ml.length - (intOf q).toNat)
    case atStart => exact ⟨0, by omega, rfl, pre, HP, HJq, HSq, HIq, HXq, HPq, hszq⟩
    case round =>
     clear HP HSq HIq HXq HPq HJq
     obtain ⟨t, htl, rfl, pre, hpr, hJ0, hSr, hIr, hXr, hPr, hsz⟩ := hrel
     by_cases hlt2 : t < ml.length
     · obtain ⟨b2, o2, eA2, hb2, z2⟩ := hIr.out.at_ t (by simpa [zO] using hlt2)
       rw [uU] at z2
       subst eA2
       have hp2 : pre.map (·.1) ++ ((ml[t], p) :: (qa ml p (t + 1) ++ zL (ps.drop (j + 1)) cls i)) = zL ps cls i := by
        have := hpr.out
        rw [Z3 hlt2, List.cons_append] at this
        exact this
       obtain ⟨v, hv⟩ : ∃ v, ml[t] = v := ⟨_, rfl⟩
       rw [hv] at hp2 z2
       have hmem : (v, p) ∈ zL ps cls i := by rw [← hp2]; simp
       have hlen : pre.length < (zL ps cls i).length := by
        have := congrArg List.length hp2
        simp only [List.length_append, List.length_map, List.length_cons] at this
        omega
       obtain ⟨fn, tmps, assign, body, hy, hR⟩ := HY.out pre ⟨(v, p), hmem⟩ _ hJ0.out hlen
       dsimp only at hy
       have HP2 : Hid ((pre ++ [(⟨(v, p), hmem⟩ : { x : Nat × Nat // x ∈ zL ps cls i })]).map (·.1) ++ (qa ml p (t + 1) ++ zL (ps.drop (j + 1)) cls i) = zL ps cls i) := by
        rw [List.map_append, List.append_assoc]
        exact hp2
       have HR := zH hR
       have ht0 : (0 : Int) ≤ (t : Int) := by omega
       have ht3 : (t : Int) < (ml.length : Int) := by omega
       clear hp2 hpr hR hv
       gi_wp2_with fail
       refine HR.out.mono ?_
       rintro e W3 (⟨rfl, hJ3, hk3⟩ | ⟨rfl, hJx3⟩)
       · have hs1 : wr.heap.size ≤ W3.heap.size := hk3.size
         have S3 := zH (hSr.out.same (fun k hk => hk3.same k (.inl hk) (by omega)))
         have I3 := zH (hIr.out.sameB (fun k hk => hk3.same k (.inl hk) (by omega)))
         have X3 := zH ((hk3.same bx (.inr (.inl rfl)) (by omega)).trans hXr.out)
         have P3 := zH ((hk3.same bp (.inr (.inr rfl)) (by omega)).trans hPr.out)
         have J3 := zH hJ3
         have hsz3 : W.heap.size ≤ W3.heap.size := by omega
         clear hk3 hJ3 hs1 z2
         gi_wp2_with fail
         go_roundw
         case rel => exact ⟨t + 1, by omega, by go_num, _, HP2, J3, S3, I3, X3, P3, hsz3⟩
         case measure => simp [intOf]; omega
       · gi_wp2_with fail
         refine bodyPost_ret (results_none rfl _ _ _) rfl ?_
         refine ⟨⟨_, rfl⟩, .inr ⟨_, ?_, hJx3⟩⟩
         exact ⟨_, HP2.out⟩
     · obtain rfl : t = ml.length := by omega
       have HP : Hid (pre.map (·.1) ++ zL (ps.drop (j + 1)) cls i = zL ps cls i) := by have := hpr.out; rwa [YR rfl, List.nil_append] at this
       clear hpr
       gi_wp2_with fail
       go_roundw
       case rel => exact ⟨j + 1, by omega, by go_num, pre, HP, hJ0, hSr, hXr, hPr, hsz⟩
       case measure => simp [intOf]; omega
  · obtain rfl : ps.length = j := by omega
    have HP : Hid (pre.map (·.1) = zL ps cls i) := by have := hpr.out; rwa [List.drop_length, show zL [] cls i = [] from rfl, List.append_nil] at this
    clear hpr
    gi_wp2_with fail
    go_end0
    exact ⟨⟨_, rfl⟩, .inl ⟨pre, HP.out, hJ0.out⟩⟩
end
section
open Go.RowKit
theorem made_row (n : Nat) : madeCells #[.int .i64 0] (n * 1) = ((List.replicate n 0).map (Value.int .i64)).toArray := by
 unfold madeCells
 apply Array.ext
 · simp
 · intro i h1 h2
   simp [Nat.mod_one]
theorem Zp (n : Nat) (hn : n ≤ 100000) (W : World) : (Instr.makeSlice 38 (.int .i64 n) (.int .i64 n)).run Tryz.prog W = .ok (.slice (some ⟨W.heap.size, 0, none⟩) n n) (W.alloc (.cells ((List.replicate n 0).map (Value.int .i64)).toArray 3)) := by
 obtain ⟨i0, hi, hz0, hz1, hz2⟩ := yD wT
 have hb : i0.bytes = 8 := hz2
 have hs : i0.size = 1 := hz1
 have h := run_make (P := Tryz.prog) W 38 3 i0 (.int .i64 0) Tryz.underlying38 hi hz0 .i64 .i64 (n : Int) (n : Int) (by omega) (Int.le_refl _) (by rw [hb]; omega) (by omega)
 rw [h, hs]
 simp only [Int.toNat_natCast]
 rw [show (Value.int .i64 0).cells = #[.int .i64 0] from rfl, made_row]
set_option maxRecDepth 100000 in
theorem uz (n b : Nat) (h1 : 1 ≤ n) (h5 : n ≤ 100000) (u : Int) (w : World) (hb : w.heap[b]? = some (.cells #[.int .i64 u] 3 (0, 0))) :
  Calls Tryz.prog 118 #[.slice (some ⟨b, 0, none⟩) 1 1, .int .i64 n] w fun e w' => ∃ g, e = .returned (.slice (some ⟨g, 0, none⟩) n n) ∧ w.heap.size ≤ g ∧ RowAt w' g (List.replicate n u) ∧ Below w.heap.size w w' := by
 have hmk := Zp n h5
 obtain ⟨ar, har⟩ : ∃ ar : List Value, (List.replicate n 0).map (Value.int .i64) = ar := ⟨_, rfl⟩
 rw [har] at hmk
 have hal : ar.length = n := by rw [← har]; simp
 have hc := za hb 0 rfl
 have hbl := zd hb
 have hm := Tryz.bits_Mul 1 n (by omega) (by omega) w
 have e1 : (1 * n / 18446744073709551616 : Nat) = 0 := by omega
 have e2 : (1 * n % 18446744073709551616 : Nat) = n := by omega
 rw [e1, e2] at hm
 have hn0 : ¬ (n : Int) < 0 := by omega
 clear har e1 e2
 go_enter Tryz.func118, Tryz.ntmps118
 go_wp2_with fail
 refine hm.mono ?_
 rintro e w1 ⟨rfl, hw1⟩
 obtain rfl := hw1
 clear hm
 obtain ⟨W0, hW0, b0, hsz, hB0⟩ := zj w1 ar.toArray 3
 have hx : W0.cell? ⟨b, 0, none⟩ = some (.int .i64 u) := (hB0.cell (p := ⟨b, 0, none⟩) hbl).trans hc
 have BB := zH hB0
 have BX := zH b0
 have HX := zH hx
 clear hc hB0 b0 hx hb
 go_wp2_with ((refine wpList_copy_splice rfl (.tmp 31) (.tmp 32) 38 38 rfl 3 Tryz.underlying38 j9 (some ⟨w1.heap.size, 0, none⟩) (some ⟨b, 0, none⟩) n n 1 1 rfl rfl w1.heap.size 0 ar 3 BX.out [.int .i64 u] (by simp [Nat.min_def]; omega) (fun _ => ⟨rfl, _, rfl, QS HX.out⟩) (by simp; omega) (by simp [Value.oneCell']) w1.heap.size w1 BB.out (Nat.le_refl _) ?_); intro w2 hr2 hb2)
 obtain ⟨g, hg⟩ : ∃ g, w1.heap.size = g := ⟨_, rfl⟩
 have s1 := kE (cur := ar) (x := .int .i64 u) (k := 0) (m := 1) (n := n) hal (by simp) (by omega)
 have S1 := zH s1
 have HGG := zH hg
 rw [hg] at hr2 hb2 ⊢
 clear s1 BX HX BB hW0 hsz hmk hg
 go_loopw [8] (fun l wr => ∃ (k : Nat) (cur : List Value), 1 ≤ k ∧ k ≤ n ∧ l = .int .i64 k ∧ Hid (cur.length = n) ∧ Hid (cur.take k = List.replicate k (.int .i64 u)) ∧ Hid (wr.heap[g]? = some (.cells cur.toArray 3 (0, 0))) ∧ Below g w1 wr) (fun l _ => n - (intOf l).toNat)
 case atStart => exact ⟨1, splice ar 0 [.int .i64 u], by omega, h1, rfl, S1.out.2, S1.out.1, hr2, hb2⟩
 case round =>
  obtain ⟨k, cur, hk1, hkn, rfl, hcl, hct, hcell, hbl2⟩ := hrel
  by_cases hlt : k < n
  · clear S1 hr2 hb2
    have hk0 : (0 : Int) ≤ (k : Int) := by omega
    have hk2 : (k : Int) ≤ (n : Int) := by omega
    have hne : ¬ n = k := by omega
    have hne' : ¬ k = n := by omega
    go_upto_region 9 with fail
    obtain ⟨d, hd⟩ : ∃ d, n - k = d := ⟨_, rfl⟩
    obtain ⟨m, hm⟩ : ∃ m, Nat.min k d = m := ⟨_, rfl⟩
    have hm0 : min k d = m := hm
    have hm1 : 1 ≤ m := by omega
    have hm2 : k + m ≤ n := by omega
    have hm3 : m ≤ k := by omega
    clear hm0
    have hsrc : ∀ j v, (List.replicate m (Value.int .i64 u))[j]? = some v → wr.cell? ((⟨g, 0, none⟩ : Addr).add j) = some v := by
     intro j v hj
     have hjm : j < m := by have := (List.getElem?_eq_some_iff.1 hj).1; simpa using this
     rw [List.getElem?_replicate, if_pos hjm] at hj
     cases hj
     rw [Addr.add_lit, Nat.zero_add]
     refine za hcell.out j ?_
     rw [List.getElem?_toArray]
     have h2 := congrArg (fun l => l[j]?) hct.out
     simp only [List.getElem?_take, List.getElem?_replicate] at h2
     rwa [if_pos (by omega), if_pos (by omega)] at h2
    have SP := zH (kE (cur := cur) (x := Value.int .i64 u) (k := k) (m := m) (n := n) hcl.out hct.out hm2)
    have HSRC := zH hsrc
    have HM := zH hm
    have HBL2 := zH hbl2
    have hs1 : IntKind.i64.wrap ((k : Int) + (m : Int)) = (k : Int) + (m : Int) := IntWalk.i64_in _ (by omega)
    have HS1 := zH hs1
    clear hsrc hm hbl2 hs1
    go_region_law ((refine step_copy_splice (by rfl) (.tmp 41) (.tmp 44) 38 38 (by rfl) 3 Tryz.underlying38 j9 (some ⟨g, k, none⟩) (some ⟨g, 0, none⟩) d d k n (by simp [go_sem]) (by simp [go_sem]) g k cur 3 hcell.out (List.replicate m (.int .i64 u)) (by rw [List.length_replicate]; exact HM.out.symm) (fun _ => ⟨rfl, _, rfl, HSRC.out⟩) (by rw [List.length_replicate, hcl.out]; exact hm2) (by intro v hv; rw [List.eq_of_mem_replicate hv]; rfl) g w1 HBL2.out.drew (Nat.le_refl _) ?_; intro w3 hr3 hb3; rw [List.length_replicate]))
    all_goals
     rw [HS1.out]
     go_wp2_with fail
     go_frame
     go_roundw
     case rel =>
      (repeat apply Exists.intro)
      exact ⟨⟨k + m, splice cur k (List.replicate m (.int .i64 u)), by omega, by omega, rfl, SP.out.2, SP.out.1, hr3, hb3⟩, by first | rfl | (go_frame; rfl) | (simp [Act.put]; done)⟩
     case measure => simp [intOf]; omega
  · obtain rfl : k = n := by omega
    go_wp2_with fail
    go_ret
    refine ⟨g, rfl, by have := HGG.out; omega, ?_, by have := HGG.out; rw [this]; exact hbl2⟩
    unfold RowAt
    have e := hct.out
    rw [List.take_of_length_le (by have := hcl.out; omega)] at e
    rw [hcell.out, e]; simp
end
section
open Go.RowKit
def Tail (w : World) (base : Nat) (v : Value) (xs : List Int) : Prop :=
 (v = .slice none 0 0 ∧ xs = []) ∨ ∃ g off cap cur, v = .slice (some ⟨g, off, none⟩) xs.length cap ∧ base ≤ g ∧ w.heap[g]? = some (.cells cur 3 (0, 0)) ∧ xs.length ≤ cap ∧ cap ≤ maxLen ∧ (0 < cap → cur.size = off + cap) ∧
  ∀ (i : Nat) (h : i < xs.length), cur[off + i]? = some (.int .i64 xs[i])
theorem Tail.of_own {w : World} {base : Nat} {v : Value} {xs : List Int} (h : Own w base v xs) : Tail w base v xs := by
 rcases h.2 with ⟨hv, h0⟩ | ⟨g, cap, cur, hv, hb, hg, hle, hcm, hcs, htk⟩
 · exact .inl ⟨hv, List.eq_nil_of_length_eq_zero h0⟩
 · refine .inr ⟨g, 0, cap, cur, hv, hb, hg, hle, hcm, fun _ => by omega, fun i hi => ?_⟩
   rw [Nat.zero_add]
   have h2 := congrArg (fun l => l[i]?) htk
   simp only [List.getElem?_take, List.getElem?_map] at h2
   rw [if_pos (by omega), List.getElem?_eq_getElem hi] at h2
   simpa using h2
theorem Tail.form {w : World} {base : Nat} {v : Value} {xs : List Int} (h : Tail w base v xs) : ∃ A cap, v = .slice A xs.length cap ∧ xs.length ≤ cap ∧ cap ≤ maxLen ∧ IAt w w.heap.size A xs := by
 rcases h with ⟨rfl, rfl⟩ | ⟨g, off, cap, cur, rfl, hb, hg, hle, hcm, _, hat⟩
 · exact ⟨none, 0, rfl, Nat.le_refl _, Nat.zero_le _, IAt.nil _ _ _⟩
 · exact ⟨_, _, rfl, hle, hcm, fun _ => ⟨g, off, rfl, zd hg, fun i hi => za hg (off + i) (hat i hi)⟩⟩
theorem Tail.lt {w : World} {base : Nat} {v : Value} {xs : List Int} (h : Tail w base v xs) : ∀ k, v.ownBlock = some k → base ≤ k ∧ k < w.heap.size := by
 rcases h with ⟨rfl, _⟩ | ⟨g, off, cap, cur, rfl, hb, hg, _⟩
 · intro k e; cases e
 · intro k e
   have : g = k := by simpa [Value.ownBlock] using e
   subst this
   exact ⟨hb, zd hg⟩
theorem Tail.cells {w : World} {base : Nat} {v : Value} {xs : List Int} (h : Tail w base v xs) : ∀ k, v.ownBlock = some k → ∃ cur, w.heap[k]? = some (.cells cur 3 (0, 0)) := by
 rcases h with ⟨rfl, _⟩ | ⟨g, off, cap, cur, rfl, hb, hg, _⟩
 · intro k e; cases e
 · intro k e
   have : g = k := by simpa [Value.ownBlock] using e
   subst this
   exact ⟨_, hg⟩
theorem Tail.same {w w' : World} {base : Nat} {v : Value} {xs : List Int} (h : Tail w base v xs) (hs : ∀ k, v.ownBlock = some k → w'.heap[k]? = w.heap[k]?) : Tail w' base v xs := by
 rcases h with h | ⟨g, off, cap, cur, rfl, hb, hg, r⟩
 · exact .inl h
 · exact .inr ⟨g, off, cap, cur, rfl, hb, (hs g rfl).trans hg, r⟩
theorem Tail.cut {w : World} {base : Nat} {A : Option Addr} {cap : Nat} {x : Int} {xs : List Int} (h : Tail w base (.slice A (xs.length + 1) cap) (x :: xs)) :
  ∃ A', (∀ X : World, (Instr.slice 38 (.slice A (xs.length + 1) cap) (some (.int .i64 1)) none none).run Tryz.prog X = .ok (.slice A' xs.length (cap - 1)) X) ∧ Tail w base (.slice A' xs.length (cap - 1)) xs ∧ (Value.slice A' xs.length (cap - 1)).ownBlock = (Value.slice A (xs.length + 1) cap).ownBlock := by
 rcases h with ⟨_, h⟩ | ⟨g, off, cap', cur, hv, hb, hg, hle, hcm, hcs, hat⟩
 · cases h
 · injection hv with e1 e2 e3
   subst e1; subst e3
   simp only [List.length_cons] at hle hat
   refine ⟨if cap = 1 then some ⟨g, off, none⟩ else (some (⟨g, off, none⟩ : Addr)).map (·.add 1), fun X => ?_, .inr ?_, ?_⟩
   · have hu : Tryz.prog.underlying 38 = some (.slice 3) := Tryz.underlying38
     have hs : (sizeOf 3).run Tryz.prog X = .ok 1 X := by kernel_rfl
     simp [Instr.slice, Instr.sliceBounds, run_underlying hu, go_sem]
     exact fun h => absurd h (by omega)
   · by_cases h1 : cap = 1
     · subst h1
       have h0 : xs.length = 0 := by omega
       refine ⟨g, off, 0, cur, by simp, hb, hg, by omega, Nat.zero_le _, fun h => by omega, fun i hi => by omega⟩
     · rw [if_neg h1]
       refine ⟨g, off + 1, cap - 1, cur, by simp [Addr.add], hb, hg, by omega, by omega, fun _ => by have := hcs (by omega); omega, fun i hi => ?_⟩
       have := hat (i + 1) (by omega)
       rw [show off + 1 + i = off + (i + 1) by omega]
       simpa using this
   · by_cases h1 : cap = 1
     · subst h1; rfl
     · rw [if_neg h1]; simp [Value.ownBlock, Addr.add]
theorem uP (w : World) (base : Nat) (ty : TypeId) (v : Value) (xs : List Int) (u : Int) (h : Tail w base v xs) (a : Addr) (ha : w.cell? a = some (.int .i64 u)) (hlen : xs.length < 8796093022208) (hbase : base ≤ w.heap.size) :
  ∃ v' w', (Builtin.append_ #[38, 38] ty #[v, .slice (some a) 1 1]).run Tryz.prog w = .ok v' w' ∧ Tail w' base v' (xs ++ [u]) ∧ w.grownBy w' v.ownBlock ∧ (v'.ownBlock = v.ownBlock ∨ v'.ownBlock = some w.heap.size) := by
 obtain ⟨i, hi, hz, hsz, hby⟩ := info_parts wU
 have ht : Tryz.prog.underlying 38 = some (.slice 3) := Tryz.underlying38
 have hnews : ∀ j y, [Value.int .i64 u][j]? = some y → w.cell? (a.add j) = some y := by
  intro j y hj
  have h0 : j = 0 := by have := (List.getElem?_eq_some_iff.1 hj).1; simp at this; omega
  subst h0
  simp at hj; subst hj
  rw [show a.add 0 = a by cases a; rename_i b o f; cases f <;> simp [Addr.add]]
  exact ha
 have grown : ∀ (old : Nat), old < xs.length + 1 → ∀ (row : Option Nat),
   Tail (w.drew.alloc (.cells ((xs.map (Value.int .i64)).toArray ++ [Value.int .i64 u].toArray ++ Builtin.zeroCells (Value.int .i64 0).cells (grownCap w (xs.length + 1) old 3 - (xs.length + 1))) 3)) base (.slice (some ⟨w.heap.size, 0, none⟩) (xs.length + 1) (grownCap w (xs.length + 1) old 3)) (xs ++ [u]) ∧
   w.grownBy (w.drew.alloc (.cells ((xs.map (Value.int .i64)).toArray ++ [Value.int .i64 u].toArray ++ Builtin.zeroCells (Value.int .i64 0).cells (grownCap w (xs.length + 1) old 3 - (xs.length + 1))) 3)) row := by
  intro old ho row
  have hge := grownCap_ge w (xs.length + 1) old 3
  have hcm : grownCap w (xs.length + 1) old 3 ≤ maxLen := grownCap_le_maxLen w (xs.length + 1) old 3 (by unfold maxLen; omega)
  refine ⟨.inr ⟨w.heap.size, 0, _, _, by simp, hbase, heap_alloc_new w.drew _, by simp; exact hge, hcm, fun _ => ?_, fun j hj => ?_⟩, ⟨rfl, rfl, rfl, by simp, fun k hk _ => Below.heap_alloc w.drew _ k hk⟩⟩
  · simp only [Array.size_append, List.size_toArray, size_zeroCells, List.length_map, List.length_cons, List.length_nil]
    have : (Value.int .i64 0).cells.size = 1 := rfl
    rw [this]; omega
  · have hj' : j < xs.length + 1 := by simpa using hj
    rw [Nat.zero_add, Array.getElem?_append_left (by simp; omega), List.append_toArray, List.getElem?_toArray, ← List.map_singleton (f := Value.int .i64), ← List.map_append, List.getElem?_map, List.getElem?_eq_getElem hj]
    rfl
 rcases h with ⟨rfl, rfl⟩ | ⟨g, off, cap, cur, rfl, hb, hg, hle, hcm, hcs, hat⟩
 · have hr := run_append_nil (P := Tryz.prog) w 38 ty 3 i (.int .i64 0) ht hi hz a 1 1 [.int .i64 u] (by rw [hsz]; rfl) hnews (by omega) (by omega) (by rw [hby]; omega)
   have hgr := grown 0 (by simp) (Value.ownBlock (.slice none 0 0))
   simp only [List.length_nil, List.map_nil, Nat.zero_add, List.nil_append] at hgr
   refine ⟨_, _, hr, ?_, ?_, Or.inr rfl⟩
   · exact hgr.1
   · exact hgr.2
 · by_cases hroom : xs.length + 1 ≤ cap
   · have hsize := hcs (by omega)
     have hf := run_firstCells_some (P := Tryz.prog) w i.size 1 a 1 1 [.int .i64 u] (by rw [hsz]; rfl) hnews
     have hst := run_storeCells_at Tryz.prog g (off + xs.length * i.size) 3 [.int .i64 u] 0 cur w hg (by rw [hsz]; simp; omega) (by simp [Value.oneCell'])
     simp only [Nat.add_zero] at hst
     refine ⟨.slice (some ⟨g, off, none⟩) (xs.length + 1) cap, w.setRow g (cur.toList.take (off + xs.length * i.size) ++ [Value.int .i64 u] ++ cur.toList.drop (off + xs.length * i.size + [Value.int .i64 u].length)).toArray, ?_, .inr ⟨g, off, cap, (cur.toList.take (off + xs.length * i.size) ++ [Value.int .i64 u] ++ cur.toList.drop (off + xs.length * i.size + [Value.int .i64 u].length)).toArray, by simp, hb, setRow_heap w g cur _ 3 _ hg, by simpa using hroom, hcm, fun _ => ?_, fun j hj => ?_⟩, ⟨rfl, rfl, rfl, by simp, fun k _ hk => setRow_other w g k _ (fun e => hk (by simp [Value.ownBlock, e]))⟩, Or.inl rfl⟩
     · simp [Builtin.append_, run_underlying ht, sizeOf, typeInfo, hi, Builtin.lenOf, hroom, hf, Addr.add_lit, hst]
     · rw [hsz]; simp; omega
     · have hj' : j < xs.length + 1 := by simpa using hj
       rw [hsz, Nat.mul_one, List.getElem?_toArray]
       have hlt : (cur.toList.take (off + xs.length)).length = off + xs.length := by simp; omega
       by_cases e : j = xs.length
       · subst e
         rw [List.append_assoc, List.getElem?_append_right (by omega), hlt]
         simp
       · rw [List.append_assoc, List.getElem?_append_left (by omega), List.getElem?_take, if_pos (by omega), Array.getElem?_toList, hat j (by omega), List.getElem_append_left (by omega)]
   · have holds : ∀ j y, (xs.map (Value.int .i64))[j]? = some y → w.cell? ((⟨g, off, none⟩ : Addr).add j) = some y := by
      intro j y hj
      have hjl : j < xs.length := by have := (List.getElem?_eq_some_iff.1 hj).1; simpa using this
      rw [List.getElem?_map, List.getElem?_eq_getElem hjl] at hj
      simp at hj; subst hj
      rw [Addr.add_lit]
      exact za hg (off + j) (hat j hjl)
     have hr := run_append_grow (P := Tryz.prog) w 38 ty 3 i (.int .i64 0) ht hi hz ⟨g, off, none⟩ xs.length cap (xs.map (Value.int .i64)) (by rw [hsz]; simp) holds a 1 1 [.int .i64 u] (by rw [hsz]; rfl) hnews (by omega) (by omega) (growslice_fits (by omega) (by rw [hby]; omega))
     have hgr := grown cap (by omega) (Value.ownBlock (.slice (some ⟨g, off, none⟩) xs.length cap))
     exact ⟨_, _, hr, hgr.1, hgr.2, Or.inr rfl⟩
theorem gK {F : Fence} {n : Nat} (w : World) {ops : Array Oper} {rest : List Oper} {o : Oper} {a : Act} {Q : Exit → Act → World → Prop} (hgd : o.guard = none) (s x : Operand)
  (hop : o.op = .call { callee := .builtin .append, args := #[s, x], argTypes := #[38, 38] }) (base : Nat) (v : Value) (xs : List Int) (u : Int) (hs : a.eval s = v) (hown : Tail w base v xs)
  (ad : Addr) (hx : a.eval x = .slice (some ad) 1 1) (ha : w.cell? ad = some (.int .i64 u)) (hlen : xs.length < 8796093022208) (hb : base ≤ w.heap.size)
  (h : ∀ v' w1, Tail w1 base v' (xs ++ [u]) → w.grownBy w1 v.ownBlock → (v'.ownBlock = v.ownBlock ∨ v'.ownBlock = some w.heap.size) → wpListIn F n Tryz.prog ops Q rest (a.put o.dst v') w1) :
  wpListIn F n Tryz.prog ops Q (o :: rest) a w := by
 refine wpListIn_plain hgd fun K hK' => ?_
 obtain ⟨v', w', hrun, r1, r2, r3⟩ := uP w base o.type v xs u hown ad ha hlen hb
 unfold Oper.wpIn
 refine ⟨by simp [Oper.about, hop, resolve, Target.leads, Sem.run_pure], ?_⟩
 rw [Oper.semAt_plain F _ _ (by rw [hop]; intro c hc'; cases hc')]
 simp [execOp, hop, resolve, invoke, builtin, hs, hx, hrun, Result.andThen]
 exact hK' _ _ (h v' w' r1 r2 r3)
end
section
open Go.RowKit Go.Shelf
attribute [local go_sem] Oper.semAt_some
def xD (n : Nat) (L : List Nat) : List Int := (List.range n).map fun i => if i ∈ L then 0 else -1
theorem qs (n : Nat) (L : List Nat) : (xD n L).length = n := by simp [xD]
theorem JW (n : Nat) : xD n [] = List.replicate n (-1) := by
 refine List.ext_getElem (by simp [xD]) fun i h1 h2 => ?_
 simp [xD]
theorem initL_at (n : Nat) (L : List Nat) (i : Nat) (h : i < n) : (xD n L).getD i 0 = if i ∈ L then 0 else -1 := by
 rw [zD (by rw [qs]; exact h)]; simp [xD]
theorem JV (n : Nat) (L : List Nat) (x : Nat) (_hx : x < n) : (xD n L).set x 0 = xD n (L ++ [x]) := by
 refine List.ext_getElem (by simp [xD]) fun i h1 h2 => ?_
 rw [List.getElem_set]
 by_cases e : x = i
 · subst e; simp [xD]
 · have e' : ¬ i = x := fun h => e h.symm
   simp [xD, e, e']
structure FlIn (B b5 b6 g : Nat) (No : Nat → Prop) (C : Array Value) (out : List Int) (q : List Nat) (w W : World) : Prop where
 below : Below B w W
 b0 : W.heap[B]? = some (.cells C 126 (0, 0))
 h5 : W.heap[b5]? = some (.cells #[.slice (some ⟨g, 0, none⟩) out.length out.length] 38 (0, 0))
 row : RowAt W g out
 h6 : ∃ v, W.heap[b6]? = some (.cells #[v] 38 (0, 0)) ∧ Tail W B v (zO q) ∧ ∀ z, v.ownBlock = some z → z ≠ g ∧ ¬ No z
 l5 : B < b5
 l6 : B < b6
 lg : B < g
 n56 : b5 ≠ b6
section
variable {B b5 b6 g : Nat} {No : Nat → Prop} {C : Array Value} {out : List Int} {q : List Nat} {w W W' : World}
theorem qY {base : Nat} {v : Value} {xs : List Int} (h : Tail W base v xs) {k : Nat} {cs : Array Value} {t : TypeId} (hk : W.heap[k]? = some (.cells cs t (0, 0))) (ht : t ≠ 3) : v.ownBlock ≠ some k := fun e => by
 obtain ⟨cur, hc⟩ := h.cells k e
 rw [hk] at hc
 cases hc
 exact ht rfl
theorem FlIn.ne5 (h : FlIn B b5 b6 g No C out q w W) : b5 ≠ g := fun e => by
 have h1 := h.h5
 rw [e, h.row] at h1
 injection h1 with h1
 injection h1 with _ h2 _
 exact absurd h2 (by decide)
theorem FlIn.ne6 (h : FlIn B b5 b6 g No C out q w W) : b6 ≠ g := fun e => by
 obtain ⟨v, h1, _⟩ := h.h6
 rw [e, h.row] at h1
 injection h1 with h1
 injection h1 with _ h2 _
 exact absurd h2 (by decide)
theorem FlIn.on (h : FlIn B b5 b6 g No C out q w W) (hb : Below W.heap.size W W') : FlIn B b5 b6 g No C out q w W' := by
 obtain ⟨v, h1, h2, h3⟩ := h.h6
 have hB := zd h.b0
 exact ⟨h.below.trans (hb.mono (by omega)), (hb.block _ (zd h.b0)).trans h.b0, (hb.block _ (zd h.h5)).trans h.h5, (hb.block _ h.row.lt).trans h.row, ⟨v, (hb.block _ (zd h1)).trans h1, h2.same fun k e => hb.block _ (h2.lt k e).2, h3⟩, h.l5, h.l6, h.lg, h.n56⟩
theorem FlIn.reno {No' : Nat → Prop} (h : FlIn B b5 b6 g No C out q w W) (hn : ∀ z, No' z → No z ∨ W.heap.size ≤ z) : FlIn B b5 b6 g No' C out q w W := by
 obtain ⟨v, h1, h2, h3⟩ := h.h6
 refine ⟨h.below, h.b0, h.h5, h.row, ⟨v, h1, h2, fun z e => ⟨(h3 z e).1, fun hz => ?_⟩⟩, h.l5, h.l6, h.lg, h.n56⟩
 rcases hn z hz with h4 | h4
 · exact (h3 z e).2 h4
 · have := (h2.lt z e).2; omega
theorem FlIn.turn {row : Option Nat} (h : FlIn B b5 b6 g No C out q w W) (hg : W.grownBy W' row) (hr : ∀ r, row = some r → B ≤ r ∧ ∃ o : Obj, W.heap[r]? = some o ∧ o.isCells = false) : FlIn B b5 b6 g No C out q w W' := by
 obtain ⟨v, h1, h2, h3⟩ := h.h6
 have hB := zd h.b0
 refine ⟨h.below.grown hg (by omega) (fun k hk => (hr k hk).1), (grownBy_keeps_cells hg (fun r e => (hr r e).2) h.b0 rfl).trans h.b0, (grownBy_keeps_cells hg (fun r e => (hr r e).2) h.h5 rfl).trans h.h5,
  (grownBy_keeps_cells hg (fun r e => (hr r e).2) h.row rfl).trans h.row, ⟨v, (grownBy_keeps_cells hg (fun r e => (hr r e).2) h1 rfl).trans h1, h2.same fun k e => ?_, h3⟩, h.l5, h.l6, h.lg, h.n56⟩
 obtain ⟨cur, hc⟩ := h2.cells k e
 exact (grownBy_keeps_cells hg (fun r e => (hr r e).2) hc rfl)
theorem FlIn.set (h : FlIn B b5 b6 g No C out q w W) (k : Nat) (u : Int) : FlIn B b5 b6 g No C (out.set k u) q w (W.setCell ⟨g, k, none⟩ (.int .i64 u)) := by
 obtain ⟨v, h1, h2, h3⟩ := h.h6
 have hlg := h.lg
 have old : ∀ j, j ≠ g → (W.setCell ⟨g, k, none⟩ (.int .i64 u)).heap[j]? = W.heap[j]? := fun j hj => Below.heap_setCell W ⟨g, k, none⟩ _ j hj
 have n1 := h.ne5
 have n2 := h.ne6
 exact ⟨h.below.setCell (by show B ≤ g; omega) _, (old _ (by omega)).trans h.b0, by rw [List.length_set]; exact (old _ n1).trans h.h5, h.row.set k u, ⟨v, (old _ n2).trans h1, h2.same fun j e => old j (h3 j e).1, h3⟩, h.l5, h.l6, hlg, h.n56⟩
theorem FlIn.wait {q' : List Nat} {v v' : Value} (h : FlIn B b5 b6 g No C out q w W) (h6 : W.heap[b6]? = some (.cells #[v] 38 (0, 0))) (hb : Below B W W') (hs : ∀ j, j < W.heap.size → v.ownBlock ≠ some j → W'.heap[j]? = W.heap[j]?) (hv : Tail W B v (zO q)) (hvn : ∀ z, v.ownBlock = some z → z ≠ g ∧ ¬ No z)
  (hv' : Tail W' B v' (zO q')) (hg' : v'.ownBlock = v.ownBlock ∨ ∃ z, v'.ownBlock = some z ∧ W.heap.size ≤ z) (hNo : ∀ z, No z → z < W.heap.size) : FlIn B b5 b6 g No C out q' w (W'.setCell ⟨b6, 0, none⟩ v') := by
 have hB := zd h.b0
 have hl6 := h.l6
 have o0 := (hs B (by omega) (qY hv h.b0 (by decide))).trans h.b0
 have o5 := (hs b5 (zd h.h5) (qY hv h.h5 (by decide))).trans h.h5
 have og : W'.heap[g]? = _ := (hs g h.row.lt (fun e => (hvn g e).1 rfl)).trans h.row
 have o6 := (hs b6 (zd h6) (qY hv h6 (by decide))).trans h6
 have n1 := h.ne5
 have n2 := h.ne6
 have n3 := h.n56
 obtain ⟨x1, x2, x3⟩ := kF o6 v'
 have hglt := h.row.lt
 refine ⟨(h.below.trans hb).setCell (by show B ≤ b6; omega) _, (x3 _ (by omega)).trans o0, (x3 _ n3).trans o5, (x3 _ (Ne.symm n2)).trans og, ⟨v', x1, hv'.same fun j e => x3 j (fun e2 => qY hv' o6 (by decide) (by rw [e, e2])), fun z e => ?_⟩, h.l5, h.l6, h.lg, n3⟩
 rcases hg' with h1 | ⟨z', h1, h2⟩
 · exact hvn z (by rw [← h1]; exact e)
 · rw [h1] at e
   cases e
   exact ⟨by omega, fun h4 => by have := hNo _ h4; omega⟩
end
theorem clone_own (A : Option Addr) (cap : Nat) (xs : List Int) (w : World) (hA : IAt w w.heap.size A xs) (hl : xs.length ≤ 1000000) :
  Calls Tryz.prog 129 #[.slice A xs.length cap] w fun e w' => ∃ v, e = .returned v ∧ Own w' w.heap.size v xs ∧ Below w.heap.size w w' :=
 (ZB A xs.length cap (xs.map (Value.int .i64)) w (by simp) (YT hA) (YU xs) hl).mono fun e w' ⟨v, h1, h2, h3⟩ => ⟨v, h1, h2, h3⟩
set_option maxRecDepth 100000 in
theorem gg (n : Nat) (h1 : 1 ≤ n) (hn : n ≤ 100000) (Ap : Option Addr) (kp bC bM : Nat) (ps : List Nat) (hpl : ps.length ≤ 100) (cls : Nat → List Int) (L : List Nat) (hL : ∀ x ∈ L, x < n) (hLl : L.length ≤ 100000) (AL : Option Addr) (cl : Nat) (w : World)
  (hS : StAt w w.heap.size Ap bC bM n ps cls) (hI : IAt w w.heap.size AL (zO L)) :
  Calls Tryz.prog 72 #[.agg (stC n Ap ps.length kp bC bM), .slice AL L.length cl] w fun e w' => ∃ (out : List Int) (g : Nat), e = .returned (.slice (some ⟨g, 0, none⟩) n n) ∧ w.heap.size ≤ g ∧ RowAt w' g out ∧ out.length = n ∧ Far n (yN ps cls) (fun i => i ∈ L) (fun i => out.getD i 0) ∧ Below w.heap.size w w' := by
 have HS := zH hS
 have HI := zH hI
 have HL := zH hL
 have HNB := zH (fun (i : Nat) (hi : i < n) (bx bp : Nat) (X : World) (hx : X.heap[bx]? = some (.cells (stC n Ap ps.length kp bC bM) 126 (0, 0))) (hp : X.heap[bp]? = some (.cells #[.int .i64 (i : Int)] 3 (0, 0))) (hSX : StAt X w.heap.size Ap bC bM n ps cls) (hB : w.heap.size ≤ X.heap.size) => Zm n i hn hi Ap kp bC bM ps hpl cls w.heap.size bx bp X hx hp hSX hB)
 have HNA := zH (fun (i : Int) (X : World) => YK n Ap ps.length kp bC bM i X)
 unfold stC at HNB HNA ⊢
 clear hS hI hL
 refine yr Tryz.func72 rfl ?_
 simp only [Tryz.ntmps72, List.size_toArray, List.length_cons, List.length_nil, Nat.reduceAdd, Nat.reduceSub, Array.replicate_succ, Array.replicate_zero, List.push_toArray, List.append_toArray, List.nil_append, List.cons_append]
 go_wp2_with fail
 obtain ⟨w2, hw2, d0, d1, hs2, hB⟩ := zW w #[.int .i64 (n : Int), .slice Ap ps.length kp, .map (some bC), .map (some bM)] #[.int .i64 (-1)] 126 3
 rw [hw2]
 refine (uz n (w.heap.size + 1) h1 hn (-1) w2 d1).mono ?_
 rintro e w3 ⟨g, rfl, hgg, hrow, hB3⟩
 go_wp2_with fail
 have hB4 := zF w3 (.cells #[.slice (some ⟨g, 0, none⟩) n n] 38)
 obtain ⟨w4, hw4, e4, hs4, _⟩ := zj w3 #[.slice (some ⟨g, 0, none⟩) n n] 38
 rw [hw4] at hB4 ⊢
 have hb4 : Below w.heap.size w w4 := (hB.trans (hB3.mono (by omega))).trans (hB4.mono (by have := hB3.size; omega))
 have hcl := clone_own AL cl (zO L) w4 ((HI.out.keep hb4).more hb4.size) (by rw [zw]; omega)
 rw [zw] at hcl
 refine hcl.mono ?_
 rintro e w5 ⟨v, rfl, ho5, hB5⟩
 have hFL : FlIn w.heap.size w3.heap.size w5.heap.size g (fun _ => False) #[.int .i64 (n : Int), .slice Ap ps.length kp, .map (some bC), .map (some bM)] (xD n []) L w (w5.alloc (.cells #[v] 38)) := by
  have hs3 := hB3.size
  have hs5 := hB5.size
  have hgl := hrow.lt
  have k0 : w5.heap[w.heap.size]? = _ := (hB5.block _ (by omega)).trans ((hB4.block _ (by omega)).trans ((hB3.block _ (by omega)).trans d0))
  have kg : w5.heap[g]? = _ := (hB5.block _ (by omega)).trans ((hB4.block _ (by omega)).trans hrow)
  have k5 := (hB5.block _ (by omega)).trans e4
  refine ⟨(hb4.trans (hB5.mono (by omega))).trans ((zF w5 _).mono (by omega)), zY k0 _, ?_, ?_, ⟨v, zh w5 _, (Tail.of_own ((ho5.low (by omega)).alloc _)), fun z e => ⟨?_, fun h => h⟩⟩, by omega, by omega, by omega, by omega⟩
  · rw [qs]; exact zY k5 _
  · rw [JW]; exact zY kg _
  · have := (ho5.lt _ e).1; omega
 obtain ⟨A5, c5, rfl, _, _, _⟩ := ho5.form
 rw [zw]
 obtain ⟨b6, hb6⟩ : ∃ b6, w5.heap.size = b6 := ⟨_, rfl⟩
 obtain ⟨b5, hb5⟩ : ∃ b5, w3.heap.size = b5 := ⟨_, rfl⟩
 rw [hb6, hb5] at hFL
 have HFL := zH hFL
 clear hFL hw4 hB4 e4 hs4 hb4 hcl ho5 hB5 hw2 d0 d1 hB hB3 hrow
 go_wp2_with fail
 obtain ⟨w6, hw6⟩ : ∃ w6, w5.alloc (.cells #[.slice A5 (zO L).length c5] 38) = w6 := ⟨_, rfl⟩
 rw [zw] at hw6
 rw [zw, hw6] at HFL
 rw [hw6]
 clear hw6 hb6 hb5 hs2 hgg
 go_loopw [19] (fun j wr => ∃ k : Nat, k ≤ L.length ∧ j = .int .i64 (k : Int) ∧ Hid (FlIn w.heap.size b5 b6 g (fun _ => False) #[.int .i64 (n : Int), .slice Ap ps.length kp, .map (some bC), .map (some bM)] (xD n (L.take k)) L w wr)) (fun j _ => L.length - (intOf j).toNat)
 case atStart => exact ⟨0, by omega, rfl, by rw [List.take_zero]; exact HFL.out⟩
 case round =>
  obtain ⟨k, hk, rfl, hF⟩ := hrel
  clear HFL
  by_cases hlt : k < L.length
  · obtain ⟨b, o, eA, hbl, z⟩ := (HI.out.keep hF.out.below).at_ k (by rw [zw]; exact hlt)
    rw [uU] at z
    subst eA
    obtain ⟨x, hx⟩ : ∃ x, L[k] = x := ⟨_, rfl⟩
    have hxn : x < n := by rw [← hx]; exact HL.out _ (List.getElem_mem hlt)
    rw [hx] at z
    have hset := hF.out.set x 0
    rw [JV n _ x hxn, ← hx, ← List.take_succ_eq_append_getElem hlt] at hset
    rw [hx] at hset
    have c5' := za hF.out.h5 0 rfl
    rw [qs] at c5'
    have rr := hF.out.row.cell x (by rw [qs]; exact hxn)
    have fr := hF.out.row.froz x
    have HSET := zH hset
    have hk0 : (0 : Int) ≤ (k : Int) := by omega
    have hk1 : (k : Int) < (L.length : Int) := by omega
    have hx0 : (0 : Int) ≤ (x : Int) := by omega
    have hx1 : (x : Int) < (n : Int) := by omega
    clear hset hx
    go_wp2_with fail
    go_roundw
    case rel => exact ⟨k + 1, by omega, by go_num, HSET.out⟩
    case measure => simp [intOf]; omega
  · obtain rfl : k = L.length := by omega
    rw [List.take_length] at hF
    have hbfs : Bfs n (yN ps cls) (fun i => i ∈ L) (xD n L) L := Bfs.start L (xD n L) (qs n L) (fun i hi => initL_at n L i hi) HL.out (fun i _ => Iff.rfl)
    go_wp2_with fail
    have HBF := zH hbfs
    have hm00 : ((xD n L).filter (fun y => decide (y < 0))).length + L.length ≤ 200000 := by
     have := List.length_filter_le (fun y => decide (y < 0)) (xD n L)
     rw [qs] at this
     omega
    refine wp_loop_ghost (fun (m : Nat) (a' : Act) (w' : World) => ∃ (ds : List Deferred) (out : List Int) (q : List Nat) (u8 u9 u21 u22 u23 u24 u25 u26 u27 u28 u29 u30 u31 u32 u33 u34 u35 u36 u37 : Value), (m = (out.filter (fun y => decide (y < 0))).length + q.length ∧ m ≤ 200000 ∧ Hid (FlIn w.heap.size b5 b6 g (fun _ => False) #[.int .i64 (n : Int), .slice Ap ps.length kp, .map (some bC), .map (some bM)] out q w w') ∧ Hid (Bfs n (yN ps cls) (fun i => i ∈ L) out q) ∧ Hid (Marks w.heap.size ds w')) ∧ a' = { tmps := #[.agg #[.int .i64 (n : Int), .slice Ap ps.length kp, .map (some bC), .map (some bM)], .slice AL L.length cl, .pointer (some ⟨w.heap.size, 0, none⟩), undef, .slice none 0 0, .pointer (some ⟨b5, 0, none⟩), .pointer (some ⟨b6, 0, none⟩), undef, u8, u9, undef, .slice (some ⟨w.heap.size + 1, 0, none⟩) 1 1, .pointer (some ⟨w.heap.size, 0, none⟩), .int .i64 (n : Int), .slice (some ⟨g, 0, none⟩) n n, .slice AL L.length cl, .slice A5 L.length c5, .slice AL L.length cl, .int .i64 (L.length : Int), .int .i64 (L.length : Int), .bool false, u21, u22, u23, u24, u25, u26, u27, u28, u29, u30, u31, u32, u33, u34, u35, u36, u37, undef, undef, undef, undef, undef, undef, undef, undef, undef, undef, undef, undef, undef, undef, undef, undef, undef, undef, undef, undef, undef, undef], defers := ds }) (((xD n L).filter (fun y => decide (y < 0))).length + L.length) ?_ ?_
    · exact ⟨[], xD n L, L, _, _, _, _, _, _, _, _, _, _, _, _, _, _, _, _, _, _, _, ⟨rfl, hm00, hF, HBF, Marks.nil _ _⟩, rfl⟩
    clear hF HBF hbfs hk hlt
    rintro m a' W ⟨ds, out, q, u8, u9, u21, u22, u23, u24, u25, u26, u27, u28, u29, u30, u31, u32, u33, u34, u35, u36, u37, ⟨hm, hm20, HF, HBF, MK⟩, rfl⟩
    obtain ⟨v, hv6, hvT, hvn⟩ := HF.out.h6
    obtain ⟨Aq, cq, rfl, hq1, hq2, hqI⟩ := hvT.form
    rw [zw] at hv6
    have c6 := za hv6 0 rfl
    have c5' := za HF.out.h5 0 rfl
    have hol := HBF.out.len
    rw [hol] at c5'
    cases q with
    | nil =>
     have HFAR := zH HBF.out.far
     clear HNB HNA HS HI HL hv6 hvT hvn hq1 hq2 hqI
     go_wp2_with fail
     refine yR MK.out (v := .slice (some ⟨g, 0, none⟩) n n) (fun W => by kernel_rfl) ?_
     intro X hX
     refine ⟨out, g, rfl, Nat.le_of_lt HF.out.lg, ?_, hol, HFAR.out, HF.out.below.trans hX.below⟩
     exact hX.same _ _ HF.out.row rfl
    | cons h q' =>
     have hpop := HBF.out.pop
     have hhn := hpop.hlt
     obtain ⟨bq, oq, eAq, hbq, zq⟩ := hqI.at_ 0 (by rw [zw]; simp)
     rw [uU] at zq
     have zq : W.cell? ⟨bq, oq, none⟩ = some (.int .i64 (h : Int)) := by simpa using zq
     have hvT2 : Tail W w.heap.size (.slice Aq ((zO q').length + 1) cq) ((h : Int) :: zO q') := hvT
     obtain ⟨A2, hrun, hT2, hob⟩ := hvT2.cut
     rw [zw] at hT2 hob hrun
     subst eAq
     have hv6' : W.heap[b6]? = some (.cells #[.slice (some ⟨bq, oq, none⟩) (q'.length + 1) cq] 38 (0, 0)) := hv6
     have c6' : W.cell? ⟨b6, 0, none⟩ = some (.slice (some ⟨bq, oq, none⟩) (q'.length + 1) cq) := c6
     have hq1' : q'.length + 1 ≤ cq := by simpa [zw] using hq1
     have hgW := HF.out.row.lt
     have HPOP := zH hpop
     have HVT : Hid (Tail W w.heap.size (.slice (some ⟨bq, oq, none⟩) (q'.length + 1) cq) (zO (h :: q'))) := by
      have := hvT
      rw [zw] at this
      exact this
     have HVN : Hid (∀ z, (Value.slice (some ⟨bq, oq, none⟩) (q'.length + 1) cq).ownBlock = some z → z ≠ g ∧ ¬ False) := by
      have := hvn
      rw [zw] at this
      exact this
     have HT2 := zH hT2
     have HOB := zH hob
     have HV6 := zH hv6'
     have HM2 : Hid (q'.length ≤ 200000) := by
      show q'.length ≤ 200000
      rw [List.length_cons] at hm
      omega
     have HM : Hid (m = (out.filter (fun y => decide (y < 0))).length + (q'.length + 1)) := hm
     clear hpop c6 hv6 hqI hq1 hvT hvT2 hT2 hvn hob hv6' hm
     go_upto_region 10 with fail
     obtain ⟨W1, hW1, d9, hz1, hB1⟩ := zj W #[.int .i64 (h : Int)] 3
     rw [hW1]
     obtain ⟨b9, hb9⟩ : ∃ b9, W.heap.size = b9 := ⟨_, rfl⟩
     have g6 := (hB1.block _ (zd HV6.out)).trans HV6.out
     have hF1 := HF.out.on hB1
     have hl6 := zd HV6.out
     have hl69 : b6 < b9 := by omega
     have c61 := za g6 0 rfl
     have f61 := zb g6 0
     rw [hb9] at d9 hz1 ⊢
     have HD9 := zH d9
     have HB1 := zH hB1
     have HG6 := zH g6
     clear hW1 d9 c6' hB1 zq g6 hF1
     go_upto_region 11 with fail
     obtain ⟨W2, hW2⟩ : ∃ W2, W1.setCell ⟨b6, 0, none⟩ (.slice A2 q'.length (cq - 1)) = W2 := ⟨_, rfl⟩
     rw [hW2]
     have hne69 : b9 ≠ b6 := by omega
     have hF2 : FlIn w.heap.size b5 b6 g (fun z => z = b9) #[.int .i64 (n : Int), .slice Ap ps.length kp, .map (some bC), .map (some bM)] out q' w W2 := by
      rw [← hW2]
      have hFr := (HF.out.reno (No' := fun z => z = b9) (fun z hz => .inr (by omega)))
      have hFo := hFr.on HB1.out
      exact hFo.wait HG6.out (Below.refl _ _) (fun _ _ _ => rfl) (HVT.out.same fun j e => HB1.out.block j ((HVT.out.lt j e).2)) (fun z e => ⟨(HVN.out z e).1, fun e2 => by have := (HVT.out.lt z e).2; omega⟩) (HT2.out.same fun j e => HB1.out.block j (HT2.out.lt j e).2) (.inl HOB.out) (fun z hz => by omega)
     have hd9 : W2.heap[b9]? = some (.cells #[.int .i64 (h : Int)] 3 (0, 0)) := by rw [← hW2]; exact (Below.heap_setCell W1 ⟨b6, 0, none⟩ _ b9 hne69).trans HD9.out
     have hs2 : W2.heap.size = b9 + 1 := by rw [← hW2]; simp [World.setCell]; exact hz1
     have MK2 : Hid (Marks w.heap.size ds W2) := xv (w := W) MK.out fun y hy => by
      rw [← hW2]
      refine (Below.heap_setCell W1 ⟨b6, 0, none⟩ _ y (fun e => ?_)).trans ((HB1.out.block y (by rw [hb9]; have := (Array.getElem?_eq_some_iff.1 hy).1; omega)).trans hy)
      have e' : y = b6 := e
      rw [e', HV6.out] at hy; cases hy
     have HF2 := zH hF2
     have HD92 := zH hd9
     have p0 := za hF2.b0 0 rfl
     have p1 := za hF2.b0 1 rfl
     have p2 := za hF2.b0 2 rfl
     have p3 := za hF2.b0 3 rfl
     have z9 := za hd9 0 rfl
     clear hF2 hd9 hW2 HD9 HB1 HG6 c61 f61 HF HVT HVN HT2 HOB HV6 MK hrun
     go_wp2_with fail
     refine (HNA.out (h : Int) W2).mono ?_
     rintro e W3 ⟨rfl, hW3⟩
     obtain ⟨V3, hV3, y0, y1, hs3, hB3⟩ := zW W2 #[.int .i64 (n : Int), .slice Ap ps.length kp, .map (some bC), .map (some bM)] #[.int .i64 (h : Int)] 126 3
     rw [hW3] at hV3
     subst hV3
     have hs3' : W3.heap.size = W2.heap.size + 2 := by rw [← hW3]; simp
     rw [hs2] at y0 y1 hs3' ⊢
     have HF3 := zH ((HF2.out.reno (No' := fun z => b9 ≤ z ∧ z ≤ b9 + 1 + 1) (fun z hz => if e : z = b9 then .inl e else .inr (by omega))).on hB3)
     have HD93 := zH ((hB3.block _ (by omega : b9 < W2.heap.size)).trans HD92.out)
     have MK3 : Hid (Marks w.heap.size ds W3) := xv (w := W2) MK2.out fun y hy => (hB3.block y (Array.getElem?_eq_some_iff.1 hy).1).trans hy
     have hBW : w.heap.size < b9 := by have := zd HF2.out.b0; have := HF2.out.l6; omega
     have hgl9 : g < b9 := by rw [← hb9]; exact hgW
     have HIT := zH (HNB.out h hhn (b9 + 1) (b9 + 1 + 1) W3 y0 y1 (HS.out.keep HF3.out.below) HF3.out.below.size)
     clear hW3 y0 y1 hs3 hB3 HD92 MK2 HF2 p0 p1 p2 p3 z9 HNB HNA HI
     go_wp2_with fail
     refine qV rfl (enters_of Tryz.func131 (by kernel_rfl) rfl) HIT.out (by rintro x (h | rfl | rfl) <;> omega) (fun _ => rfl)
      (fun (pre : List { x : Nat × Nat // x ∈ zL ps cls h }) (X : World) => ∃ (out2 : List Int) (q2 : List Nat), FlIn w.heap.size b5 b6 g (fun z => b9 ≤ z ∧ z ≤ b9 + 1 + 1) #[.int .i64 (n : Int), .slice Ap ps.length kp, .map (some bC), .map (some bM)] out2 q2 w X ∧ BfsH n (yN ps cls) (fun i => i ∈ L) h (pre.map fun x => x.1.1) out2 q2 ∧ (out2.filter (fun y => decide (y < 0))).length + q2.length = (out.filter (fun y => decide (y < 0))).length + q'.length ∧ X.heap[b9]? = some (.cells #[.int .i64 (h : Int)] 3 (0, 0)) ∧ W3.heap.size ≤ X.heap.size ∧ (∀ y : Nat, W3.heap[y]? = some (Obj.deferred (some [])) → X.heap[y]? = some (Obj.deferred (some []))))
      (fun _ _ _ => False)
      ?hI (fun _ _ _ _ _ h _ _ => h)
      ⟨out, q', HF3.out, HPOP.out, rfl, HD93.out, Nat.le_refl _, fun _ h => h⟩ (fun x => #[.int .i64 x.1, .int .i64 x.2]) 75 ?a1 ?assign ?body ?done ?stop (fun _ _ h => by obtain ⟨_, _, _, _, _, _, h5, _⟩ := h; exact h5)
     case hI =>
      rintro pre X X' row ⟨out2, q2, k1, k2, k3, k4, k5, k6⟩ hg hr
      refine ⟨out2, q2, k1.turn hg (fun r e => ⟨by have := (hr r e).1; omega, (hr r e).2⟩), k2, k3, (grownBy_keeps_cells hg (fun r e => (hr r e).2) k4 rfl).trans k4, Nat.le_trans k5 hg.size, fun y hy => ?_⟩
      have hy2 := k6 y hy
      have hyl := (Array.getElem?_eq_some_iff.1 hy).1
      exact (hg.block y (by omega) (fun e => by have := (hr y e.symm).1; omega)).trans hy2
     case assign =>
      intro l pre x X K' hI hK
      obtain ⟨g', hg'⟩ : ∃ g', g' = X.heap.size := ⟨_, rfl⟩
      obtain ⟨out2, q2, k1, k2, k3, k4, k5, k6⟩ := hI
      have HK := zH (hK g' hg' ⟨out2, q2, k1.on (zF X _), k2, k3, zY k4 _, by simp; omega, fun y hy => (Below.heap_alloc X _ y (Array.getElem?_eq_some_iff.1 (k6 y hy)).1).trans (k6 y hy)⟩)
      have HG := zH hg'
      clear hK hg' k1 k2 k3 k4 k5 k6
      gi_wp2
      rw [← HG.out]
      exact HK.out
     case body =>
      rintro l pre x g9 W4 hg9 hgb ⟨out2, q2, k1, k2, k3, k4, k5, k6⟩ hlt
      obtain ⟨hm1, hm2, hm3⟩ := (qC HS.out.len).1 x.2
      obtain ⟨t, ht⟩ : ∃ t, x.1.1 = t := ⟨_, rfl⟩
      obtain ⟨p, hp⟩ : ∃ p, x.1.2 = p := ⟨_, rfl⟩
      rw [ht] at hm1 hm3 hgb
      rw [hp] at hm2 hm3 hgb
      have hadj : yN ps cls t h := ⟨p, hm2, hm3⟩
      have hpre : (pre ++ [x]).map (fun x => x.1.1) = pre.map (fun x => x.1.1) ++ [t] := by rw [List.map_append, List.map_cons, List.map_nil, ht]
      have c5 := za k1.h5 0 rfl
      rw [k2.len] at c5
      have htl : t < out2.length := by rw [k2.len]; exact hm1
      have hhl : h < out2.length := by rw [k2.len]; exact hhn
      have rt := k1.row.cell t htl
      rw [← zD htl 0] at rt
      obtain ⟨ot, hot⟩ : ∃ ot, out2.getD t 0 = ot := ⟨_, rfl⟩
      rw [hot] at rt
      have g0 := za hgb 0 rfl
      have ht0 : (0 : Int) ≤ (t : Int) := by omega
      have ht1 : (t : Int) < (n : Int) := by omega
      have K1 := zH k1
      have K2 := zH k2
      have K3 := zH k3
      have K4 := zH k4
      have K6 := zH k6
      have HPR := zH hpre
      have HAD := zH hadj
      by_cases hneg : ot < 0
      case neg =>
       clear k1 k2 k3 k4 k6 hpre hadj HIT HF3 HD93 MK3 HPOP HM hm2 hm3
       gi_wp2_with fail
       refine ⟨⟨Nat.le_refl _, fun _ _ _ h _ => h⟩, KeepB.refl _ _, out2, q2, K1.out, ?_, K3.out, K4.out, by omega, K6.out⟩
       rw [HPR.out]
       exact K2.out.skip (by rw [hot]; omega)
      case pos =>
       have rh := k1.row.cell h hhl
       rw [← zD hhl 0] at rh
       have hoh0 := k2.hge
       have hoh1 := jU (f := fun i => out2.getD i 0) k2.step hhn
       obtain ⟨oh, hoh⟩ : ∃ oh, out2.getD h 0 = oh := ⟨_, rfl⟩
       change out2.getD h 0 < (n : Int) at hoh1
       rw [hoh] at rh hoh0 hoh1
       have hwr : IntKind.i64.wrap (oh + 1) = oh + 1 := by rw [IntKind.wrap_i64]; omega
       have ft := k1.row.froz t
       have z9 := za k4 0 rfl
       have hh0 : (0 : Int) ≤ (h : Int) := by omega
       have hh1 : (h : Int) < (n : Int) := by omega
       have hlg := k1.row.lt
       clear k1 k2 k3 k4 k6 hpre hadj HIT HF3 HD93 MK3 HPOP HM hm2 hm3
       gi_wp2_with fail
       refine qA 9 (by kernel_rfl) (by kernel_rfl) (by kernel_rfl) (by rintro ⟨_, _, h⟩; exact h) ?_
       simp only [List.take_succ_cons, List.take_zero, List.drop_succ_cons, List.drop_zero]
       repeat still_step
       try refine wpStill_nil ?_
       change wpList _ _ _ _ _ W4.drew
       go_wp2_with fail
       have HF5 := zH ((K1.out.set t (oh + 1)).on (W' := (W4.setCell ⟨g, t, none⟩ (.int .i64 (oh + 1))).drew) (Below.refl _ _).drew)
       have hW5o : Hid (∀ k, k ≠ g → (W4.setCell ⟨g, t, none⟩ (.int .i64 (oh + 1))).drew.heap[k]? = W4.heap[k]?) := fun k hk => Below.heap_setCell W4 ⟨g, t, none⟩ _ k hk
       have hW5s : (W4.setCell ⟨g, t, none⟩ (.int .i64 (oh + 1))).drew.heap.size = W4.heap.size := by simp [World.setCell]
       obtain ⟨W5, hW5⟩ : ∃ W5, (W4.setCell ⟨g, t, none⟩ (.int .i64 (oh + 1))).drew = W5 := ⟨_, rfl⟩
       rw [hW5] at HF5 hW5o hW5s ⊢
       have hgb5 := (hW5o.out g9 (by omega)).trans hgb
       have K45 := (hW5o.out b9 (by omega)).trans K4.out
       have HK45 := zH K45
       obtain ⟨v5, hv5, hvT5, hvn5⟩ := HF5.out.h6
       obtain ⟨A5', c5'', rfl, hq51, hq52, _⟩ := hvT5.form
       rw [zw] at hv5 hvT5 hvn5
       have c6 := za hv5 0 rfl
       have g05 := za hgb5 0 rfl
       have hneg2 := neg_set (out := out2) (t := t) (x := oh + 1) htl (by rw [hot]; exact hneg) (by omega)
       have hql : q2.length ≤ 400000 := by
        have e1 := K3.out
        have e2 : (out.filter (fun y => decide (y < 0))).length ≤ n := by rw [← hol]; exact List.length_filter_le _ _
        have e3 := HM2.out
        omega
       have HV5 := zH hv5
       have HVT5 := zH hvT5
       have HVN5 := zH hvn5
       have HN2 := zH hneg2
       clear hW5 rt rh ft z9 g0 c5 hgb hgb5 K45 hvT5 hvn5 hv5 hneg2
       gi_wp2_with (gi_at_builtin; go_must (refine gK _ rfl _ _ rfl w.heap.size (.slice A5' q2.length c5'') (zO q2) (t : Int) (by simp [go_sem]) (HVT5.out.same fun j e => Below.heap_alloc W5 _ j (HVT5.out.lt j e).2) ⟨W5.heap.size, 0, none⟩ (by simp [go_sem]) (za (zh W5 _) 0 rfl) (by rw [zw]; omega) (by have := HF5.out.below.size; simp; omega) ?_); intro v' W7 hown7 hg7 hat7
                    have hb7 : Below w.heap.size W5 W7 := (zF W5 (.cells #[.int .i64 (t : Int)] 3)).mono HF5.out.below.size |>.grown hg7 (by have := HF5.out.below.size; simp; omega) (fun k hk => (HVT5.out.lt k hk).1)
                    have hs7 : ∀ j, j < W5.heap.size → (Value.slice A5' q2.length c5'').ownBlock ≠ some j → W7.heap[j]? = W5.heap[j]? := fun j hj hne => (hg7.block j (by simp; omega) (fun e => hne e.symm)).trans (Below.heap_alloc W5 _ j hj)
                    have h67 := (hs7 b6 (zd HV5.out) (qY HVT5.out HV5.out (by decide))).trans HV5.out
                    have q6 := za h67 0 rfl
                    have f6 := zb h67 0
                    have l6 := zd h67
                    obtain ⟨A7, k7, rfl, h71, h72, _⟩ := hown7.form
                    have HT7 := zH hown7
                    have HB7 := zH hb7
                    have HS7 := zH hs7
                    have HAT := zH hat7
                    clear h67 hown7 hg7 hat7 hb7 hs7)
       have hv' : Tail W7 w.heap.size (.slice A7 ((zO q2).length + 1) k7) (zO (q2 ++ [t])) := by
        have := HT7.out
        rw [List.length_append, List.length_singleton] at this
        rw [YV]
        exact this
       have hsB := HF5.out.below.size
       have hgt : (Value.slice A7 ((zO q2).length + 1) k7).ownBlock = (Value.slice A5' q2.length c5'').ownBlock ∨ ∃ z, (Value.slice A7 ((zO q2).length + 1) k7).ownBlock = some z ∧ W5.heap.size ≤ z := by
        have := HAT.out
        rw [List.length_append, List.length_singleton] at this
        exact this.imp id fun e => ⟨_, e, by simp⟩
       have hwait := HF5.out.wait (q' := q2 ++ [t]) HV5.out HB7.out HS7.out HVT5.out HVN5.out hv' hgt (fun z hz => by omega)
       have l65 := zd HV5.out
       have ch : ∀ k, k < W4.heap.size → k ≠ g → k ≠ b6 → (Value.slice A5' q2.length c5'').ownBlock ≠ some k → (W7.setCell ⟨b6, 0, none⟩ (.slice A7 ((zO q2).length + 1) k7)).heap[k]? = W4.heap[k]? := fun k hk h1 h2 h3 =>
        (Below.heap_setCell W7 ⟨b6, 0, none⟩ _ k h2).trans ((HS7.out k (by omega) h3).trans (hW5o.out k h1))
       have hszf : (W7.setCell ⟨b6, 0, none⟩ (.slice A7 ((zO q2).length + 1) k7)).heap.size = W7.heap.size := by simp [World.setCell]
       have hs57 := HB7.out.size
       have hn6 := K1.out.ne6
       obtain ⟨v4, hv4, _, _⟩ := K1.out.h6
       have nocell : ∀ (k : Nat) (o : Obj), W4.heap[k]? = some o → o.isCells = false → (W7.setCell ⟨b6, 0, none⟩ (.slice A7 ((zO q2).length + 1) k7)).heap[k]? = some o := fun k o hk ho => by
        have e1 : k ≠ g := by rintro rfl; have := K1.out.row; unfold RowAt at this; rw [this] at hk; cases hk; cases ho
        have e2 : k ≠ b6 := by rintro rfl; rw [hv4] at hk; cases hk; cases ho
        refine (ch k (zd hk) e1 e2 fun e => ?_).trans hk
        obtain ⟨cur, hc⟩ := HVT5.out.cells k e
        rw [(hW5o.out k e1).trans hk] at hc
        cases hc; cases ho
       refine ⟨⟨by omega, fun k o _ hk ho => nocell k o hk ho⟩, ⟨by omega, fun k hk hl => by
        have hk' : k < w.heap.size ∨ k = b9 + 1 ∨ k = b9 + 1 + 1 := hk
        have y1 := HF5.out.lg
        have y2 := HF5.out.l6
        exact ch k hl (by omega) (by omega) (fun e => by have h1 := (HVT5.out.lt k e).1; have h2 := (HVN5.out k e).2; omega)⟩, out2.set t (oh + 1), q2 ++ [t], hwait, ?_, ?_, ?_, by omega, fun y hy => nocell y _ (K6.out y hy) rfl⟩
       · rw [HPR.out, ← hoh]
         exact K2.out.see hm1 HAD.out (by rw [hot]; exact hneg)
       · have h1 := HN2.out
         have h2 := K3.out
         rw [List.length_append, List.length_singleton]
         omega
       · refine (ch b9 (by omega) (by omega) (by omega) (fun e => ?_)).trans K4.out
         have h2 := (HVN5.out b9 e).2
         omega
     case done =>
      rintro D ys W4 hD hys ⟨out2, q2, k1, k2, k3, k4, k5, k6⟩ hDk
      have hmap : ys.map (fun x => x.1.1) = (zL ps cls h).map (·.1) := by rw [show ys.map (fun x => x.1.1) = (ys.map (·.1)).map (·.1) by rw [List.map_map]; rfl, hys]
      have hbf := k2.close (fun i hi ha => by rw [hmap]; exact (nbr_adj HS.out.len hi).2 ha)
      have HF4 := zH (k1.reno (No' := fun _ => False) (fun z hz => hz.elim))
      have HBF4 := zH hbf
      have MK4 : Hid (Marks w.heap.size ({ target := .collected D, args := #[] } :: ds) W4) := Marks.cons MK3.out (fun y hy => k6 y hy) HF3.out.below.size hD hDk
      clear hmap hbf k1 k2 k4 k6 hys hDk HIT HF3 HD93 MK3 HPOP
      try dsimp only
      go_wp2_with fail
      refine ⟨_, ?_, _, out2, q2, _, _, _, _, _, _, _, _, _, _, _, _, _, _, _, _, _, _, _, ⟨rfl, by have := HM.out; omega, HF4.out, HBF4.out, MK4.out⟩, rfl⟩
      rw [HM.out, k3]
      omega
     case stop =>
      intro D c pre W _ _ h
      exact h.elim
end
section
open Go.RowKit Go.Shelf
attribute [local go_sem] Oper.semAt_some
def js (a b : List Int) (k : Nat) : List Int := a.take k ++ b.drop k
theorem JP (a b : List Int) : js a b 0 = b := by simp [js]
theorem midL_all {a b : List Int} (h : a.length = b.length) {k : Nat} (hk : k = b.length) : js a b k = a := by subst hk; simp [js, ← h]
theorem wS {a b : List Int} (h : a.length = b.length) (k : Nat) : (js a b k).length = b.length := by simp [js]; omega
theorem midL_at {a b : List Int} (h : a.length = b.length) {k : Nat} (hk : k < b.length) : (js a b k)[k]'(by rw [wS h]; exact hk) = b[k] := by
 unfold js
 rw [List.getElem_append_right (by simp; omega)]
 simp [show min k a.length = k by omega]
theorem YQ {a b : List Int} (h : a.length = b.length) {k : Nat} (hk : k ≤ b.length) (i : Nat) : (js a b k)[i]? = if i < k then a[i]? else b[i]? := by
 unfold js
 by_cases e : i < k
 · rw [if_pos e, List.getElem?_append_left (by simp; omega), List.getElem?_take, if_pos e]
 · rw [if_neg e, List.getElem?_append_right (by simp; omega), List.getElem?_drop]
   congr 1
   simp
   omega
theorem YP {a b : List Int} (h : a.length = b.length) {k : Nat} (hk : k < b.length) : (js a b k).set k (a[k]'(by omega)) = js a b (k + 1) := by
 refine List.ext_getElem? fun i => ?_
 rw [List.getElem?_set, YQ h (by omega), YQ h (by omega), wS h]
 by_cases e : k = i
 · subst e
   rw [if_pos rfl, if_pos hk, if_pos (by omega), List.getElem?_eq_getElem]
 · rw [if_neg e]
   by_cases e2 : i < k
   · rw [if_pos e2, if_pos (by omega)]
   · rw [if_neg e2, if_neg (by omega)]
theorem JQ {a b : List Int} (h : a.length = b.length) {k : Nat} (hk : k < b.length) (e : a[k]'(by omega) = b[k]) : js a b k = js a b (k + 1) := by
 rw [← YP h hk, e, ← midL_at h hk]
 exact (List.set_getElem_self _).symm
structure CmIn (B g : Nat) (C : Array Value) (out : List Int) (w W : World) : Prop where
 below : Below B w W
 b0 : W.heap[B]? = some (.cells C 126 (0, 0))
 row : RowAt W g out
 lg : B < g
theorem CmIn.on {B g : Nat} {C : Array Value} {out : List Int} {w W W' : World} (h : CmIn B g C out w W) (hb : Below W.heap.size W W') : CmIn B g C out w W' :=
 ⟨h.below.trans (hb.mono (by have := zd h.b0; omega)), (hb.block _ (zd h.b0)).trans h.b0, (hb.block _ h.row.lt).trans h.row, h.lg⟩
theorem CmIn.set {B g : Nat} {C : Array Value} {out : List Int} {w W : World} (h : CmIn B g C out w W) (k : Nat) (u : Int) : CmIn B g C (out.set k u) w (W.setCell ⟨g, k, none⟩ (.int .i64 u)) := by
 have hlg := h.lg
 exact ⟨h.below.setCell (by show B ≤ g; omega) _, (Below.heap_setCell W ⟨g, k, none⟩ _ B (by show B ≠ g; omega)).trans h.b0, h.row.set k u, hlg⟩
set_option maxRecDepth 100000 in
theorem comps_any (n : Nat) (h1 : 1 ≤ n) (hn : n ≤ 100000) (Ap : Option Addr) (kp bC bM : Nat) (ps : List Nat) (hpl : ps.length ≤ 100) (cls : Nat → List Int) (w : World) (hS : StAt w w.heap.size Ap bC bM n ps cls) :
  Calls Tryz.prog 66 #[.agg (stC n Ap ps.length kp bC bM)] w fun e w' => ∃ g : Nat, e = .returned (.slice (some ⟨g, 0, none⟩) n n) ∧ w.heap.size ≤ g ∧ RowAt w' g (kQ n (yN ps cls)) ∧ Below w.heap.size w w' := by
 have hs := uj ps cls
 have HS := zH hS
 have HSK := zH (fun (i : Nat) (hi : i < n) (h : 0 ≤ (yw n (yN ps cls) i).getD i 0) => Xc hs hi h)
 have HNW := zH (fun (i : Nat) (hi : i < n) (h : (yw n (yN ps cls) i).getD i 0 < 0) (d : List Int) (hd : d.length = n) (hf : Far n (yN ps cls) (fun k => k = i) (fun k => d.getD k 0)) => Qu hs hi h hd hf)
 have HEND : Hid (yw n (yN ps cls) n = kQ n (yN ps cls)) := Qv
 have HZ : Hid (yw n (yN ps cls) 0 = List.replicate n (-1)) := Xb
 have HZ2 : Hid (xW n (yN ps cls) 0 = 0) := YH
 have HLE := zH (fun i => JJ (n := n) (adj := yN ps cls) i)
 have HLN := zH (fun i => kL (n := n) (adj := yN ps cls) i)
 have HFI := zH (fun (i : Nat) (hi : i < n) (A : Option Addr) (X : World) (hX : StAt X X.heap.size Ap bC bM n ps cls) (hI : IAt X X.heap.size A (zO [i])) => gg n h1 hn Ap kp bC bM ps hpl cls [i] (by simpa using hi) (by simp) A 1 X hX hI)
 obtain ⟨CT, hCT⟩ : ∃ CT, yw n (yN ps cls) = CT := ⟨_, rfl⟩
 obtain ⟨NT, hNT⟩ : ∃ NT, xW n (yN ps cls) = NT := ⟨_, rfl⟩
 obtain ⟨R, hR⟩ : ∃ R, kQ n (yN ps cls) = R := ⟨_, rfl⟩
 rw [hCT] at HSK HNW HEND HZ HLN
 rw [hNT] at HSK HNW HZ2 HLE
 rw [hR] at HEND ⊢
 unfold stC at HFI ⊢
 clear hS hCT hNT hR hs
 go_enter Tryz.func66, Tryz.ntmps66
 go_wp2_with fail
 obtain ⟨w2, hw2, d0, d1, hs2, hB⟩ := zW w #[.int .i64 (n : Int), .slice Ap ps.length kp, .map (some bC), .map (some bM)] #[.int .i64 (-1)] 126 3
 rw [hw2]
 refine (uz n (w.heap.size + 1) h1 hn (-1) w2 d1).mono ?_
 rintro e w3 ⟨g, rfl, hgg, hrow, hB3⟩
 have hF : CmIn w.heap.size g #[.int .i64 (n : Int), .slice Ap ps.length kp, .map (some bC), .map (some bM)] (CT 0) w w3 :=
  ⟨hB.trans (hB3.mono (by omega)), (hB3.block _ (by omega)).trans d0, by rw [HZ.out]; exact hrow, by omega⟩
 have HF := zH hF
 clear hF hw2 d0 d1 hB hrow hB3 hs2 hgg
 go_wp2_with fail
 go_loopw [4, 14] (fun nx i wr => ∃ k : Nat, k ≤ n ∧ i = .int .i64 (k : Int) ∧ nx = .int .i64 ((NT k : Nat) : Int) ∧ Hid (CmIn w.heap.size g #[.int .i64 (n : Int), .slice Ap ps.length kp, .map (some bC), .map (some bM)] (CT k) w wr)) (fun _ i _ => n - (intOf i).toNat)
 case atStart => exact ⟨0, by omega, rfl, by rw [HZ2.out]; rfl, HF.out⟩
 case round =>
  obtain ⟨k, hk, rfl, rfl, hF⟩ := hrel
  clear HF HZ HZ2
  by_cases hlt : k < n
  · have hrl : k < (CT k).length := by rw [HLN.out]; exact hlt
    have rk := hF.out.row.cell k hrl
    rw [← zD hrl 0] at rk
    obtain ⟨o, ho⟩ : ∃ o, (CT k).getD k 0 = o := ⟨_, rfl⟩
    rw [ho] at rk
    have hk0 : (0 : Int) ≤ (k : Int) := by omega
    have hk1 : (k : Int) < (n : Int) := by omega
    by_cases h0 : 0 ≤ o
    · obtain ⟨e1, e2⟩ := HSK.out k hlt (by rw [ho]; exact h0)
      have hF2 : Hid (CmIn w.heap.size g #[.int .i64 (n : Int), .slice Ap ps.length kp, .map (some bC), .map (some bM)] (CT (k + 1)) w wr) := by rw [e1]; exact hF
      have E2 := zH e2
      clear HNW HSK HFI e1 e2 hF
      go_wp2_with fail
      go_roundw
      case rel => exact ⟨k + 1, by omega, by go_num, by rw [E2.out], hF2.out⟩
      case measure => simp [intOf]; omega
    · have hneg : (CT k).getD k 0 < 0 := by omega
      have HNK := zH (HNW.out k hlt hneg)
      have p0 := za hF.out.b0 0 rfl
      have p1 := za hF.out.b0 1 rfl
      have p2 := za hF.out.b0 2 rfl
      have p3 := za hF.out.b0 3 rfl
      clear HNW HSK hneg
      go_wp2_with fail
      obtain ⟨w4, hw4, d4, hs4, hB4⟩ := zj wr #[.int .i64 (k : Int)] 3
      rw [hw4]
      have hF4 := hF.out.on hB4
      have hi4 : IAt w4 w4.heap.size (some ⟨wr.heap.size, 0, none⟩) (zO [k]) := fun _ => ⟨_, 0, rfl, zd d4, fun i hi => by
       have : i = 0 := by simp [zO] at hi; omega
       subst this
       exact za d4 0 rfl⟩
      refine (HFI.out k hlt _ w4 ((HS.out.keep hF4.below).more hF4.below.size) hi4).mono ?_
      rintro e w5 ⟨d, gd, rfl, hgd, hrd, hdl, hfar, hB5⟩
      have hfar2 : Far n (yN ps cls) (fun j => j = k) (fun j => d.getD j 0) := ⟨hfar.ge, fun i hi => by rw [hfar.zero i hi]; simp, hfar.step, hfar.low⟩
      obtain ⟨e1, e2⟩ := HNK.out d hdl hfar2
      have hF5 := hF4.on hB5
      have hgl := hF4.row.lt
      have HF5 := zH hF5
      have HRD := zH hrd
      have E1 := zH e1
      have E2 := zH e2
      have hneg : ¬ gd = g := by omega
      have hle := HLE.out k
      clear hw4 d4 hs4 hB4 hF4 hi4 hB5 hrd hfar hfar2 e1 e2 hF5 HNK hF HFI p0 p1 p2 p3 rk hgl hgd
      go_wp2_with fail
      go_loopw [27] (fun j wr => ∃ m : Nat, m ≤ n ∧ j = .int .i64 (m : Int) ∧ Hid (CmIn w.heap.size g #[.int .i64 (n : Int), .slice Ap ps.length kp, .map (some bC), .map (some bM)] (js (CT (k + 1)) (CT k) m) w wr) ∧ Hid (RowAt wr gd d)) (fun j _ => n - (intOf j).toNat)
      case atStart => exact ⟨0, by omega, rfl, by rw [JP]; exact HF5.out, HRD.out⟩
      case round =>
       obtain ⟨m, hm, rfl, hFm, hRm⟩ := hrel
       clear HF5 HRD
       have hln : (CT (k + 1)).length = (CT k).length := by rw [HLN.out, HLN.out]
       by_cases hml : m < n
       · have hmk : m < (CT k).length := by rw [HLN.out]; exact hml
         have hmd : m < d.length := by omega
         have rd := hRm.out.cell m hmd
         rw [← zD hmd 0] at rd
         obtain ⟨dm, hdm⟩ : ∃ dm, d.getD m 0 = dm := ⟨_, rfl⟩
         rw [hdm] at rd
         have hE := E1.out m hml
         rw [hdm] at hE
         have hm0 : (0 : Int) ≤ (m : Int) := by omega
         have hm1 : (m : Int) < (n : Int) := by omega
         by_cases hd0 : 0 ≤ dm
         · have rg := hFm.out.row.cell m (by rw [wS hln]; exact hmk)
           have fg := hFm.out.row.froz m
           have hset := hFm.out.set m ((NT k : Nat) : Int)
           have hv : (CT (k + 1))[m]'(by omega) = ((NT k : Nat) : Int) := by
            rw [← zD (by omega) 0, hE, if_pos hd0]
           rw [← hv, YP hln hmk, hv] at hset
           have HSET := zH hset
           have HR2 : Hid (RowAt (wr.setCell ⟨g, m, none⟩ (.int .i64 ((NT k : Nat) : Int))) gd d) := (Below.heap_setCell wr ⟨g, m, none⟩ _ gd hneg).trans hRm.out
           clear hset hv hE hFm hRm
           go_wp2_with fail
           go_roundw
           case rel => exact ⟨m + 1, by omega, by go_num, HSET.out, HR2.out⟩
           case measure => simp [intOf]; omega
         · have hv : (CT (k + 1))[m]'(by omega) = (CT k)[m] := by
            rw [← zD (by omega) 0, hE, if_neg hd0, zD hmk]
           have hF2 : Hid (CmIn w.heap.size g #[.int .i64 (n : Int), .slice Ap ps.length kp, .map (some bC), .map (some bM)] (js (CT (k + 1)) (CT k) (m + 1)) w wr) := by
            rw [← JQ hln hmk hv]; exact hFm
           clear hv hE hFm
           go_wp2_with fail
           go_roundw
           case rel => exact ⟨m + 1, by omega, by go_num, hF2.out, hRm.out⟩
           case measure => simp [intOf]; omega
       · obtain rfl : m = n := by omega
         have hF2 : Hid (CmIn w.heap.size g #[.int .i64 (m : Int), .slice Ap ps.length kp, .map (some bC), .map (some bM)] (CT (k + 1)) w wr) := by
          have := hFm.out
          rw [midL_all hln (by rw [HLN.out])] at this
          exact this
         clear hFm hRm
         go_wp2_with fail
         go_roundw
         case rel => exact ⟨k + 1, by omega, by go_num, by rw [E2.out]; go_num, hF2.out⟩
         case measure => simp [intOf]; omega
  · obtain rfl : k = n := by omega
    have hF2 : Hid (CmIn w.heap.size g #[.int .i64 (k : Int), .slice Ap ps.length kp, .map (some bC), .map (some bM)] R w wr) := by rw [← HEND.out]; exact hF
    clear hF HNW HSK HFI HEND
    go_wp2_with fail
    go_ret
    exact ⟨g, rfl, Nat.le_of_lt hF2.out.lg, hF2.out.row, hF2.out.below⟩
end
section
open Go.RowKit Go.Shelf
attribute [local go_sem] Oper.semAt_some
def RetIA (xs : List Int) (n : Int) (w : World) (e : Ending) (w' : World) : Prop := ∃ A c, e = .returned (.tuple #[.slice A xs.length c, .int .i64 n]) ∧ IAt w' w'.heap.size A xs ∧ Below w.heap.size w w'
theorem RowAt.iat {w : World} {g : Nat} {xs : List Int} (h : RowAt w g xs) : IAt w w.heap.size (some ⟨g, 0, none⟩) xs := fun _ => ⟨g, 0, rfl, h.lt, fun i hi => by rw [Nat.zero_add]; exact h.cell i hi⟩
set_option maxRecDepth 100000 in
theorem gq (s : Sy) (hs : LowS s) (hf : xO s.p) (g : Int) (A SV AV AX : Option Addr) (kc ks kv kx : Nat) (w : World) (hS : SyAt w w.heap.size A SV AV AX s) :
  Calls Tryz.prog 19 #[.agg (s.vs_ A kc SV ks AV kv AX kx), .int .i64 g] w (RetIA (ji s g).1 (ji s g).2 w) := by
 obtain ⟨w1, hw1, d0, hs1, hB⟩ := zj w (s.vs_ A kc SV ks AV kv AX kx) 35
 have HR := zH (Yu s hs hf g A SV AV AX kc ks kv kx w1 (hS.up hB))
 have HF := zH (fun h => xU (s := s) (g := g) hf h)
 have HE0 : Hid (zJ s g ≠ 0 → ji s g = ([], zJ s g)) := fun h => if_pos h
 have HE1 : Hid (zJ s g = 0 → ji s g = (kQ (ptn s) (yN (psG s g) (zS s)), 0)) := fun h => by unfold ji xh; rw [if_neg (by simpa using h)]
 unfold Jh stC yS at HR
 unfold Sy.vs_ at hw1 d0 HR ⊢
 obtain ⟨r, hr⟩ : ∃ r, zJ s g = r := ⟨_, rfl⟩
 rw [hr] at HR HF HE0 HE1
 obtain ⟨R, hRR⟩ : ∃ R, ji s g = R := ⟨_, rfl⟩
 rw [hRR] at HE0 HE1 ⊢
 have HW1 := zH hw1
 have HB := zH hB
 obtain ⟨p0, p1, p2, p3, p4, p5, p6, p7, p8, p9⟩ := zv d0
 clear hw1 d0 hB hS hr hRR hs hf
 go_enter Tryz.func19, Tryz.ntmps19
 go_wp2_with fail
 rw [HW1.out]
 go_wp2_with fail
 refine HR.out.mono ?_
 rintro e w2 ⟨hb2, (⟨hne, rfl⟩ | ⟨h0, Ap, kp, bC, bM, rfl, hSt⟩)⟩
 · have HB2 := zH (HB.out.trans (hb2.mono (by omega)))
   have hR : Hid (R = ([], r)) := HE0.out hne
   have e0 : (r != 0) = true := by simpa using hne
   clear p0 p1 p2 p3 p4 p5 p6 p7 p8 p9 hb2 HR HW1 HF HE0 HE1 hne
   go_wp2_with fail
   obtain ⟨w3, hw3, d3, hs3, hB3⟩ := zj w2 #[.int .i64 0, .slice none 0 0, .map none, .map none] 126
   rw [hw3]
   go_wp2_with fail
   go_ret2
   rw [hR.out]
   exact ⟨none, 0, rfl, IAt.nil _ _ _, HB2.out.trans (hB3.mono HB2.out.size)⟩
 · have HB2 := zH (HB.out.trans (hb2.mono (by omega)))
   have hR : Hid (R = (kQ (ptn s) (yN (psG s g) (zS s)), 0)) := HE1.out h0
   obtain ⟨f1, f2, f3⟩ := HF.out h0
   have HCO := zH (fun (X : World) (hX : StAt X X.heap.size Ap bC bM (ptn s) (psG s g) (zS s)) => comps_any (ptn s) f1 (by omega) Ap kp bC bM (psG s g) (by omega) (zS s) X hX)
   have HCL : Hid ((kQ (ptn s) (yN (psG s g) (zS s))).length = ptn s) := Zy _ _
   unfold stC at HCO
   have HST := zH (hSt w2 fun _ _ _ => rfl)
   subst h0
   obtain ⟨PN, hPN⟩ : ∃ PN, ptn s = PN := ⟨_, rfl⟩
   obtain ⟨PS, hPS⟩ : ∃ PS, psG s g = PS := ⟨_, rfl⟩
   rw [hPN, hPS] at hR HCO HST HCL ⊢
   clear p0 p1 p2 p3 p4 p5 p6 p7 p8 p9 hb2 HR HW1 HF HE0 HE1 hSt hPN hPS f1 f2 f3
   go_wp2_with fail
   obtain ⟨w3, hw3, d3, hs3, hB3⟩ := zj w2 #[.int .i64 (PN : Int), .slice Ap PS.length kp, .map (some bC), .map (some bM)] 126
   rw [hw3]
   have x0 := za d3 0 rfl
   have x1 := za d3 1 rfl
   have x2 := za d3 2 rfl
   have x3 := za d3 3 rfl
   have HB3 := zH hB3
   have HS3 := zH ((HST.out.keep hB3).more hB3.size)
   clear hw3 d3 hB3 HST
   go_wp2_with fail
   refine (HCO.out w3 HS3.out).mono ?_
   rintro e w4 ⟨g4, rfl, hg4, hr4, hb4⟩
   have HR4 := zH hr4
   have HB4 := zH (HB2.out.trans ((HB3.out.trans (hb4.mono (by omega))).mono HB2.out.size))
   clear hr4 hb4 x0 x1 x2 x3
   go_wp2_with fail
   go_ret2
   rw [hR.out]
   exact ⟨some ⟨g4, 0, none⟩, PN, by rw [HCL.out]; rfl, HR4.out.iat, HB4.out⟩
end
section
open Go.RowKit Go.Shelf
attribute [local go_sem] Oper.semAt_some
def gI (s : Sy) (g : Int) (set : List Bool) (w : World) (e : Ending) (w' : World) : Prop := Below w.heap.size w w' ∧ ((zC s g set ≠ 0 ∧ e = .returned (.tuple #[yS, .slice none 0 0, .int .i64 (zC s g set)])) ∨
 (zC s g set = 0 ∧ ∃ Ap kp bC bM AO co, e = .returned (.tuple #[.agg (stC (ptn s) Ap (psG s g).length kp bC bM), .slice AO (zX set).length co, .int .i64 0]) ∧ ∀ W, (∀ k, w.heap.size ≤ k → k < w'.heap.size → W.heap[k]? = w'.heap[k]?) → StAt W w'.heap.size Ap bC bM (ptn s) (psG s g) (zS s) ∧ IAt W w'.heap.size AO (zO (zX set))))
theorem JH (set : List Bool) (k : Nat) (h : k < set.length) : zX (set.take (k + 1)) = if set[k] = false then zX (set.take k) ++ [k] else zX (set.take k) := by
 rw [List.take_succ_eq_append_getElem h, JI, List.length_take, Nat.min_eq_left (Nat.le_of_lt h)]
set_option maxRecDepth 100000 in
theorem kX (s : Sy) (hs : LowS s) (hf : xO s.p) (g : Int) (set : List Bool) (A SV AV AX AB : Option Addr) (kc ks kv kx kb : Nat) (w : World) (hS : SyAt w w.heap.size A SV AV AX s) (hB0 : BAt w w.heap.size AB set) (hsl : set.length ≤ 1000000) :
  Calls Tryz.prog 71 #[.agg (s.vs_ A kc SV ks AV kv AX kx), .int .i64 g, .slice AB set.length kb] w (gI s g set w) := by
 obtain ⟨w1, hw1, d0, d1, hs1, hB⟩ := zW w (s.vs_ A kc SV ks AV kv AX kx) #[.int .i64 0, .slice none 0 0, .map none, .map none] 35 126
 have HR := zH (Yu s hs hf g A SV AV AX kc ks kv kx w1 (hS.up hB))
 have HF := zH (fun h => xU (s := s) (g := g) hf h)
 have HBB := zH ((hB0.keep hB).more hB.size)
 have HE0 : Hid (zJ s g ≠ 0 → zC s g set = zJ s g) := fun h => if_pos h
 have HE1 : Hid (zJ s g = 0 → set.length ≠ ptn s → zC s g set = 15) := fun h h1 => by unfold zC; rw [if_neg (by simpa using h), if_pos h1]
 have HE2 : Hid (zJ s g = 0 → set.length = ptn s → zC s g set = 0) := fun h h1 => by unfold zC; rw [if_neg (by simpa using h), if_neg (by simpa using h1)]
 unfold gI stC yS
 unfold Jh stC yS at HR
 unfold Sy.vs_ at hw1 d0 HR ⊢
 obtain ⟨r, hr⟩ : ∃ r, zJ s g = r := ⟨_, rfl⟩
 rw [hr] at HR HF HE0 HE1 HE2
 obtain ⟨R, hRR⟩ : ∃ R, zC s g set = R := ⟨_, rfl⟩
 rw [hRR] at HE0 HE1 HE2 ⊢
 have HW1 := zH hw1
 have HB := zH hB
 have HD1 := zH d1
 obtain ⟨p0, p1, p2, p3, p4, p5, p6, p7, p8, p9⟩ := zv d0
 clear hw1 d0 d1 hB hS hr hRR hs hf hB0
 go_enter Tryz.func71, Tryz.ntmps71
 go_wp2_with fail
 rw [HW1.out]
 go_wp2_with fail
 refine HR.out.mono ?_
 rintro e w2 ⟨hb2, (⟨hne, rfl⟩ | ⟨h0, Ap, kp, bC, bM, rfl, hSt⟩)⟩
 · have HB2 := zH (HB.out.trans (hb2.mono (by omega)))
   have hR : Hid (R = r) := HE0.out hne
   have e0 : (r != 0) = true := by simpa using hne
   have d1 := (hb2.block _ (by omega : w.heap.size + 1 < w1.heap.size)).trans HD1.out
   have HD2 := zH d1
   clear p0 p1 p2 p3 p4 p5 p6 p7 p8 p9 hb2 HR HW1 HF HE0 HE1 HE2 hne d1 HD1
   go_upto_region 2 with fail
   obtain ⟨w3, hw3, d3, hs3, hB3⟩ := zj w2 #[.int .i64 0, .slice none 0 0, .map none, .map none] 126
   rw [hw3]
   have d1 := (hB3.block _ (zd HD2.out)).trans HD2.out
   have c0 := za d1 0 rfl
   have c1 := za d1 1 rfl
   have c2 := za d1 2 rfl
   have c3 := za d1 3 rfl
   have f0 := zb d1 0
   have f1 := zb d1 1
   have f2 := zb d1 2
   have f3 := zb d1 3
   have l1 := zd d1
   have HD3 := zH d1
   have HB3 := zH (HB2.out.trans (hB3.mono HB2.out.size))
   clear d1 HD2 hw3 d3 hB3
   go_wp2_with fail
   obtain ⟨W, hW, e1, _, e3⟩ := Xx HD3.out (.int .i64 0) (.slice none 0 0) (.map none) (.map none)
   rw [hW]
   have q0 := za e1 0 rfl
   have q1 := za e1 1 rfl
   have q2 := za e1 2 rfl
   have q3 := za e1 3 rfl
   refine bodyPost_ret (v := .tuple #[yS, .slice none 0 0, .int .i64 r]) (by simp [results, Tryz.results71, go_sem, q0, q1, q2, q3, yS]) rfl ?_
   rw [hR.out]
   exact ⟨HB3.out.trans (e3 _ (by omega)), .inl ⟨by simpa using e0, rfl⟩⟩
 · have HB2 := zH (HB.out.trans (hb2.mono (by omega)))
   have HBB2 := zH ((HBB.out.keep hb2).more hb2.size)
   have HST := zH (fun (W : World) (h : ∀ k, w1.heap.size ≤ k → k < w2.heap.size → W.heap[k]? = w2.heap[k]?) => hSt W h)
   have HN1 : Hid (set.length ≠ ptn s → R = 15) := fun h => HE1.out h0 h
   have HN2 : Hid (set.length = ptn s → R = 0) := fun h => HE2.out h0 h
   obtain ⟨f1, f2, f3⟩ := HF.out h0
   have d1 := (hb2.block _ (by omega : w.heap.size + 1 < w1.heap.size)).trans HD1.out
   have HD2 := zH d1
   subst h0
   obtain ⟨PN, hPN⟩ : ∃ PN, ptn s = PN := ⟨_, rfl⟩
   obtain ⟨PS, hPS⟩ : ∃ PS, psG s g = PS := ⟨_, rfl⟩
   rw [hPN, hPS] at HST
   have HPN := zH hPN
   have HPS := zH hPS
   have hb2s := hb2.size
   rw [hPN] at HN1 HN2 f1 f2
   clear p0 p1 p2 p3 p4 p5 p6 p7 p8 p9 hb2 HR HW1 HF HE0 HE1 HE2 hSt hPN hPS f3 d1 HD1 HBB
   go_upto_region 2 with fail
   rw [HPN.out, HPS.out]
   obtain ⟨w3, hw3, d3, hs3, hB3⟩ := zj w2 #[.int .i64 (PN : Int), .slice Ap PS.length kp, .map (some bC), .map (some bM)] 126
   rw [hw3]
   have x0 := za d3 0 rfl
   have HX3 := zH d3
   have HB23 := zH hB3
   have HBB3 := zH ((HBB2.out.keep hB3).more hB3.size)
   have d1 := (hB3.block _ (zd HD2.out)).trans HD2.out
   have HD3 := zH d1
   have HB3 := zH (HB2.out.trans (hB3.mono HB2.out.size))
   have c0 := za d1 0 rfl
   have c1 := za d1 1 rfl
   have c2 := za d1 2 rfl
   have c3 := za d1 3 rfl
   have f0 := zb d1 0
   have f1 := zb d1 1
   have f2 := zb d1 2
   have f3 := zb d1 3
   have l1 := zd d1
   clear hw3 d3 hB3 HBB2 HD2 d1 HB2
   by_cases hl : set.length = PN
   case neg =>
    have e1 : ((set.length : Int) != (PN : Int)) = true := by simp; omega
    have hR : Hid (R = 15) := HN1.out hl
    clear HN1 HN2 hl
    go_wp2_with fail
    obtain ⟨W, hW, e1, _, e3⟩ := Xx HD3.out (.int .i64 0) (.slice none 0 0) (.map none) (.map none)
    rw [hW]
    have q0 := za e1 0 rfl
    have q1 := za e1 1 rfl
    have q2 := za e1 2 rfl
    have q3 := za e1 3 rfl
    refine bodyPost_ret (v := .tuple #[yS, .slice none 0 0, .int .i64 15]) (by simp [results, Tryz.results71, go_sem, q0, q1, q2, q3, yS]) rfl ?_
    rw [hR.out]
    exact ⟨HB3.out.trans (e3 _ (by omega)), .inl ⟨by decide, rfl⟩⟩
   case pos =>
    have e1 : ((set.length : Int) != (PN : Int)) = false := by rw [hl]; simp
    have hR : Hid (R = 0) := HN2.out hl
    clear HN1 HN2 hl
    go_wp2_with fail
    go_loopw [11, 32] (fun o i wr => ∃ k : Nat, k ≤ set.length ∧ i = .int .i64 (k : Int) ∧ Hid (Own wr w3.heap.size o (zO (zX (set.take k)))) ∧ Hid (Below w3.heap.size w3 wr)) (fun _ i _ => set.length - (intOf i).toNat)
    case atStart => exact ⟨0, by omega, rfl, Own.nil _ _, Below.refl _ _⟩
    case round =>
     obtain ⟨k, hk, rfl, HO, hb⟩ := hrel
     by_cases hlt : k < set.length
     · obtain ⟨b, off, eA, hbl, z0⟩ := (HBB3.out.keep hb.out).at_ k hlt
       subst eA
       have HT := zH (JH set k hlt)
       obtain ⟨y, hy⟩ : ∃ y, set[k] = y := ⟨_, rfl⟩
       rw [hy] at HT z0
       have hll : (zO (zX (set.take k))).length ≤ 1000000 := by
        rw [zw]
        have := wO (set.take k)
        simp at this; omega
       have hk0 : (0 : Int) ≤ (k : Int) := by omega
       have hk1 : (k : Int) < (set.length : Int) := by omega
       clear hy c0 c1 c2 c3 f0 f1 f2 f3 x0
       cases y with
       | false =>
        have HT2 : Hid (zX (set.take (k + 1)) = zX (set.take k) ++ [k]) := HT.out.trans (if_pos rfl)
        clear HT
        go_wp2_with (at_builtin; go_must (refine kT rfl _ _ rfl w3.heap.size u11 _ (k : Int) rfl HO.out rfl (by omega) hb.out.size ?_); intro v' w5 hown1 hg1 hb1)
        go_roundw
        case rel => exact ⟨k + 1, by omega, by go_num, by show Own _ _ _ _; rw [HT2.out]; simpa [zO] using hown1, hb.out.trans hb1⟩
        case measure => simp [intOf]; omega
       | true =>
        have HT2 : Hid (zX (set.take (k + 1)) = zX (set.take k)) := HT.out.trans (if_neg (by simp))
        clear HT
        go_wp2_with fail
        go_roundw
        case rel => exact ⟨k + 1, by omega, by go_num, by rw [HT2.out]; exact HO, hb⟩
        case measure => simp [intOf]; omega
     · obtain rfl : k = set.length := by omega
       have hO := HO.out
       rw [List.take_length] at hO
       obtain ⟨AO, cO, eO, _, _, hI⟩ := hO.form
       rw [zw] at eO
       subst eO
       have HO2 := zH hO
       have d1 := (hb.out.block _ (by omega)).trans HD3.out
       have d3 := (hb.out.block _ (zd HX3.out)).trans HX3.out
       have HD4 := zH d1
       clear c0 c1 c2 c3 f0 f1 f2 f3 x0 HD3 HX3 hI hO HO hlt
       have c0 := za d1 0 rfl
       have c1 := za d1 1 rfl
       have c2 := za d1 2 rfl
       have c3 := za d1 3 rfl
       have f0 := zb d1 0
       have f1 := zb d1 1
       have f2 := zb d1 2
       have f3 := zb d1 3
       have l2 := zd d1
       have x0 := za d3 0 rfl
       have x1 := za d3 1 rfl
       have x2 := za d3 2 rfl
       have x3 := za d3 3 rfl
       clear d1 d3
       go_wp2_with fail
       obtain ⟨W, hW, e1, e2, e3⟩ := Xx HD4.out (.int .i64 (PN : Int)) (.slice Ap PS.length kp) (.map (some bC)) (.map (some bM))
       rw [hW]
       have q0 := za e1 0 rfl
       have q1 := za e1 1 rfl
       have q2 := za e1 2 rfl
       have q3 := za e1 3 rfl
       refine bodyPost_ret (v := .tuple #[.agg #[.int .i64 (PN : Int), .slice Ap PS.length kp, .map (some bC), .map (some bM)], .slice AO (zX set).length cO, .int .i64 0]) (by simp [results, Tryz.results71, go_sem, q0, q1, q2, q3]) rfl ?_
       have hsz : W.heap.size = wr.heap.size := by rw [← hW]; simp [World.setCell]
       rw [HPN.out, HPS.out]
       refine ⟨(HB3.out.trans (hb.out.mono (by omega))).trans (e3 _ (by omega)), .inr ⟨hR.out, Ap, kp, bC, bM, AO, cO, rfl, fun W9 h9 => ⟨?_, ?_⟩⟩⟩
       · refine (HST.out W9 fun q h1 h2 => ?_).more (by have := hb.out.size; omega)
         have := hb.out.size
         exact (h9 q (by omega) (by omega)).trans ((e2 q (by omega)).trans ((hb.out.block q (by omega)).trans (HB23.out.block q h2)))
       · rw [hsz]
         refine ZW HO2.out fun q h1 h2 => (h9 q (by omega) (by omega)).trans (e2 q (by omega))
end
section
open Go.RowKit Go.Shelf
attribute [local go_sem] Oper.semAt_some
def RetBA (xs : List Bool) (n : Int) (w : World) (e : Ending) (w' : World) : Prop := ∃ A c, e = .returned (.tuple #[.slice A xs.length c, .int .i64 n]) ∧ BAt w' w'.heap.size A xs ∧ Below w.heap.size w w'
set_option maxRecDepth 100000 in
theorem wJ (s : Sy) (hs : LowS s) (hf : xO s.p) (g : Int) (set : List Bool) (A SV AV AX AB : Option Addr) (kc ks kv kx kb : Nat) (w : World) (hS : SyAt w w.heap.size A SV AV AX s) (hB0 : BAt w w.heap.size AB set) (hsl : set.length ≤ 1000000) :
  Calls Tryz.prog 24 #[.agg (s.vs_ A kc SV ks AV kv AX kx), .int .i64 g, .slice AB set.length kb] w (RetIA (jP s g set).1 (jP s g set).2 w) := by
 obtain ⟨w1, hw1, d0, hs1, hB⟩ := zj w (s.vs_ A kc SV ks AV kv AX kx) 35
 have HR := zH (kX s hs hf g set A SV AV AX AB kc ks kv kx kb w1 (hS.up hB) ((hB0.keep hB).more hB.size) hsl)
 have HF := zH (fun h => xU (s := s) (g := g) hf h)
 have HG := zH (fun h => xX (s := s) (g := g) (set := set) h)
 have HE0 : Hid (zC s g set ≠ 0 → jP s g set = ([], zC s g set)) := fun h => if_pos h
 have HE1 : Hid (zC s g set = 0 → jP s g set = (uc (ptn s) (yN (psG s g) (zS s)) (zX set), 0)) := fun h => by unfold jP xh; rw [if_neg (by simpa using h)]
 unfold gI stC yS at HR
 unfold Sy.vs_ at hw1 d0 HR ⊢
 obtain ⟨r, hr⟩ : ∃ r, zC s g set = r := ⟨_, rfl⟩
 rw [hr] at HR HG HE0 HE1
 obtain ⟨R, hRR⟩ : ∃ R, jP s g set = R := ⟨_, rfl⟩
 rw [hRR] at HE0 HE1 ⊢
 have HW1 := zH hw1
 have HB := zH hB
 obtain ⟨p0, p1, p2, p3, p4, p5, p6, p7, p8, p9⟩ := zv d0
 clear hw1 d0 hB hS hr hRR hs hf hB0
 go_enter Tryz.func24, Tryz.ntmps24
 go_wp2_with fail
 rw [HW1.out]
 go_wp2_with fail
 refine HR.out.mono ?_
 rintro e w2 ⟨hb2, (⟨hne, rfl⟩ | ⟨h0, Ap, kp, bC, bM, AO, cO, rfl, hSO⟩)⟩
 · have HB2 := zH (HB.out.trans (hb2.mono (by omega)))
   have hR : Hid (R = ([], r)) := HE0.out hne
   have e0 : (r != 0) = true := by simpa using hne
   clear p0 p1 p2 p3 p4 p5 p6 p7 p8 p9 hb2 HR HW1 HF HE0 HE1 hne HG
   go_wp2_with fail
   obtain ⟨w3, hw3, d3, hs3, hB3⟩ := zj w2 #[.int .i64 0, .slice none 0 0, .map none, .map none] 126
   rw [hw3]
   go_wp2_with fail
   go_ret2
   rw [hR.out]
   exact ⟨none, 0, rfl, IAt.nil _ _ _, HB2.out.trans (hB3.mono HB2.out.size)⟩
 · have HB2 := zH (HB.out.trans (hb2.mono (by omega)))
   have hR : Hid (R = (uc (ptn s) (yN (psG s g) (zS s)) (zX set), 0)) := HE1.out h0
   obtain ⟨g1, g2⟩ := HG.out h0
   obtain ⟨f1, f2, f3⟩ := HF.out g1
   have HFI := zH (fun (X : World) (hX : StAt X X.heap.size Ap bC bM (ptn s) (psG s g) (zS s)) (hI : IAt X X.heap.size AO (zO (zX set))) => gg (ptn s) f1 (by omega) Ap kp bC bM (psG s g) (by omega) (zS s) (zX set) (QT g2) (by have := wO set; omega) AO cO X hX hI)
   unfold stC at HFI
   obtain ⟨hSt, hO⟩ := hSO w2 fun _ _ _ => rfl
   have HST := zH hSt
   have HO := zH hO
   clear hSO
   have HFQ := zH (fun (f : List Int) (hl : f.length = ptn s) (h : Far (ptn s) (yN (psG s g) (zS s)) (fun i => i ∈ zX set) (fun i => f.getD i 0)) => qm hl h)
   subst h0
   obtain ⟨PN, hPN⟩ : ∃ PN, ptn s = PN := ⟨_, rfl⟩
   obtain ⟨PS, hPS⟩ : ∃ PS, psG s g = PS := ⟨_, rfl⟩
   rw [hPN, hPS] at hR HFI HST HFQ ⊢
   obtain ⟨OL, hOL⟩ : ∃ OL, zX set = OL := ⟨_, rfl⟩
   rw [hOL] at hR HFI HFQ HO ⊢
   clear p0 p1 p2 p3 p4 p5 p6 p7 p8 p9 hb2 HR HW1 HF HE0 HE1 hSt hPN hPS f1 f2 f3 g1 g2 HG hO hOL
   go_wp2_with fail
   obtain ⟨w3, hw3, d3, hs3, hB3⟩ := zj w2 #[.int .i64 (PN : Int), .slice Ap PS.length kp, .map (some bC), .map (some bM)] 126
   rw [hw3]
   have x0 := za d3 0 rfl
   have x1 := za d3 1 rfl
   have x2 := za d3 2 rfl
   have x3 := za d3 3 rfl
   have HB3 := zH hB3
   have HS3 := zH ((HST.out.keep hB3).more hB3.size)
   have HO3 := zH ((HO.out.keep hB3).more hB3.size)
   clear hw3 d3 hB3 HST HO
   go_wp2_with fail
   refine (HFI.out w3 HS3.out HO3.out).mono ?_
   rintro e w4 ⟨out, g4, rfl, hg4, hr4, hl4, hfar, hb4⟩
   have HR4 := zH hr4
   have HB4 := zH (HB2.out.trans ((HB3.out.trans (hb4.mono (by omega))).mono HB2.out.size))
   have hR2 : Hid (R = (out, 0)) := by rw [Hid, hR.out, HFQ.out out hl4 hfar]
   have HL4 := zH hl4
   clear hr4 hb4 x0 x1 x2 x3 hR HFQ hfar hl4
   go_wp2_with fail
   go_ret2
   rw [hR2.out]
   exact ⟨some ⟨g4, 0, none⟩, PN, by rw [HL4.out]; rfl, HR4.out.iat, HB4.out⟩
set_option maxRecDepth 100000 in
theorem Y0 (s : Sy) (hs : LowS s) (hf : xO s.p) (g : Int) (set : List Bool) (A SV AV AX AB : Option Addr) (kc ks kv kx kb : Nat) (w : World) (hS : SyAt w w.heap.size A SV AV AX s) (hB0 : BAt w w.heap.size AB set) (hsl : set.length ≤ 1000000) :
  Calls Tryz.prog 22 #[.agg (s.vs_ A kc SV ks AV kv AX kx), .int .i64 g, .slice AB set.length kb] w (RetBA (jH s g set).1 (jH s g set).2 w) := by
 obtain ⟨w1, hw1, d0, hs1, hB⟩ := zj w (s.vs_ A kc SV ks AV kv AX kx) 35
 have HR := zH (wJ s hs hf g set A SV AV AX AB kc ks kv kx kb w1 (hS.up hB) ((hB0.keep hB).more hB.size) hsl)
 have HE0 : Hid (zC s g set ≠ 0 → jP s g set = ([], zC s g set) ∧ jH s g set = ([], zC s g set)) := fun h => ⟨if_pos h, if_pos h⟩
 have HE1 : Hid (zC s g set = 0 → (jP s g set).2 = 0 ∧ (jP s g set).1.length ≤ 700 ∧ jH s g set = ((jP s g set).1.map fun d => decide (d < 0), 0)) := fun h => by
  obtain ⟨h1, h2⟩ := xX h
  obtain ⟨f1, f2, f3⟩ := xU hf h1
  have hex := Qo (ptn s) (xh s g) (fun i => i ∈ zX set)
  obtain ⟨f, hl, hfar⟩ := hex
  have e1 : jP s g set = (f, 0) := by unfold jP; rw [if_neg (by simpa using h), qm hl hfar]
  rw [e1]
  refine ⟨rfl, by rw [hl]; exact f2, ?_⟩
  unfold jH
  rw [if_neg (by simpa using h), YZ h2 hfar hl (xg s g)]
 unfold Sy.vs_ at hw1 d0 HR ⊢
 obtain ⟨r, hr⟩ : ∃ r, zC s g set = r := ⟨_, rfl⟩
 rw [hr] at HE0 HE1
 obtain ⟨R, hRR⟩ : ∃ R, jH s g set = R := ⟨_, rfl⟩
 obtain ⟨Q, hQQ⟩ : ∃ Q, jP s g set = Q := ⟨_, rfl⟩
 rw [hRR, hQQ] at HE0 HE1
 rw [hRR]
 rw [hQQ] at HR
 have HW1 := zH hw1
 have HB := zH hB
 obtain ⟨p0, p1, p2, p3, p4, p5, p6, p7, p8, p9⟩ := zv d0
 clear hw1 d0 hB hS hr hRR hs hf hB0 hQQ
 go_enter Tryz.func22, Tryz.ntmps22
 go_wp2_with fail
 rw [HW1.out]
 go_wp2_with fail
 refine HR.out.mono ?_
 rintro e w2 ⟨AO, cO, rfl, hI, hb2⟩
 have HB2 := zH (HB.out.trans (hb2.mono (by omega)))
 have HI := zH hI
 clear p0 p1 p2 p3 p4 p5 p6 p7 p8 p9 hb2 HR HW1 hI
 by_cases h0 : r = 0
 · obtain ⟨e1, e2, e3⟩ := HE1.out h0
   rw [e1]
   have hR := zH e3
   obtain ⟨q, hq⟩ : ∃ q, Q.1 = q := ⟨_, rfl⟩
   rw [hq] at HI hR e2 ⊢
   have hmk := X0 q.length (by omega)
   clear HE0 HE1 e1 e3 hq h0
   go_wp2_with fail
   obtain ⟨w3, hw3, d3, hs3, hB3⟩ := zj w2 (jI (List.replicate q.length false)) 4
   rw [hw3]
   have HI3 := zH (HI.out.keep hB3)
   have HB3 := zH (HB2.out.trans (hB3.mono HB2.out.size))
   have HD3 := zH d3
   obtain ⟨bs, hbs⟩ : ∃ bs : List Bool, q.map (fun d => decide (d < 0)) = bs := ⟨_, rfl⟩
   have hbl : bs.length = q.length := by rw [← hbs, List.length_map]
   have HBL := zH hbl
   have HAT : Hid (∀ k (h : k < q.length), bs[k]? = some (decide (q[k] < 0))) := fun k h => by subst hbs; simp [h]
   rw [hbs] at hR
   have hz0 : BRow w3 w2.heap.size (vu bs 0) := by rw [firB_zero, hbl]; exact HD3.out
   have HZ0 := zH hz0
   clear hw3 d3 hB3 HI hmk hbs hbl hz0
   go_wp2_with fail
   go_loopw [28] (fun i wr => ∃ k : Nat, k ≤ q.length ∧ i = .int .i64 (k : Int) ∧ Hid (BRow wr w2.heap.size (vu bs k)) ∧ Hid (Below w2.heap.size w3 wr)) (fun i _ => q.length - (intOf i).toNat)
   case atStart => exact ⟨0, by omega, rfl, HZ0.out, Below.refl _ _⟩
   case round =>
    obtain ⟨k, hk, rfl, hbr, hb⟩ := hrel
    clear HZ0
    by_cases hlt : k < q.length
    · obtain ⟨b, off, eA, hbl, z0⟩ := (HI3.out.keep hb.out).at_ k hlt
      subst eA
      have hkb : k < bs.length := by rw [HBL.out]; exact hlt
      have hml := firB_len bs (Nat.le_of_lt hkb)
      have y0 := za hbr.out k (Xi (vu bs k) k (by omega))
      have f0 := zb hbr.out k
      have hnew : BRow (wr.setCell ⟨w2.heap.size, k, none⟩ (.bool (decide (q[k] < 0)))) w2.heap.size (vu bs (k + 1)) := by
       have hat : bs[k]'hkb = decide (q[k] < 0) := by
        have := HAT.out k hlt
        rw [List.getElem?_eq_getElem hkb] at this
        exact Option.some.inj this
       rw [← hat, ← firB_set bs hkb]
       unfold BRow
       rw [heap_setCell_same wr _ k _ _ _ hbr.out, boolA_set]
      have HNEW := zH hnew
      have HBN := zH (hb.out.setCell (p := ⟨w2.heap.size, k, none⟩) (by show w2.heap.size ≤ w2.heap.size; omega) (.bool (decide (q[k] < 0))))
      obtain ⟨x, hx⟩ : ∃ x, q[k] = x := ⟨_, rfl⟩
      rw [hx] at z0 HNEW HBN
      obtain ⟨y, hy⟩ : ∃ y, (vu bs k)[k]'(by omega) = y := ⟨_, rfl⟩
      rw [hy] at y0
      have hk0 : (0 : Int) ≤ (k : Int) := by omega
      have hk1 : (k : Int) < (q.length : Int) := by omega
      have hl3 := zd hbr.out
      clear hnew hml hkb hx hy hbr hb
      go_wp2_with fail
      go_roundw
      case rel => exact ⟨k + 1, by omega, by go_num, HNEW, HBN⟩
      case measure => simp [intOf]; omega
    · obtain rfl : k = q.length := by omega
      have hbe := hbr.out
      rw [← HBL.out, firB_all] at hbe
      have HBE := zH hbe
      clear hbe hbr
      go_wp2_with fail
      go_ret2
      rw [hR.out]
      exact ⟨some ⟨w2.heap.size, 0, none⟩, q.length, by rw [HBL.out]; rfl, HBE.out.at_ HBE.out.lt, HB3.out.trans (hb.out.mono HB2.out.size)⟩
 · obtain ⟨e1, e2⟩ := HE0.out h0
   rw [e1]
   have hR := zH e2
   have e0 : (r != 0) = true := by simpa using h0
   clear HE0 HE1 e1 e2 h0 HI
   go_wp2_with fail
   go_ret2
   rw [hR.out]
   exact ⟨none, 0, rfl, BAt.nil _ _ _, HB2.out⟩
end
end Go.Proofs.YtdkmpccfnnpnbaaGreat
