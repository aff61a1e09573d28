/- Parts R11C R11F SameT AdvA Iter AdvB AdvC AdvD R16A R16B R16C Marks AdvE Prob SameP SameX RefB SameS OpenS Rec App RowB Kinds. -/
import Derived.Test.YtdkmpccfnnpnbaaGreatProg
import Derived.Test.YtdkmpccfnnpnbaaGreatKa
import Derived.Deep.QuietTactic
import Derived.BigQuiet
import Derived.StillTactics
import Derived.Deep.RegionHeld3
import Derived.Deep.DeepCutAuto
import Derived.StillTailTactics
import Derived.RangeFuncNested
import Derived.RangeFuncBound
import Derived.RangeFuncCalls
import Derived.RangeFuncLeaves
import Derived.Shelf.Abstract
import Derived.Shelf.RegionOpen
import Derived.WalkKit
import Derived.OwnWalkIn
import Derived.TacticsInMore
import Derived.LoopNIn
import Derived.LoopIn
import Derived.SizedLaws
import Derived.Deep.AppendLies
import Derived.OwnWalk
import Derived.Maps.AppendAt
import Derived.Lib.Walk
import Derived.Lib.SliceRun

namespace Go.Proofs.YtdkmpccfnnpnbaaGreat
set_option maxHeartbeats 8000000
section
open Go.RowKit
set_option maxRecDepth 100000 in
theorem Y0 (t : Tk) (A : Option Addr) (kc : Nat) (hf : FewT t) (w : World) (hA : CAt w w.heap.size A t.cases) :
  Calls Tryz.prog 159 #[.agg #[.int .i64 t.n, .int .i64 t.ins, .int .i64 t.outs, .slice A t.cases.length kc]] w fun e w' => e = .returned (.int .i64 (yQ t)) ∧ Below w.heap.size w w' := by
 have HONE := zH (fun (i : Nat) (hi : i < t.cases.length) (w' : World) (h : CAt w' w'.heap.size A t.cases) => rone_any t A kc hf i hi w' h)
 obtain ⟨hf1, hf2⟩ := hf
 have HA := zH hA
 have HE1 := zH (@uC t)
 have HE2 := zH (@wJ t)
 have HE3 := zH (@uD t)
 obtain ⟨E, hE⟩ : ∃ E, yQ t = E := ⟨_, rfl⟩
 rw [hE] at HE1 HE2 HE3 ⊢
 by_cases hr : t.n < 1 ∨ 5 < t.n ∨ t.ins < 1 ∨ 8 < t.ins ∨ t.outs < 1 ∨ 8 < t.outs
 · have HR := zH (HE1.out hr)
   obtain ⟨cv, hcv⟩ : ∃ cv, Value.slice A t.cases.length kc = cv := ⟨_, rfl⟩
   rw [hcv]
   have HN := zH hr
   obtain ⟨n, ins, outs, cases⟩ := t
   dsimp only at HN ⊢
   clear HE1 HE2 HE3 hcv hA hf2 HA hE hr HONE hf1
   go_enter Tryz.func159, Tryz.ntmps159
   go_wp2_with fail
   all_goals first | (exfalso; have := HN.out; omega) | (go_ret; exact ⟨ze HR.out.symm, zI w _⟩)
 have r1 : ¬ t.n < 1 := by omega
 have r2 : ¬ 5 < t.n := by omega
 have r3 : ¬ t.ins < 1 := by omega
 have r4 : ¬ 8 < t.ins := by omega
 have r5 : ¬ t.outs < 1 := by omega
 have r6 : ¬ 8 < t.outs := by omega
 have HE2 := zH (HE2.out hr)
 have HE4 := zH (HE3.out hr)
 clear hr HE1 hE hA hf2 HE3
 by_cases hz : t.cases.length < 1
 · have HR := zH (HE2.out hz)
   obtain ⟨n, ins, outs, cases⟩ := t
   dsimp only at hf1 r1 r2 r3 r4 r5 r6 hz ⊢
   clear HE2 HE4 HA HONE
   go_enter Tryz.func159, Tryz.ntmps159
   go_wp2_with fail
   all_goals first | (exfalso; omega) | skip
   go_ret
   exact ⟨ze HR.out.symm, zI w _⟩
 have hz1 : ¬ ((t.cases.length : Int) < 1) := by omega
 have HE3 := zH (HE4.out (by omega) (by omega))
 clear HE2 hz HE4
 have hbd := zH (fun k h => @uY t t.cases k h)
 have hon := zH (fun k h => @Zc t t.cases k h)
 have hen := zH (@uX t t.cases)
 obtain ⟨cg, hcg⟩ : ∃ cg : Nat → Int, (fun k => xa t t.cases k) = cg := ⟨_, rfl⟩
 have hcg' : ∀ k, xa t t.cases k = cg k := fun k => congrFun hcg k
 obtain ⟨cE, hcE⟩ : ∃ cE : (k : Nat) → k < t.cases.length → Int, (fun k h => qm t (zo t.cases k) t.cases[k]) = cE := ⟨_, rfl⟩
 have hcE' : ∀ k h, qm t (zo t.cases k) t.cases[k] = cE k h := fun k h => congrFun (congrFun hcE k) h
 simp only [hcg', hcE'] at hbd hon hen HE3 HONE
 clear hcg hcg' hcE hcE'
 obtain ⟨n, ins, outs, cs⟩ := t
 dsimp only at hf1 r1 r2 r3 r4 r5 r6 hz1 HA HE3 HONE cE hbd hon hen ⊢
 go_enter Tryz.func159, Tryz.ntmps159
 go_wp2_with fail
 all_goals first | (exfalso; omega) | skip
 obtain ⟨W0, hW0, b0, hsz, hB0⟩ : ∃ W0, w.alloc (.cells #[.int .i64 n, .int .i64 ins, .int .i64 outs, .slice A cs.length kc] 24) = W0 ∧ W0.heap[w.heap.size]? = some (.cells #[.int .i64 n, .int .i64 ins, .int .i64 outs, .slice A cs.length kc] 24 (0, 0)) ∧ w.heap.size + 1 ≤ W0.heap.size ∧ Below w.heap.size w W0 :=
  ⟨_, rfl, zh _ _, by simp, zI w _⟩
 rw [hW0]
 have HB0 := zH hB0
 have HX0 := zH b0
 clear hW0 hB0 b0
 go_loopw [3] (fun i wr => ∃ k : Nat, k ≤ cs.length ∧ i = .int .i64 (k : Int) ∧ Hid (E = cg k) ∧ Below W0.heap.size W0 wr) (fun i _ => cs.length - (intOf i).toNat)
 case atStart => exact ⟨0, by omega, rfl, HE3, Below.refl _ _⟩
 case round =>
  obtain ⟨k, hk, rfl, hrk, hbl⟩ := hrel
  clear HE3
  have HBL := zH (HB0.out.trans (hbl.mono HB0.out.size))
  have HW := zH hbl
  have d0 := (hbl.block _ (by omega)).trans HX0.out
  have q0 := za d0 0 rfl
  have q1 := za d0 1 rfl
  have q2 := za d0 2 rfl
  have q3 := za d0 3 rfl
  clear d0 hbl
  by_cases hlt : k < cs.length
  · have HC := zH (fun (w' : World) (h : CAt w' w'.heap.size A cs) => HONE.out k hlt w' h)
    have hbd := zH (hbd.out k hlt)
    have hon := zH (hon.out k hlt)
    obtain ⟨ev, hev⟩ : ∃ ev, cE k hlt = ev := ⟨_, rfl⟩
    rw [hev] at HC hbd hon
    have HAr := zH ((HA.out.keep HBL.out).more HBL.out.size)
    clear hev HONE hen
    go_wp2_with fail
    refine (HC.out _ HAr.out).mono ?_
    rintro e w1 ⟨rfl, hb1⟩
    have BL1 := zH (HBL.out.trans (hb1.mono HBL.out.size))
    have BW1 := zH (HW.out.trans (hb1.mono HW.out.size))
    clear hb1 HC
    by_cases he : ev = 0
    · subst he
      have hR := zH (hrk.out.trans (hon.out (by simp)))
      clear hrk hbd hon
      go_wp2_with fail
      go_roundw
      case rel => exact ⟨k + 1, by omega, by go_num, hR, BW1.out⟩
      case measure => simp [intOf]; omega
    · have hR := zH (hrk.out.trans (hbd.out he))
      have e0 : (ev != 0) = true := by simpa using he
      clear hrk hbd hon he
      go_wp2_with fail
      go_ret
      exact ⟨ze hR.out.symm, BL1.out⟩
  · obtain rfl : k = cs.length := by omega
    have HR := zH (hrk.out.trans hen.out)
    clear hrk
    go_wp2_with fail
    go_ret
    exact ⟨ze HR.out.symm, HBL.out⟩
def jn (t : Tk) : Bool := decide (t.cases.length ≤ 30) && t.cases.all fun c => decide (c.inp.length ≤ 10) && jm c.out 30 && jm c.calm 30
theorem fewl_iff {l : List (List Int)} : jm l 30 = true ↔ FewL l := by
 unfold jm FewL
 simp
theorem XK {t : Tk} : jn t = true ↔ FewT t := by
 unfold jn FewT FewC
 simp only [Bool.and_eq_true, decide_eq_true_eq, List.all_eq_true, fewl_iff, and_assoc]
end
section
open Go.RowKit
attribute [local go_sem] Oper.semAt_some
def okC (c : Cs) : Bool := decide (c.inp.length ≤ 10) && jm c.out 30 && jm c.calm 30
theorem fewTB_eq (t : Tk) : jn t = (decide (t.cases.length ≤ 30) && t.cases.all okC) := rfl
def LowC (c : Cs) : Prop := c.inp.length ≤ 17592186044416 ∧ c.out.length ≤ 17592186044416 ∧ c.calm.length ≤ 17592186044416 ∧ (∀ v ∈ c.out, v.length ≤ 17592186044416) ∧ ∀ v ∈ c.calm, v.length ≤ 17592186044416
set_option maxRecDepth 100000 in
theorem rfewT_any (t : Tk) (A : Option Addr) (kc : Nat) (hl : t.cases.length ≤ 17592186044416) (hll : ∀ c ∈ t.cases, LowC c) (w : World) (hA : CAt w w.heap.size A t.cases) :
  Calls Tryz.prog 122 #[.agg #[.int .i64 t.n, .int .i64 t.ins, .int .i64 t.outs, .slice A t.cases.length kc]] w fun e w' => e = .returned (.bool (jn t)) ∧ Below w.heap.size w w' := by
 have HLL := zH hll
 have H : Hid (jn t = (decide (t.cases.length ≤ 30) && t.cases.all okC)) := fewTB_eq t
 obtain ⟨r, hr⟩ : ∃ r, jn t = r := ⟨_, rfl⟩
 rw [hr] at H ⊢
 obtain ⟨w1, hw1⟩ : ∃ w1, w.alloc (.cells #[.int .i64 t.n, .int .i64 t.ins, .int .i64 t.outs, .slice A t.cases.length kc] 24) = w1 := ⟨_, rfl⟩
 have hbb := zh w (.cells #[.int .i64 t.n, .int .i64 t.ins, .int .i64 t.outs, .slice A t.cases.length kc] 24)
 have hb01 : Below w.heap.size w w1 := by rw [← hw1]; exact zI w _
 have hsz1 : w1.heap.size = w.heap.size + 1 := by rw [← hw1]; simp
 rw [hw1] at hbb
 have HBB := zH hbb
 have HB01 := zH hb01
 have HA := zH ((hA.keep hb01).more (by omega : w.heap.size ≤ w1.heap.size))
 have HW1 := zH hw1
 have q3 := za hbb 3 rfl
 clear hA hw1 hb01 hbb hll hr
 go_enter Tryz.func122, Tryz.ntmps122
 by_cases hc : t.cases.length ≤ 30
 case neg =>
  have hR : Hid (r = false) := H.out.trans (by rw [decide_eq_false hc, Bool.false_and])
  clear H
  go_wp2_with fail
  rw [HW1.out]
  go_wp2_with fail
  all_goals first | (exfalso; omega) | skip
  go_ret
  exact ⟨zj hR.out.symm, HB01.out⟩
 case pos =>
 have HR : Hid (r = (t.cases.drop 0).all okC) := H.out.trans (by rw [decide_eq_true hc, Bool.true_and, List.drop_zero])
 clear H
 go_wp2_with fail
 rw [HW1.out]
 go_wp2_with fail
 all_goals first | (exfalso; omega) | skip
 clear q3 HW1
 go_loopw [3] (fun i wr => ∃ k : Nat, k ≤ t.cases.length ∧ i = .int .i64 (k : Int) ∧ Hid (r = (t.cases.drop k).all okC) ∧ Hid (Below w1.heap.size w1 wr)) (fun i _ => t.cases.length - (intOf i).toNat)
 case atStart => exact ⟨0, by omega, rfl, HR, Below.refl _ _⟩
 case round =>
  clear HR
  obtain ⟨k, hk, rfl, hp, hb⟩ := hrel
  have hbk := (hb.out.block _ (zd HBB.out)).trans HBB.out
  have q3 := za hbk 3 rfl
  clear hbk
  by_cases hlt : k < t.cases.length
  case neg =>
   have hR : Hid (r = true) := hp.out.trans (JN (by omega))
   obtain rfl : k = t.cases.length := by omega
   clear hp
   go_wp2_with fail
   go_ret
   exact ⟨zj hR.out.symm, HB01.out.trans (hb.out.mono (by omega))⟩
  case pos =>
  obtain ⟨b, o, A0, c0, A1, c1, A2, c2, e', hbB, d0, d1, d2, I0, I1, I2⟩ := (HA.out.keep hb.out).row k hlt
  subst e'
  have hst := X6 (p := okC) hlt
  obtain ⟨l0, l1, l2, l3, l4⟩ := HLL.out _ (List.getElem_mem hlt)
  have hbx := hb.out.size
  have hf1 := fun (W : World) (hW : Below wr.heap.size wr W) => XJ A1 c1 t.cases[k].out l1 l3 W (((I1.more hbx).keep hW).more hW.size)
  have hf2 := fun (W : World) (hW : Below wr.heap.size wr W) => XJ A2 c2 t.cases[k].calm l2 l4 W (((I2.more hbx).keep hW).more hW.size)
  unfold okC at hst
  obtain ⟨c, hcc⟩ : ∃ c, t.cases[k] = c := ⟨_, rfl⟩
  rw [hcc] at d0 d1 d2 l0 l1 l2 hst hf1 hf2
  obtain ⟨b1, hb1⟩ : ∃ b1, jm c.out 30 = b1 := ⟨_, rfl⟩
  obtain ⟨b2, hb2⟩ : ∃ b2, jm c.calm 30 = b2 := ⟨_, rfl⟩
  rw [hb1] at hst hf1
  rw [hb2] at hst hf2
  obtain ⟨wc, hwc⟩ : ∃ wc, wr.alloc (.cells #[.slice A0 c.inp.length c0, .slice A1 c.out.length c1, .slice A2 c.calm.length c2] 168) = wc := ⟨_, rfl⟩
  have hcb := zh wr (.cells #[.slice A0 c.inp.length c0, .slice A1 c.out.length c1, .slice A2 c.calm.length c2] 168)
  have hwb : Below wr.heap.size wr wc := by rw [← hwc]; exact zI wr _
  rw [hwc] at hcb
  have p0 := za hcb 0 rfl
  have p1 := za hcb 1 rfl
  have p2 := za hcb 2 rfl
  have HF1 := zH (hf1 wc hwb)
  have HF2 := zH (hf2 wc hwb)
  have HBW := zH (hb.out.trans (hwb.mono hbx))
  have HWC := zH hwc
  have HST := zH (hp.out.trans hst)
  obtain ⟨il, hil⟩ : ∃ il, c.inp.length = il := ⟨_, rfl⟩
  rw [hil] at d0 l0 HST HWC p0
  clear hp hst hf1 hf2 hwc hwb hcb hb1 hb2 hcc hil I0 I1 I2
  by_cases hi : il ≤ 10
  case neg =>
   have hR : Hid (r = false) := HST.out.trans (by rw [decide_eq_false hi]; rfl)
   clear HST HF1 HF2
   go_wp2_with fail
   rw [HWC.out]
   go_wp2_with fail
   all_goals first | (exfalso; omega) | skip
   go_ret
   exact ⟨zj hR.out.symm, HB01.out.trans (HBW.out.mono (by omega))⟩
  case pos =>
  have HS2 : Hid (r = ((b1 && b2) && (t.cases.drop (k + 1)).all okC)) := HST.out.trans (by rw [decide_eq_true hi, Bool.true_and]; rfl)
  clear HST
  go_wp2_with fail
  rw [HWC.out]
  go_wp2_with fail
  all_goals first | (exfalso; omega) | skip
  refine HF1.out.mono ?_
  rintro e w2 ⟨rfl, rfl⟩
  clear HF1
  cases b1 with
  | false =>
   have hR : Hid (r = false) := HS2.out
   clear HS2 HF2
   go_wp2_with fail
   go_ret
   exact ⟨zj hR.out.symm, HB01.out.trans (HBW.out.mono (by omega))⟩
  | true =>
  go_wp2_with fail
  refine HF2.out.mono ?_
  rintro e w2 ⟨rfl, hw2⟩
  obtain rfl := hw2.symm
  clear HF2
  cases b2 with
  | false =>
   have hR : Hid (r = false) := HS2.out
   clear HS2
   go_wp2_with fail
   go_ret
   exact ⟨zj hR.out.symm, HB01.out.trans (HBW.out.mono (by omega))⟩
  | true =>
   have hR : Hid (r = (t.cases.drop (k + 1)).all okC) := HS2.out
   clear HS2
   go_wp2_with fail
   go_roundw
   case rel => exact ⟨k + 1, by omega, by go_num, hR, HBW⟩
   case measure => simp [intOf]; omega
end
section
open Go.RowKit
attribute [local go_sem] Oper.semAt_some
def LowT (t : Tk) : Prop := t.cases.length ≤ 17592186044416 ∧ ∀ c ∈ t.cases, LowC c
end
section
open Go.RowKit
def FewA (a : Ad) : Prop := a.sts.length ≤ 8 ∧ a.mvs.length ≤ 40
theorem FewA.each {a : Ad} (h : FewA a) {l : List Mv} (hl : l ∈ a.sts) : l.length ≤ 40 := by
 refine Nat.le_trans ?_ h.2
 unfold Ad.mvs
 obtain ⟨i, hi, rfl⟩ := List.mem_iff_getElem.1 hl
 exact (List.sublist_flatten_of_mem (List.getElem_mem hi)).length_le
theorem uM {a : Ad} {p : Option Mv} {m : Mv} (h : zZ m.r ≠ 0) : xz a p m = zZ m.r := if_pos h
theorem Jt {a : Ad} {p : Option Mv} {m : Mv} (h : zZ m.r = 0) (h2 : m.r.n ≠ a.n) : xz a p m = 22 := by unfold xz; rw [if_neg (by simpa using h), if_pos h2]
theorem uN {a : Ad} {p : Option Mv} {m : Mv} (h : zZ m.r = 0) (h2 : m.r.n = a.n) (h3 : Zt p m = true) : xz a p m = 14 := by unfold xz; rw [if_neg (by simpa using h), if_neg (by simpa using h2), if_pos h3]
theorem Xp {a : Ad} {p : Option Mv} {m : Mv} (h : zZ m.r = 0) (h2 : m.r.n = a.n) (h3 : Zt p m = false) (h4 : m.to < 0 ∨ (a.sts.length : Int) ≤ m.to) : xz a p m = 2 := by unfold xz; rw [if_neg (by simpa using h), if_neg (by simpa using h2), if_neg (by rw [h3]; decide), if_pos h4]
theorem Xq {a : Ad} {p : Option Mv} {m : Mv} (h : zZ m.r = 0) (h2 : m.r.n = a.n) (h3 : Zt p m = false) (h4 : ¬ (m.to < 0 ∨ (a.sts.length : Int) ≤ m.to)) : xz a p m = 0 := by unfold xz; rw [if_neg (by simpa using h), if_neg (by simpa using h2), if_neg (by rw [h3]; decide), if_neg h4]
theorem uE {a : Ad} {l : List Mv} (h : l.length = 0) : xS a l = 19 := if_pos h
theorem wP {a : Ad} {l : List Mv} (h : l.length ≠ 0) : xS a l = xn a l 0 := if_neg h
set_option maxRecDepth 100000 in
theorem JY (a : Ad) (SV : Option Addr) (ks : Nat) (_hsl : a.sts.length ≤ 8) (A : Option Addr) (k0 : Nat) (l : List Mv) (hl : l.length ≤ 40) (w : World) (hA : MAt w w.heap.size A l) :
  Calls Tryz.prog 222 #[.agg #[.int .i64 a.n, .slice SV a.sts.length ks], .slice A l.length k0] w fun e w' => e = .returned (.int .i64 (xS a l)) ∧ Below w.heap.size w w' := by
 have HA := zH hA
 have HE1 := zH (@uE a l)
 have HE2 := zH (@wP a l)
 obtain ⟨E, hE⟩ : ∃ E, xS a l = E := ⟨_, rfl⟩
 rw [hE] at HE1 HE2 ⊢
 clear hA hE
 by_cases hz : l.length = 0
 · have hR := zH (HE1.out hz)
   have e0 : ((l.length : Int) == 0) = true := by simp [hz]
   clear HE1 HE2 hz
   go_enter Tryz.func222, Tryz.ntmps222
   go_wp2_with fail
   go_ret
   exact ⟨ze hR.out.symm, zI w _⟩
 have HE := zH (HE2.out hz)
 have e0 : ((l.length : Int) == 0) = false := beq_eq_false_iff_ne.2 (by omega)
 clear HE1 HE2 hz
 go_enter Tryz.func222, Tryz.ntmps222
 go_wp2_with fail
 obtain ⟨W0, hW0, b0, hsz, hB0⟩ : ∃ W0, w.alloc (.cells #[.int .i64 a.n, .slice SV a.sts.length ks] 27) = W0 ∧ W0.heap[w.heap.size]? = some (.cells #[.int .i64 a.n, .slice SV a.sts.length ks] 27 (0, 0)) ∧ w.heap.size + 1 ≤ W0.heap.size ∧ Below w.heap.size w W0 :=
  ⟨_, rfl, zh _ _, by simp, zI w _⟩
 rw [hW0]
 have HB0 := zH hB0
 have HX0 := zH b0
 clear hW0 hB0 b0 e0
 go_loopw [13] (fun i wr => ∃ k : Nat, k ≤ l.length ∧ i = .int .i64 (k : Int) ∧ Hid (E = xn a l k) ∧ Below W0.heap.size W0 wr) (fun i _ => l.length - (intOf i).toNat)
 case atStart => exact ⟨0, by omega, rfl, HE, Below.refl _ _⟩
 case round =>
  obtain ⟨k, hk, rfl, hrk, hbl⟩ := hrel
  clear HE
  have HBL := zH (HB0.out.trans (hbl.mono HB0.out.size))
  have HW := zH hbl
  clear hbl
  by_cases hlt : k < l.length
  · obtain ⟨b, o, rfl, hbB, c0, c1, c2, c3, c4, c5, c6, c7⟩ := (HA.out.keep HBL.out).row k hlt
    have hbd := zH (@uL a l k hlt)
    have hon := zH (@gD a l k hlt)
    have hb := HBL.out.size
    have hws : w.heap.size < wr.heap.size := by have := HW.out.size; omega
    obtain ⟨bo, hbo⟩ : ∃ bo, Zt (zo l k) l[k] = bo := ⟨_, rfl⟩
    have HBO := zH hbo
    have m1 := zH (@uM a (zo l k) l[k])
    have m2 := zH (@Jt a (zo l k) l[k])
    have m3 := zH (@uN a (zo l k) l[k])
    have m4 := zH (@Xp a (zo l k) l[k])
    have m5 := zH (@Xq a (zo l k) l[k])
    rw [hbo] at m3 m4 m5
    obtain ⟨m, hm⟩ : ∃ m, l[k] = m := ⟨_, rfl⟩
    have HX := zH hm
    obtain ⟨mE, hmE⟩ : ∃ mE, xz a (zo l k) l[k] = mE := ⟨_, rfl⟩
    rw [hmE] at hbd hon m1 m2 m3 m4 m5
    rw [hm] at c0 c1 c2 c3 c4 c5 c6 c7 m1 m2 m3 m4 m5
    have HR := zH (fun w' => wX m.r w')
    obtain ⟨rE, hrE⟩ : ∃ rE, zZ m.r = rE := ⟨_, rfl⟩
    rw [hrE] at m1 m2 m3 m4 m5 HR
    unfold Rd.cells at HR
    clear hbo hm hmE hrE
    go_wp2_with fail
    obtain ⟨W1, hW1, b1, hs1, hB1⟩ : ∃ W1, wr.alloc (.cells #[.int .i64 m.r.n, .int .i64 m.r.h0, .int .i64 m.r.h1, .int .i64 m.r.h2, .int .i64 m.r.h3, .int .i64 m.r.h4, .int .i64 m.r.f, .int .i64 m.to] 200) = W1 ∧ W1.heap[wr.heap.size]? = some (.cells #[.int .i64 m.r.n, .int .i64 m.r.h0, .int .i64 m.r.h1, .int .i64 m.r.h2, .int .i64 m.r.h3, .int .i64 m.r.h4, .int .i64 m.r.f, .int .i64 m.to] 200 (0, 0)) ∧ wr.heap.size + 1 ≤ W1.heap.size ∧ Below wr.heap.size wr W1 :=
     ⟨_, rfl, zh _ _, by simp, zI wr _⟩
    rw [hW1]
    refine (HR.out W1).mono ?_
    rintro e w1 ⟨rfl, hb1⟩
    have BL1 := zH ((HBL.out.trans (hB1.mono hb)).trans (hb1.mono (by have := hB1.size; omega)))
    have BW1 := zH ((HW.out.trans (hB1.mono HW.out.size)).trans (hb1.mono (by have := hB1.size; have := HW.out.size; omega)))
    have d0 := (BW1.out.block _ (by omega)).trans HX0.out
    have d1 := (hb1.block _ (by omega)).trans b1
    have HD1 := zH d1
    have HD0 := zH d0
    have q0 := za d0 0 rfl
    have q1 := za d0 1 rfl
    have p0 := za d1 0 rfl
    have p1 := za d1 1 rfl
    have p2 := za d1 2 rfl
    have p3 := za d1 3 rfl
    have p4 := za d1 4 rfl
    have p5 := za d1 5 rfl
    have p6 := za d1 6 rfl
    have p7 := za d1 7 rfl
    have hsw := zd d1
    clear hW1 b1 hB1 hb1 d0 d1 c0 c1 c2 c3 c4 c5 c6 c7 HR
    by_cases hr : rE = 0
    case neg =>
     have he := m1.out hr
     have hR := zH (hrk.out.trans ((hbd.out (by rw [he]; exact hr)).trans he))
     have e0 : (rE != 0) = true := by simpa using hr
     clear hbd hon m1 m2 m3 m4 m5 he hr hrk HBO HX
     go_wp2_with fail
     go_ret
     exact ⟨ze hR.out.symm, BL1.out⟩
    case pos =>
    subst hr
    clear m1
    by_cases hn : m.r.n = a.n
    case neg =>
     have he := m2.out (by simp) hn
     have hR := zH (hrk.out.trans ((hbd.out (by rw [he]; decide)).trans he))
     have e0 : (m.r.n != a.n) = true := by simpa using hn
     clear hbd hon m2 m3 m4 m5 he hn hrk HBO HX
     go_wp2_with fail
     go_ret
     exact ⟨ze hR.out.symm, BL1.out⟩
    case pos =>
    have e0 : (m.r.n != a.n) = false := by simpa using hn
    have n3 := zH (m3.out (by simp) hn)
    have n4 := zH (m4.out (by simp) hn)
    have n5 := zH (m5.out (by simp) hn)
    clear m2 hn m3 m4 m5
    cases k with
    | zero =>
     obtain rfl : bo = false := by rw [← HBO.out]; rfl
     have g0 : decide ((0 : Int) < 0) = false := by decide
     clear HBO HX n3
     go_wp2_with fail
     go_quiet (fail)
     by_cases ht : m.to < 0 ∨ (a.sts.length : Int) ≤ m.to
     · have he := n4.out (by simp) ht
       have hR := zH (hrk.out.trans ((hbd.out (by rw [he]; decide)).trans he))
       clear hbd hon n4 n5 he hrk
       by_cases ht0 : m.to < 0
       · clear ht
         go_wp2_with fail
         go_ret
         exact ⟨ze hR.out.symm, zU BL1.out _⟩
       · have ht1 : (a.sts.length : Int) ≤ m.to := by omega
         clear ht
         go_wp2_with fail
         all_goals first | (exfalso; omega) | skip
         go_ret
         exact ⟨ze hR.out.symm, zU BL1.out _⟩
     · have hR := zH (hrk.out.trans (hon.out (n5.out (by simp) ht)))
       have ht0 : ¬ m.to < 0 := by omega
       have ht1 : ¬ (a.sts.length : Int) ≤ m.to := by omega
       clear hbd hon n4 n5 hrk ht
       go_wp2_with fail
       all_goals first | (exfalso; omega) | skip
       go_roundw
       case rel => exact ⟨0 + 1, by omega, by go_num, hR, zU BW1.out _⟩
       case measure => simp [intOf]; omega
    | succ j =>
     have hj : j < l.length := by omega
     have hbj : Zt (zo l (j + 1)) l[j + 1] = decide (0 ≤ zm l[j].r.l l[j + 1].r.l) := by rw [zW l j hj]; rfl
     rw [HX.out] at hbj
     rw [show Zt (zo l (j + 1)) m = bo by have := HBO.out; rwa [HX.out] at this] at hbj
     obtain ⟨b', o', e', _, u0, u1, u2, u3, u4, u5, u6, u7⟩ := (HA.out.keep BL1.out).row j hj
     cases e'
     have hc := fun w' => Zn l[j].r m.r w'
     obtain ⟨mj, hmj⟩ : ∃ mj, l[j] = mj := ⟨_, rfl⟩
     rw [hmj] at hbj hc u0 u1 u2 u3 u4 u5 u6 u7
     obtain ⟨r, hr⟩ : ∃ r, zm mj.r.l m.r.l = r := ⟨_, rfl⟩
     rw [hr] at hbj hc
     unfold Rd.cells at hc
     have HBJ := zH hbj
     have HC := zH hc
     have g1 : ((j : Int) + 1).toNat = j + 1 := by omega
     have g3 : IntKind.i64.wrap ((j : Int) + 1 - 1) = (j : Int) := by rw [IntKind.wrap_i64]; omega
     have g5 : IntKind.i64.wrap ((j : Int) + 1) = (j : Int) + 1 := by rw [IntKind.wrap_i64]; omega
     have g6 : decide ((0 : Int) < (j : Int) + 1) = true := decide_eq_true (by omega)
     have g7 : IntKind.i64.wrap (j : Int) = (j : Int) := by rw [IntKind.wrap_i64]; omega
     have g8 : (0 : Int) ≤ (j : Int) := by omega
     have g9 : (j : Int) < (l.length : Int) := by omega
     clear hbj hc hr hmj HBO HX
     go_wp2_with fail
     go_still_tail 11, (by kernel_rfl)
     change wpList _ _ _ _ _ w1.drew
     obtain ⟨w2, hw2⟩ : ∃ w2, w2 = w1.drew := ⟨_, rfl⟩
     have BL2 : Hid (Below w.heap.size w w2) := by rw [hw2]; exact BL1.out.drew
     have BW2 : Hid (Below W0.heap.size W0 w2) := by rw [hw2]; exact BW1.out.drew
     have HE1 : Hid (w2.heap[wr.heap.size]? = some (.cells #[.int .i64 m.r.n, .int .i64 m.r.h0, .int .i64 m.r.h1, .int .i64 m.r.h2, .int .i64 m.r.h3, .int .i64 m.r.h4, .int .i64 m.r.f, .int .i64 m.to] 200 (0, 0))) := by rw [hw2]; exact HD1.out
     have HE0 : Hid (w2.heap[w.heap.size]? = some (.cells #[.int .i64 a.n, .slice SV a.sts.length ks] 27 (0, 0))) := by rw [hw2]; exact HD0.out
     rw [← hw2]
     clear HD0 HD1 hw2 q0 q1 p0 p1 p2 p3 p4 p5 p6 p7 u0 u1 u2 u3 u4 u5 u6 u7 g1 g3 g5 g7 g8 g9
     go_wp2_with fail
     refine (HC.out w2).mono ?_
     rintro e w3 ⟨rfl, hb3⟩
     have BL3 := zH (BL2.out.trans (hb3.mono BL2.out.size))
     have BW3 := zH (BW2.out.trans (hb3.mono BW2.out.size))
     have d0 := (hb3.block _ (zd HE0.out)).trans HE0.out
     have d1 := (hb3.block _ (zd HE1.out)).trans HE1.out
     have q0 := za d0 0 rfl
     have q1 := za d0 1 rfl
     have p0 := za d1 0 rfl
     have p7 := za d1 7 rfl
     clear d0 d1 hb3 HC
     cases bo with
     | true =>
      have g0' : 0 ≤ r := of_decide_eq_true HBJ.out.symm
      have he := n3.out (by simp)
      have hR := zH (hrk.out.trans ((hbd.out (by rw [he]; decide)).trans he))
      clear hbd hon n3 n4 n5 he hrk HBJ
      go_wp2_with fail
      all_goals first | (exfalso; omega) | skip
      go_ret
      exact ⟨ze hR.out.symm, BL3.out⟩
     | false =>
      have g0' : ¬ 0 ≤ r := of_decide_eq_false HBJ.out.symm
      clear n3 HBJ
      by_cases ht : m.to < 0 ∨ (a.sts.length : Int) ≤ m.to
      · have he := n4.out (by simp) ht
        have hR := zH (hrk.out.trans ((hbd.out (by rw [he]; decide)).trans he))
        clear hbd hon n4 n5 he hrk
        by_cases ht0 : m.to < 0
        · clear ht
          go_wp2_with fail
          all_goals first | (exfalso; omega) | skip
          go_ret
          exact ⟨ze hR.out.symm, BL3.out⟩
        · have ht1 : (a.sts.length : Int) ≤ m.to := by omega
          clear ht
          go_wp2_with fail
          all_goals first | (exfalso; omega) | skip
          go_ret
          exact ⟨ze hR.out.symm, BL3.out⟩
      · have hR := zH (hrk.out.trans (hon.out (n5.out (by simp) ht)))
        have ht0 : ¬ m.to < 0 := by omega
        have ht1 : ¬ (a.sts.length : Int) ≤ m.to := by omega
        clear hbd hon n4 n5 hrk ht
        go_wp2_with fail
        all_goals first | (exfalso; omega) | skip
        go_roundw
        case rel => exact ⟨j + 1 + 1, by omega, by go_num, hR, BW3.out⟩
        case measure => simp [intOf]; omega
  · obtain rfl : k = l.length := by omega
    have hR := zH (hrk.out.trans uK)
    clear hrk
    go_wp2_with fail
    go_ret
    exact ⟨ze hR.out.symm, HBL.out⟩
end
section
open Go.RowKit Go.Shelf
structure KeepB (K : Nat → Prop) (W W' : World) : Prop where
 size : W.heap.size ≤ W'.heap.size
 same : ∀ k, K k → k < W.heap.size → W'.heap[k]? = W.heap[k]?
theorem KeepB.refl (K : Nat → Prop) (W : World) : KeepB K W W := ⟨Nat.le_refl _, fun _ _ _ => rfl⟩
theorem KeepB.trans {K : Nat → Prop} {A B C : World} (h : KeepB K A B) (k : KeepB K B C) : KeepB K A C :=
 ⟨Nat.le_trans h.size k.size, fun i hi hl => (k.same i hi (Nat.lt_of_lt_of_le hl h.size)).trans (h.same i hi hl)⟩
theorem KeepB.drew (K : Nat → Prop) (W : World) : KeepB K W W.drew := ⟨Nat.le_refl _, fun _ _ _ => rfl⟩
theorem KeepB.alloc (K : Nat → Prop) (W : World) (o : Obj) : KeepB K W (W.alloc o) := ⟨by simp, fun k _ hk => Below.heap_alloc W o k hk⟩
theorem KeepB.setCell {K : Nat → Prop} {W : World} {a : Addr} (h : ¬ K a.block) (v : Value) : KeepB K W (W.setCell a v) :=
 ⟨by simp [World.setCell], fun k hk _ => Below.heap_setCell W a v k (fun e => h (e ▸ hk))⟩
theorem KeepB.of_below {K : Nat → Prop} {W W' : World} {B : Nat} (h : Below B W W') (hK : ∀ k, K k → k < B) : KeepB K W W' :=
 ⟨h.size, fun k hk _ => h.block k (hK k hk)⟩
theorem KeepB.of_grown {K : Nat → Prop} {W W' : World} {row : Option Nat} (h : W.grownBy W' row) (hK : ∀ k, row = some k → ¬ K k) : KeepB K W W' :=
 ⟨h.size, fun k hk hl => h.block k hl (fun e => hK k e.symm hk)⟩
theorem KeepB.mono {K K' : Nat → Prop} {W W' : World} (h : KeepB K W W') (hK : ∀ k, K' k → K k) : KeepB K' W W' := ⟨h.size, fun k hk => h.same k (hK k hk)⟩
theorem KeepB.putObj {K : Nat → Prop} {W : World} {l : Nat} (h : ¬ K l) (o : Obj) : KeepB K W (W.putObj l o) :=
 ⟨by simp, fun k hk _ => World.putObj_heap_other (fun e => h (e ▸ hk))⟩
def Ja {β : Type} (P : Program) (g : Nat) (lb : Array Value) (encs : β → Array Value) (K : Nat → Prop) (xs : List β) (w : World) : Prop :=
 ∀ n, 1 ≤ n → SeqStopsK Fence.wide n P g lb (fun x : { x : β // x ∈ xs } => encs x.1) (KeepB K) (fun ys => ys.map (·.1) = xs) (fun pre => pre.map (·.1) <+: xs) xs.length w
section
variable {P : Program}
theorem YO {β : Type} {g : Operand} {ps : Array Tmp} {assign body : Code} {Q : Exit → Act → World → Prop} {a : Act} {w : World}
  {gf : Nat} {lb : Array Value} (hg : a.eval g = .func (.func gf) #[] lb) (eg : Enters P gf)
  {encs : β → Array Value} {K : Nat → Prop} {xs : List β} (hseq : Ja P gf lb encs K xs w) (hK : ∀ k, K k → k < w.heap.size) (hps : ∀ x, (encs x).size = ps.size)
  (I : List { x : β // x ∈ xs } → World → Prop) (Ix : Code → List { x : β // x ∈ xs } → World → Prop) (hI : OwnFrom w.heap.size I) (hIx : ∀ c, OwnFrom w.heap.size (Ix c)) (h0 : I [] w) (a₁ : { x : β // x ∈ xs } → Act)
  (hassign : ∀ (l : Nat) (x : { x : β // x ∈ xs }) (W : World) (K : Act → World → Prop), K (a₁ x) W →
   assign.wpIn (Fence.wide.inRound l) 7 P (Exit.then K (fun _ _ _ => False)) { tmps := (ps.zip (encs x.1)).foldl (fun t (p, v) => t.setIfInBounds p v) a.tmps, defers := [] } W)
  (hbody : ∀ (l : Nat) (pre : List { x : β // x ∈ xs }) (x : { x : β // x ∈ xs }) (W : World), I pre W → pre.length < xs.length → body.wpIn (Fence.wide.inRound l) 7 P (ownPostG w.heap.size (KeepB K) I Ix (pre ++ [x]) W) (a₁ x) W)
  (hdone : ∀ (D : Nat) (ys : List { x : β // x ∈ xs }) (W : World), w.heap.size ≤ D → ys.map (·.1) = xs → I ys W → W.heap[D]? = some (.deferred (some [])) → Q .normal { a with defers := { target := .collected D, args := #[] } :: a.defers } W)
  (hstop : ∀ (D : Nat) (c : Code) (pre : List { x : β // x ∈ xs }) (W : World), w.heap.size ≤ D → pre.map (·.1) <+: xs → Ix c pre W → W.heap[D]? = some (.deferred (some [])) → c.wp P Q { a with defers := { target := .collected D, args := #[] } :: a.defers } W) :
  (Code.rangeFunc g ps assign body).wp P Q a w :=
 (wpIn_wide (n := 9)).1 (wpIn_rangeFunc_ownG (F := Fence.wide) (n := 9) rfl (by omega) hg trivial eg (hseq 8 (by omega)) KeepB.trans
  (fun W l o o' hl _ _ _ => KeepB.putObj (fun hk => by have := hK l hk; omega) o') (Below.refl _ _) (fun x => hps x.1) I Ix hI hIx h0 a₁ hassign hbody hdone
  (fun D c pre W hD hS hc hk => wpIn_wide.2 (hstop D c pre W hD hS hc hk)))
def Marks (B : Nat) (ds : List Deferred) (w : World) : Prop :=
 ∃ rs : List Nat, ds = rs.map (fun r => { target := .collected r, args := #[] }) ∧ rs.Nodup ∧ ∀ r ∈ rs, B ≤ r ∧ w.heap[r]? = some (.deferred (some []))
theorem Marks.nil (B : Nat) (w : World) : Marks B [] w := ⟨[], rfl, List.nodup_nil, fun _ h => by cases h⟩
structure Shut (B : Nat) (w w' : World) : Prop where
 below : Below B w w'
 same : ∀ (k : Nat) (o : Obj), w.heap[k]? = some o → o.isCells = true → w'.heap[k]? = some o
theorem Shut.refl (B : Nat) (w : World) : Shut B w w := ⟨Below.refl _ _, fun _ _ h _ => h⟩
theorem Shut.own {B : Nat} {w w' : World} (h : Shut B w w') {base : Nat} {e : TypeId} {size : Nat} {v : Value} {k : Nat} {xs : List Value} (hr : w.ownsRow base e size v k xs) : w'.ownsRow base e size v k xs := by
 refine ⟨hr.1, ?_⟩
 rcases hr.2 with hn | ⟨g, cap, cur, hv, hb, hg, rest⟩
 · exact .inl hn
 · exact .inr ⟨g, cap, cur, hv, hb, h.same g _ hg rfl, rest⟩
theorem Shut.cell {B : Nat} {w w' : World} (h : Shut B w w') {a : Addr} {v : Value} (hc : w.cell? a = some v) : w'.cell? a = some v := by
 obtain ⟨o, ho, hcells⟩ := cells_of_cell hc
 rw [World.cell?_of_block ((h.same _ _ ho hcells).trans ho.symm)]
 exact hc
theorem vF {fn : Func} {tmps : Array Value} {R : Ending → World → Prop} {B n : Nat} {v : Value} (hres : ∀ W, (results fn tmps).run P W = .ok v W) :
  ∀ (rs : List Nat) (w : World), rs.Nodup → (∀ r ∈ rs, B ≤ r ∧ w.heap[r]? = some (.deferred (some []))) → (∀ W, Shut B w W → R (.returned v) W) →
   LeavesInM Fence.wide n P fn tmps R (rs.map (fun r => { target := .collected r, args := #[] })) .returning w
 | [], w, _, _, hR => ⟨v, hres w, hR w (Shut.refl _ _)⟩
 | r :: rs, w, hn, hm, hR => by
  obtain ⟨hr, hn'⟩ := List.nodup_cons.1 hn
  obtain ⟨hB, hk⟩ := hm r (by simp)
  refine ⟨by simp, .inl ⟨r, _, rfl, run_takeDeferred hk, ?_⟩⟩
  refine vF hres rs _ hn' (fun r' hr' => ⟨(hm r' (by simp [hr'])).1, ?_⟩) (fun W hW => hR W ?_)
  · rw [World.putObj_heap_other (by rintro rfl; exact hr hr')]
    exact (hm r' (by simp [hr'])).2
  · refine ⟨((Below.refl B w).grown (grownBy_putObj' w r (.deferred none)) (by have := (Array.getElem?_eq_some_iff.1 hk).1; omega) (fun k e => by cases e; exact hB)).trans hW.below, fun k o ho hc => ?_⟩
    refine hW.same k o ?_ hc
    by_cases e : k = r
    · subst e; rw [hk] at ho; cases ho; cases hc
    · exact (World.putObj_heap_other e).trans ho
theorem yq {f : FuncId} {fn : Func} {c : Code} {args : Array Value} {w : World} {R : Ending → World → Prop}
  (hf : P.funcs[f]? = some fn) (hb : fn.body = some c)
  (h : c.wp P (bodyPostM Fence.wide 9 P fn R) { tmps := args ++ Array.replicate (fn.ntmps - args.size) undef, defers := [] } w) : Calls P f args w R :=
 (callsIn_wide (n := 9)).1 (callsIn_of_wp_marks hf hb trivial (wpIn_wide.2 h))
theorem yS {fn : Func} {R : Ending → World → Prop} {a : Act} {w : World} {B : Nat} {v : Value} (hm : Marks B a.defers w) (hres : ∀ W, (results fn a.tmps).run P W = .ok v W)
  (hR : ∀ W, Shut B w W → R (.returned v) W) : bodyPostM Fence.wide 9 P fn R .ret a w := by
 obtain ⟨rs, hd, hn, hk⟩ := hm
 show LeavesInM Fence.wide 9 P fn a.tmps R a.defers .returning w
 rw [hd]
 exact vF hres rs w hn hk hR
theorem Marks.cons {B D : Nat} {ds : List Deferred} {w w' : World} (h : Marks B ds w) (hs : ∀ (k : Nat), w.heap[k]? = some (Obj.deferred (some [])) → w'.heap[k]? = some (Obj.deferred (some [])))
  (hB : B ≤ w.heap.size) (hD : w.heap.size ≤ D) (hk : w'.heap[D]? = some (.deferred (some []))) : Marks B ({ target := .collected D, args := #[] } :: ds) w' := by
 obtain ⟨rs, rfl, hn, hr⟩ := h
 refine ⟨D :: rs, rfl, List.nodup_cons.2 ⟨fun hD' => ?_, hn⟩, fun r hr' => ?_⟩
 · have := (Array.getElem?_eq_some_iff.1 (hr D hD').2).1; omega
 · rcases List.mem_cons.1 hr' with rfl | hr'
   · exact ⟨by omega, hk⟩
   · exact ⟨(hr r hr').1, hs r (hr r hr').2⟩
end
end
section
open Go.RowKit Go.Shelf
attribute [local go_sem] Oper.semAt_some
def zB : Nat → List (List Mv) → List (Int × Mv)
 | _, [] => []
 | s, l :: r => l.map (fun m => ((s : Int), m)) ++ zB (s + 1) r
theorem Yp {xss : List (List Mv)} {s : Nat} (h : s < xss.length) : zB s (xss.drop s) = (xss[s]).map (fun m => ((s : Int), m)) ++ zB (s + 1) (xss.drop (s + 1)) := by
 rw [List.drop_eq_getElem_cons h]; rfl
theorem qJ : ∀ (s : Nat) (xss : List (List Mv)), (zB s xss).map Prod.snd = xss.flatten
 | _, [] => rfl
 | s, l :: r => by
  rw [zB, List.map_append, qJ (s + 1) r, List.map_map, List.flatten_cons]
  congr 1
  exact List.map_id' l
theorem Xn (a : Ad) : (zB 0 a.sts).length = a.mvs.length := by
 rw [← List.length_map (f := Prod.snd), qJ]; rfl
theorem Zh {B : Nat} {w w' : World} (hs : w.heap.size ≤ w'.heap.size) (h : ∀ k, k < B → w'.heap[k]? = w.heap[k]?) : Below B w { w' with os := w.os, tape := w.tape, output := w.output } := ⟨rfl, rfl, rfl, hs, h⟩
theorem SAt.same {w w' : World} {B : Nat} {A : Option Addr} {xss : List (List Mv)} (h : SAt w B A xss) (hs : w.heap.size ≤ w'.heap.size) (hk : ∀ k, k < B → w'.heap[k]? = w.heap[k]?) : SAt w' B A xss := by
 have h2 := h.keep (Zh hs hk)
 exact h2
theorem MAt.same {w w' : World} {B : Nat} {A : Option Addr} {xs : List Mv} (h : MAt w B A xs) (hs : w.heap.size ≤ w'.heap.size) (hk : ∀ k, k < B → w'.heap[k]? = w.heap[k]?) : MAt w' B A xs := by
 have h2 := h.keep (Zh hs hk)
 exact h2
theorem ub (n : Int) (SV : Value) (w : World) : Calls Tryz.prog 223 #[.agg #[.int .i64 n, SV]] w fun e w' =>
  e = .returned (.func (.func 241) #[] #[.pointer (some ⟨w.heap.size, 0, none⟩)]) ∧ w.alloc (.cells #[.int .i64 n, SV] 27) = w' := by
 go_enter Tryz.func223, Tryz.ntmps223
 go_wp2
 go_ret
 exact ⟨rfl, rfl⟩
set_option maxRecDepth 100000 in
theorem jf (a : Ad) (hf : FewA a) (SV : Option Addr) (ks B bx : Nat) (w : World) (hb : w.heap[bx]? = some (.cells #[.int .i64 a.n, .slice SV a.sts.length ks] 27)) (hS : SAt w B SV a.sts) (hB : B ≤ w.heap.size) :
  Ja Tryz.prog 241 #[.pointer (some ⟨bx, 0, none⟩)] (fun x : Int × Mv => #[.int .i64 x.1, .agg x.2.cells]) (fun k => k < B ∨ k = bx) (zB 0 a.sts) w := fun n hn l J Jx W hW hJ hJx hY h0 => by
 have hbx : bx < w.heap.size := (Array.getElem?_eq_some_iff.1 hb).1
 have hb0 : W.heap[bx]? = some (.cells #[.int .i64 a.n, .slice SV a.sts.length ks] 27) := (hW.block bx hbx).trans hb
 have hS0 : SAt W B SV a.sts := hS.keep (hW.mono hB)
 have HF := zH (fun l hl => hf.each (l := l) hl)
 have hfl := hf.1
 have HY := zH hY
 have HJA : Hid (∀ s X o, J s X → J s (X.alloc o)) := fun s X o hs => hJ s X (X.alloc o) none hs (World.grownBy_alloc X o none) (fun r e => by cases e)
 have c1 := za hb0 1 rfl
 have HS0 := zH hS0
 have H0 := zH h0
 have HB0 := zH hb0
 have hBs : B ≤ W.heap.size := Nat.le_trans hB hW.size
 have hbW : bx < W.heap.size := Nat.lt_of_lt_of_le hbx hW.size
 clear hY hS hS0 hf hJ hJx h0 hb0 hb hW hB hbx
 obtain ⟨n0, sts⟩ := a
 dsimp only at HB0 c1 HS0 HF hfl HY ⊢
 refine callsIn_of_wp Tryz.func241 rfl trivial ?_ rfl
 simp only [Tryz.ntmps241, List.size_toArray, List.length_cons, List.length_nil, Nat.reduceAdd, Nat.reduceSub, Array.replicate_succ, Array.replicate_zero, List.push_toArray, List.append_toArray, List.nil_append, List.cons_append]
 gi_wp2
 gi_loopw [10] (fun p wr => ∃ s : Nat, s ≤ sts.length ∧ p = .int .i64 (s : Int) ∧ ∃ pre : List { x : Int × Mv // x ∈ zB 0 sts }, Hid (pre.map (·.1) ++ zB s (sts.drop s) = zB 0 sts) ∧ Hid (J pre wr) ∧ Hid (SAt wr B SV sts) ∧ Hid (wr.heap[bx]? = some (.cells #[.int .i64 n0, .slice SV sts.length ks] 27)) ∧ W.heap.size ≤ wr.heap.size) (fun p _ => sts.length - (intOf p).toNat)
 case atStart => exact ⟨0, by omega, rfl, [], by simp [Hid], H0, HS0, HB0, Nat.le_refl _⟩
 case round =>
  obtain ⟨s, hs, rfl, pre, hp, hJ0, hSr, hbr, hsz⟩ := hrel
  clear c1
  by_cases hlt : s < sts.length
  · obtain ⟨b, o, A', k', rfl, hbB, q1, hM⟩ := hSr.out.at_ s hlt
    have hl40 := HF.out _ (List.getElem_mem hlt)
    have hdr := Yp hlt
    obtain ⟨L, hL⟩ : ∃ L, sts[s] = L := ⟨_, rfl⟩
    have HL := zH hL
    rw [hL] at q1 hM hl40 hdr
    have HP : Hid (pre.map (·.1) ++ ((L.drop 0).map (fun m => ((s : Int), m)) ++ zB (s + 1) (sts.drop (s + 1))) = zB 0 sts) := by rw [List.drop_zero, ← hdr]; exact hp.out
    have HM0 := zH hM
    clear hL hdr hp hM
    gi_wp2_with fail
    gi_loopw [17] (fun p wr => ∃ j : Nat, j ≤ L.length ∧ p = .int .i64 (j : Int) ∧ ∃ pre : List { x : Int × Mv // x ∈ zB 0 sts }, Hid (pre.map (·.1) ++ ((L.drop j).map (fun m => ((s : Int), m)) ++ zB (s + 1) (sts.drop (s + 1))) = zB 0 sts) ∧ Hid (J pre wr) ∧ Hid (SAt wr B (some ⟨b, o, none⟩) sts) ∧ Hid (wr.heap[bx]? = some (.cells #[.int .i64 n0, .slice (some ⟨b, o, none⟩) sts.length ks] 27)) ∧ Hid (MAt wr B A' L) ∧ W.heap.size ≤ wr.heap.size) (fun p _ => L.length - (intOf p).toNat)
    case atStart => exact ⟨0, by omega, rfl, pre, HP, hJ0, hSr, hbr, HM0, hsz⟩
    case round =>
     obtain ⟨j, hj, rfl, pre, hp, hJ0, hSr, hbr, hMr, hsz⟩ := hrel
     clear HP q1 HM0
     by_cases hjl : j < L.length
     · obtain ⟨b2, o2, rfl, hb2, m0, m1, m2, m3, m4, m5, m6, m7⟩ := hMr.out.row j hjl
       have hdj : L.drop j = L[j] :: L.drop (j + 1) := List.drop_eq_getElem_cons hjl
       obtain ⟨m, hm⟩ : ∃ m, L[j] = m := ⟨_, rfl⟩
       rw [hm] at m0 m1 m2 m3 m4 m5 m6 m7 hdj
       have hp2 : pre.map (·.1) ++ (((s : Int), m) :: ((L.drop (j + 1)).map (fun m => ((s : Int), m)) ++ zB (s + 1) (sts.drop (s + 1)))) = zB 0 sts := by
        have := hp.out
        rw [hdj, List.map_cons, List.cons_append] at this
        exact this
       have hmem : ((s : Int), m) ∈ zB 0 sts := by rw [← hp2]; simp
       have hlen : pre.length < (zB 0 sts).length := by
        have := congrArg List.length hp2
        simp only [List.length_append, List.length_map, List.length_cons] at this
        omega
       obtain ⟨fn, tmps, assign, body, hy, hR⟩ := HY.out pre ⟨((s : Int), m), hmem⟩ _ (HJA.out _ _ (.cells #[.int .i64 m.r.n, .int .i64 m.r.h0, .int .i64 m.r.h1, .int .i64 m.r.h2, .int .i64 m.r.h3, .int .i64 m.r.h4, .int .i64 m.r.f, .int .i64 m.to] 200) hJ0.out) hlen
       unfold Mv.cells at hy
       dsimp only at hy
       have HP2 : Hid ((pre ++ [(⟨((s : Int), m), hmem⟩ : { x : Int × Mv // x ∈ zB 0 sts })]).map (·.1) ++ ((L.drop (j + 1)).map (fun m => ((s : Int), m)) ++ zB (s + 1) (sts.drop (s + 1))) = zB 0 sts) := by
        rw [List.map_append, List.append_assoc]
        exact hp2
       have HR := zH hR
       clear hm hdj hp2 hp hR
       gi_wp2_with fail
       refine HR.out.mono ?_
       rintro e W3 (⟨rfl, hJ3, hk3⟩ | ⟨rfl, hJx3⟩)
       · have hs1 : wr.heap.size ≤ W3.heap.size := by have := hk3.size; simp at this; omega
         have hk1 : ∀ k, (k < B ∨ k = bx) → k < wr.heap.size → W3.heap[k]? = wr.heap[k]? := fun k hk hlt => (hk3.same k hk (by simp; omega)).trans (ye (Array.getElem?_eq_getElem hlt) _ |>.trans (Array.getElem?_eq_getElem hlt).symm)
         have S3 := zH (hSr.out.same hs1 (fun k hk => hk1 k (.inl hk) (by omega)))
         have M3 := zH (hMr.out.same hs1 (fun k hk => hk1 k (.inl hk) (by omega)))
         have B3 := zH ((hk1 bx (.inr rfl) (by omega)).trans hbr.out)
         have J3 := zH hJ3
         have hsz3 : W.heap.size ≤ W3.heap.size := by omega
         clear hk3 hJ3 hk1 hs1 m0 m1 m2 m3 m4 m5 m6 m7
         gi_wp2_with fail
         go_roundw
         case rel => exact ⟨j + 1, by omega, by go_num, _, HP2, J3, S3, B3, M3, hsz3⟩
         case measure => simp [intOf]; omega
       · gi_wp2_with fail
         refine bodyPost_ret (results_none rfl _ _ _) rfl ?_
         refine ⟨⟨_, rfl⟩, .inr ⟨_, ?_, hJx3⟩⟩
         exact ⟨_, HP2.out⟩
     · obtain rfl : j = L.length := by omega
       have HP : Hid (pre.map (·.1) ++ zB (s + 1) (sts.drop (s + 1)) = zB 0 sts) := by have := hp.out; rwa [List.drop_length, List.map_nil, List.nil_append] at this
       clear hp
       gi_wp2_with fail
       go_roundw
       case rel => exact ⟨s + 1, by omega, by go_num, pre, HP, hJ0, hSr, hbr, hsz⟩
       case measure => simp [intOf]; omega
  · obtain rfl : s = sts.length := by omega
    have HP : Hid (pre.map (·.1) = zB 0 sts) := by have := hp.out; rwa [List.drop_length, zB, List.append_nil] at this
    clear hp
    gi_wp2_with fail
    go_end0
    exact ⟨⟨_, rfl⟩, .inl ⟨pre, HP.out, hJ0.out⟩⟩
end
section
open Go.RowKit Go.Shelf
attribute [local go_sem] Oper.semAt_some
theorem kD {w : World} {g : Nat} {v : Value} {t : TypeId} (h : w.heap[g]? = some (.cells #[v] t (0, 0))) (v' : Value) :
  (w.setCell ⟨g, 0, none⟩ v').heap[g]? = some (.cells #[v'] t (0, 0)) ∧ (w.setCell ⟨g, 0, none⟩ v').heap.size = w.heap.size ∧ ∀ k, k ≠ g → (w.setCell ⟨g, 0, none⟩ v').heap[k]? = w.heap[k]? := by
 have hg := (Array.getElem?_eq_some_iff.1 h).1
 refine ⟨?_, by simp [World.setCell], fun k hk => Below.heap_setCell w ⟨g, 0, none⟩ v' k hk⟩
 have hgg := (Array.getElem?_eq_some_iff.1 h).2
 rw [World.setCell, Array.getElem?_modify, if_pos rfl, h]
 rfl
theorem ji {B D : Nat} {w : World} (hB : B ≤ D) (hk : w.heap[D]? = some (.deferred (some []))) : Marks B [{ target := .collected D, args := #[] }] w :=
 ⟨[D], rfl, by simp, fun r hr => by simp only [List.mem_singleton] at hr; subst hr; exact ⟨hB, hk⟩⟩
structure SzIn (B : Nat) (C : Array Value) (T : TypeId) (cnt : Int) (w W : World) : Prop where
 below : Below B w W
 b0 : W.heap[B]? = some (.cells C T (0, 0))
 b1 : W.heap[B + 1]? = some (.cells #[.int .i64 cnt] 3 (0, 0))
theorem SzIn.turn {B : Nat} {C : Array Value} {T : TypeId} {cnt : Int} {w W W' : World} {row : Option Nat} (h : SzIn B C T cnt w W) (hg : W.grownBy W' row) (hr : ∀ r, row = some r → B ≤ r ∧ ∃ o : Obj, W.heap[r]? = some o ∧ o.isCells = false) : SzIn B C T cnt w W' :=
 ⟨h.below.grown hg (by have := (Array.getElem?_eq_some_iff.1 h.b0).1; omega) (fun k hk => (hr k hk).1), (grownBy_keeps_cells hg (fun r e => (hr r e).2) h.b0 rfl).trans h.b0, (grownBy_keeps_cells hg (fun r e => (hr r e).2) h.b1 rfl).trans h.b1⟩
theorem SzIn.set {B : Nat} {C : Array Value} {T : TypeId} {cnt : Int} {w W : World} (h : SzIn B C T cnt w W) (c' : Int) : SzIn B C T c' w (W.setCell ⟨B + 1, 0, none⟩ (.int .i64 c')) := by
 obtain ⟨x1, x2, x3⟩ := kD h.b1 (.int .i64 c')
 exact ⟨h.below.setCell (by simp) _, (x3 B (by omega)).trans h.b0, x1⟩
theorem SzIn.keeps {B D : Nat} {C : Array Value} {T : TypeId} {cnt : Int} {w W : World} (h : SzIn B C T cnt w W) (c' : Int) (K : Nat → Prop) (hK : ¬ K (B + 1)) : KeepsFrom D W (W.setCell ⟨B + 1, 0, none⟩ (.int .i64 c')) ∧ KeepB K W (W.setCell ⟨B + 1, 0, none⟩ (.int .i64 c')) := by
 obtain ⟨x1, x2, x3⟩ := kD h.b1 (.int .i64 c')
 refine ⟨⟨by omega, fun k o _ hk ho => ?_⟩, KeepB.setCell hK _⟩
 have k1 : k ≠ B + 1 := by rintro rfl; rw [h.b1] at hk; cases hk; cases ho
 exact (x3 k k1).trans hk
set_option maxRecDepth 100000 in
theorem J4 (a : Ad) (hf : FewA a) (SV : Option Addr) (ks : Nat) (w : World) (hS : SAt w w.heap.size SV a.sts) :
  Calls Tryz.prog 221 #[.agg #[.int .i64 a.n, .slice SV a.sts.length ks]] w fun e w' => e = .returned (.int .i64 (if a.sts.length < 1 then 5 else 0)) ∧ Below w.heap.size w w' := by
 have hf1 := hf.1
 have hf2 := hf.2
 have hml := Xn a
 have HI := zH (fun (bx : Nat) (w' : World) (hb : w'.heap[bx]? = some (.cells #[.int .i64 a.n, .slice SV a.sts.length ks] 27)) (h : SAt w' w.heap.size SV a.sts) (hB : w.heap.size ≤ w'.heap.size) => jf a hf SV ks w.heap.size bx w' hb h hB)
 have HS := zH hS
 obtain ⟨nl, hnl⟩ : ∃ nl, (zB 0 a.sts).length = nl := ⟨_, rfl⟩
 have HNL := zH hnl
 clear hS
 refine yq Tryz.func221 rfl ?_
 simp only [Tryz.ntmps221, List.size_toArray, List.length_cons, List.length_nil, Nat.reduceAdd, Nat.reduceSub, Array.replicate_succ, Array.replicate_zero, List.push_toArray, List.append_toArray, List.nil_append, List.cons_append]
 go_wp2_with fail
 obtain ⟨w2, hw2, b0, b1, hsz, hB⟩ := yj w #[.int .i64 a.n, .slice SV a.sts.length ks] #[.int .i64 0] 27 3
 rw [hw2]
 have hz0 : w2.heap.size = w.heap.size + 2 := by rw [← hw2]; simp
 refine (ub a.n (.slice SV a.sts.length ks) w2).mono ?_
 rintro e W ⟨rfl, hW⟩
 have bb := zh w2 (.cells #[.int .i64 a.n, .slice SV a.sts.length ks] 27)
 have hB2 : Below w2.heap.size w2 W := by rw [← hW]; exact zI _ _
 have hs1 : w2.heap.size < W.heap.size := by rw [← hW]; simp
 rw [hW] at bb
 have hI0 : SzIn w.heap.size #[.int .i64 a.n, .slice SV a.sts.length ks] 27 0 w W := ⟨hB.trans (hB2.mono (by omega)), Z1 b0 hB2 (by omega), Z1 b1 hB2 (by omega)⟩
 have hit := HI.out w2.heap.size W bb ((HS.out.keep hB).keep (hB2.mono (by omega))) (by omega)
 have H0 := zH hI0
 have HIT := zH hit
 have HZ := zH hz0
 have hz1 : w.heap.size + 2 ≤ w2.heap.size := hsz
 clear hw2 hW bb b0 b1 hB hB2 hI0 hit hz0 hsz HI HS hnl
 go_wp2_with fail
 refine YO rfl (enters_of Tryz.func241 (by kernel_rfl) rfl) HIT.out (by rintro k (h | rfl) <;> omega) (fun _ => rfl)
  (fun (pre : List { x : Int × Mv // x ∈ zB 0 a.sts }) W => SzIn w.heap.size #[.int .i64 a.n, .slice SV a.sts.length ks] 27 ((pre.length : Nat) : Int) w W) (fun _ _ _ => False) (fun _ _ _ _ h hg hr => h.turn hg (fun r e => ⟨by have := (hr r e).1; omega, (hr r e).2⟩)) (fun _ _ _ _ _ h _ _ => h)
  H0.out ?a1 ?assign ?body ?done ?stop
 case assign =>
  intro l x W K hK
  gi_wp2
  exact hK
 case body =>
  intro l pre x W hI hlt
  have hpl : pre.length < 100 := by have := HNL.out; omega
  have c1 := za hI.b1 0 rfl
  have f1 := zb hI.b1 0
  have HI := zH hI
  clear hI hlt
  gi_wp2_with fail
  have hK : ¬ (w.heap.size + 1 < w.heap.size ∨ w.heap.size + 1 = w2.heap.size) := by have := HZ.out; omega
  refine ⟨(HI.out.keeps _ (fun k => k < w.heap.size ∨ k = w2.heap.size) hK).1, (HI.out.keeps (D := 0) _ (fun k => k < w.heap.size ∨ k = w2.heap.size) hK).2, ?_⟩
  have := HI.out.set ((pre.length : Int) + 1)
  dsimp only
  rw [show (((pre ++ [x]).length : Nat) : Int) = (pre.length : Int) + 1 by simp]
  exact this
 case done =>
  intro D ys W hD hys hI hDk
  have hlen : ys.length = (zB 0 a.sts).length := by have := congrArg List.length hys; rwa [List.length_map] at this
  have hyl : ys.length ≤ 40 := by omega
  have q0 := za hI.b0 0 rfl
  have q1 := za hI.b0 1 rfl
  have c1 := za hI.b1 0 rfl
  have HI := zH hI
  have HD := zH hDk
  by_cases hz : a.sts.length < 1
  · clear hI hDk hlen hys
    go_wp2_with fail
    all_goals first | (exfalso; omega) | skip
    refine yS (B := w.heap.size) (ji (by omega) HD.out) (v := .int .i64 5) (fun W => by kernel_rfl) ?_
    intro W hS
    exact ⟨by first | rfl | rw [if_pos hz], HI.out.below.trans hS.below⟩
  · have hz1 : ¬ ((a.sts.length : Int) < 1) := by omega
    clear hI hDk hlen hys
    go_wp2_with fail
    all_goals first | (exfalso; omega) | skip
    refine yS (B := w.heap.size) (ji (by omega) HD.out) (v := .int .i64 0) (fun W => by kernel_rfl) ?_
    intro W hS
    exact ⟨by first | rfl | rw [if_neg hz], HI.out.below.trans hS.below⟩
 case stop =>
  intro D c pre W _ _ h
  exact h.elim
end
section
open Go.RowKit Go.Shelf
attribute [local go_sem] Oper.semAt_some
theorem vi {a : Ad} (h : a.n < 1 ∨ 5 < a.n) : xN a = 2 := if_pos h
theorem uu {a : Ad} (h : ¬ (a.n < 1 ∨ 5 < a.n)) (h2 : a.sts.length < 1) : xN a = 5 := by unfold xN; rw [if_neg h, if_pos (.inl h2)]
theorem vh {a : Ad} (h : ¬ (a.n < 1 ∨ 5 < a.n)) (h2 : 1 ≤ a.sts.length) (hf : FewA a) (h3 : zv a a.sts ≠ 0) : xN a = zv a a.sts := by
 unfold xN; rw [if_neg h, if_neg (by have := hf.1; have := hf.2; omega), if_pos h3]
theorem vj {a : Ad} (h : ¬ (a.n < 1 ∨ 5 < a.n)) (h2 : 1 ≤ a.sts.length) (hf : FewA a) (h3 : zv a a.sts = 0) : xN a = if xe a = true then 0 else 21 := by
 unfold xN; rw [if_neg h, if_neg (by have := hf.1; have := hf.2; omega), if_neg (by simpa using h3)]
theorem jQ {a : Ad} : ∀ {p : Option Mv} {l : List Mv}, kh a p l = 0 → ∀ m ∈ l, zZ m.r = 0 ∧ m.r.n = a.n ∧ 0 ≤ m.to ∧ m.to < a.sts.length
 | _, [], _, m, hm => by cases hm
 | p, x :: r, h, m, hm => by
  rw [kh] at h
  split at h
  · rename_i h1; exact absurd h h1
  · rename_i h1
    have h1 : xz a p x = 0 := by simpa using h1
    rcases List.mem_cons.1 hm with rfl | hm
    · unfold xz at h1
      split at h1
      · rename_i h2; exact absurd h1 h2
      · split at h1
        · cases h1
        · split at h1
          · cases h1
          · split at h1
            · cases h1
            · rename_i h2 h3 h4 h5
              exact ⟨by simpa using h2, by simpa using h3, by omega, by omega⟩
    · exact jQ h m hm
theorem kX {a : Ad} : ∀ {xs : List (List Mv)}, zv a xs = 0 → ∀ l ∈ xs, l.length ≠ 0 ∧ ∀ m ∈ l, zZ m.r = 0 ∧ m.r.n = a.n ∧ 0 ≤ m.to ∧ m.to < a.sts.length
 | [], _, l, hl => by cases hl
 | x :: r, h, l, hl => by
  rw [zv] at h
  split at h
  · rename_i h1; exact absurd h h1
  · rename_i h1
    have h1 : xS a x = 0 := by simpa using h1
    rcases List.mem_cons.1 hl with rfl | hl
    · unfold xS at h1
      split at h1
      · cases h1
      · rename_i h2
        exact ⟨h2, fun m hm => jQ (p := zo l 0) (l := l) (by have := h1; unfold xn at this; rwa [List.drop_zero] at this) m hm⟩
    · exact kX h l hl
theorem kE {r : Rd} (h : zZ r = 0) : 1 ≤ r.n ∧ r.n ≤ 5 ∧ yC r = 0 ∧ xI r.n r.f = 0 := by
 unfold zZ at h
 split at h
 · rename_i h1; exact absurd h h1
 · rename_i h1
   have h1 : yC r = 0 := by simpa using h1
   refine ⟨?_, ?_, h1, h⟩
   · unfold yC at h1
     split at h1
     · cases h1
     · omega
   · unfold yC at h1
     split at h1
     · cases h1
     · omega
theorem xk {a : Ad} (h : zv a a.sts = 0) : ∀ m ∈ a.mvs, zZ m.r = 0 ∧ m.r.n = a.n ∧ 0 ≤ m.to ∧ m.to < a.sts.length := fun m hm => by
 obtain ⟨l, hl, hml⟩ := List.mem_flatten.1 hm
 exact (kX h l hl).2 m hml
theorem qp {m : Mv} (h : zZ m.r = 0) : ∃ f : Nat, m.r.f = (f : Int) ∧ f < 32 := by
 obtain ⟨_, k, _, e, _, _, _, hk⟩ := check_ok (kE h).2.2.2
 exact ⟨k, e, hk⟩
theorem X5 {s x : Nat} (hs : s < 32) (hx : x < 32) : (bits BinOp.andNot IntKind.i64 (x : Int) (s : Int) = 0) ↔ (x &&& s = x) := by
 have h1 := kT (p := fun s => vL fun x => decide ((bits BinOp.andNot IntKind.i64 (x : Int) (s : Int) = 0) ↔ (x &&& s = x))) (by decide +kernel) hs
 have h2 := kT h1 hx
 simpa using h2
theorem Yo {a : Ad} {x : Int × Mv} (h : x ∈ zB 0 a.sts) : x.2 ∈ a.mvs := by
 have : x.2 ∈ (zB 0 a.sts).map Prod.snd := List.mem_map.2 ⟨x, h, rfl⟩
 rwa [qJ] at this
end
section
open Go.RowKit
theorem flat_step {xss : List (List Mv)} {k : Nat} (h : k < xss.length) : ((xss.take (k + 1)).flatten).length = ((xss.take k).flatten).length + xss[k].length := by
 rw [List.take_succ_eq_append_getElem h, List.flatten_append, List.length_append]; simp
theorem flat_le {xss : List (List Mv)} {k : Nat} : ((xss.take k).flatten).length ≤ xss.flatten.length := by
 conv => rhs; rw [← List.take_append_drop k xss]
 rw [List.flatten_append, List.length_append]; omega
theorem wZ (a : Ad) (SV : Option Addr) (ks : Nat) (hl : a.sts.length ≤ 17592186044416) (hm : a.mvs.length ≤ 4611686018427387904) (hll : ∀ l ∈ a.sts, l.length ≤ 17592186044416) (w : World) (hS : SAt w w.heap.size SV a.sts) :
  Calls Tryz.prog 158 #[.agg #[.int .i64 a.n, .slice SV a.sts.length ks]] w fun e w' => e = .returned (.int .i64 (a.mvs.length : Nat)) ∧ w' = w.alloc (.cells #[.int .i64 a.n, .slice SV a.sts.length ks] 27) := by
 have HS := zH (hS.keep (zI w (.cells #[.int .i64 a.n, .slice SV a.sts.length ks] 27)))
 have HLL := zH hll
 obtain ⟨n0, sts⟩ := a
 unfold Ad.mvs at hm ⊢
 dsimp only at hl hm HLL HS ⊢
 clear hS hll
 go_enter Tryz.func158, Tryz.ntmps158
 go_wp2_with fail
 go_loop [3, 4] (fun v i => ∃ k c : Nat, k ≤ sts.length ∧ i = .int .i64 (k : Int) ∧ v = .int .i64 (c : Int) ∧ Hid (c = ((sts.take k).flatten).length)) (fun _ i => sts.length - (intOf i).toNat)
 case atStart => exact ⟨0, 0, by omega, rfl, rfl, rfl⟩
 case round =>
  obtain ⟨k, c, hk, rfl, rfl, hc⟩ := hrel
  by_cases hlt : k < sts.length
  · obtain ⟨b, o, A', k', rfl, hbB, c1, _⟩ := HS.out.at_ k hlt
    have hlk := HLL.out _ (List.getElem_mem hlt)
    have hst := flat_step hlt
    have hle := flat_le (xss := sts) (k := k + 1)
    obtain ⟨ll, hll⟩ : ∃ ll, sts[k].length = ll := ⟨_, rfl⟩
    rw [hll] at c1 hlk hst
    have hcc : c + ll = ((sts.take (k + 1)).flatten).length := by rw [hst, hc.out]
    have hb : c + ll ≤ 4611686018427387904 := by omega
    have HC := zH hcc
    clear hll hst hle hcc
    go_wp2_with fail
    go_round
    case rel => exact ⟨k + 1, c + ll, by omega, by go_num, by go_num, HC.out⟩
    case measure => simp [intOf]; omega
  · obtain rfl : k = sts.length := by omega
    have hcc : c = sts.flatten.length := by rw [hc.out, List.take_length]
    subst hcc
    go_wp2_with fail
    go_ret
    exact ⟨rfl, rfl⟩
theorem mvs_le {a : Ad} (h8 : a.sts.length ≤ 8) (hll : ∀ l ∈ a.sts, l.length ≤ 17592186044416) : a.mvs.length ≤ 4611686018427387904 := by
 have h : ∀ (xs : List (List Mv)), (∀ l ∈ xs, l.length ≤ 17592186044416) → xs.flatten.length ≤ xs.length * 17592186044416 := by
  intro xs
  induction xs with
  | nil => intro _; simp
  | cons x xs ih =>
   intro hx
   have h1 := ih fun l hl => hx l (List.mem_cons_of_mem _ hl)
   have h2 := hx x (List.mem_cons_self ..)
   rw [List.flatten_cons, List.length_append, List.length_cons, Nat.succ_mul]
   omega
 have h1 := h a.sts hll
 have h2 := Nat.mul_le_mul_right 17592186044416 h8
 unfold Ad.mvs
 omega
theorem rfewA_any (a : Ad) (SV : Option Addr) (ks : Nat) (hl : a.sts.length ≤ 17592186044416) (hll : ∀ l ∈ a.sts, l.length ≤ 17592186044416) (w : World) (hS : SAt w w.heap.size SV a.sts) :
  Calls Tryz.prog 123 #[.agg #[.int .i64 a.n, .slice SV a.sts.length ks]] w fun e w' => e = .returned (.bool (decide (a.sts.length ≤ 8) && decide (a.mvs.length ≤ 40))) ∧ Below w.heap.size w w' := by
 have HC := zH (fun (hm : a.mvs.length ≤ 4611686018427387904) => wZ a SV ks hl hm hll (w.alloc (.cells #[.int .i64 a.n, .slice SV a.sts.length ks] 27)) ((hS.keep (zI w _)).more (by simp)))
 have hm8 := zH (fun (h8 : a.sts.length ≤ 8) => mvs_le h8 hll)
 obtain ⟨q, hq⟩ : ∃ q, a.mvs.length = q := ⟨_, rfl⟩
 rw [hq] at HC hm8 ⊢
 obtain ⟨sl, hsl⟩ : ∃ sl, a.sts.length = sl := ⟨_, rfl⟩
 rw [hsl] at HC hm8 hl ⊢
 clear hS hq hsl hll
 go_enter Tryz.func123, Tryz.ntmps123
 by_cases h1 : sl ≤ 8
 · have hm := hm8.out h1
   go_wp2_with fail
   all_goals first | (exfalso; omega) | skip
   refine (HC.out hm).mono ?_
   rintro e w1 ⟨rfl, rfl⟩
   clear HC
   go_wp2_with fail
   go_ret
   exact ⟨zj (by first | (rw [decide_eq_true h1, Bool.true_and]; exact YC (by omega)) | exact YC (by omega)), vg w _ _⟩
 · go_wp2_with fail
   all_goals first | (exfalso; omega) | skip
   go_ret
   exact ⟨zj (by first | rfl | rw [decide_eq_false h1, Bool.false_and]), zI w _⟩
theorem Xo {a : Ad} (hf : FewA a) : (∀ l ∈ a.sts, l.length ≤ 17592186044416) ∧ a.sts.length ≤ 17592186044416 ∧ a.mvs.length ≤ 4611686018427387904 :=
 ⟨fun l hl => by have := hf.each hl; omega, by have := hf.1; omega, by have := hf.2; omega⟩
set_option maxRecDepth 100000 in
theorem J9 (a : Ad) (SV : Option Addr) (ks : Nat) (_hsl : a.sts.length ≤ 8) (A : Option Addr) (k0 : Nat) (l : List Mv) (hl : l.length ≤ 40) (k : Nat) (hlt : k < l.length) (w : World) (hA : MAt w w.heap.size A l) :
  Calls Tryz.prog 199 #[.agg #[.int .i64 a.n, .slice SV a.sts.length ks], .slice A l.length k0, .int .i64 k] w fun e w' => e = .returned (.int .i64 (xz a (zo l k) l[k])) ∧ Below w.heap.size w w' := by
 have HA := zH hA
 obtain ⟨b, o, rfl, hbB, c0, c1, c2, c3, c4, c5, c6, c7⟩ := hA.row k hlt
 obtain ⟨bo, hbo⟩ : ∃ bo, Zt (zo l k) l[k] = bo := ⟨_, rfl⟩
 have HBO := zH hbo
 have m1 := zH (@uM a (zo l k) l[k])
 have m2 := zH (@Jt a (zo l k) l[k])
 have m3 := zH (@uN a (zo l k) l[k])
 have m4 := zH (@Xp a (zo l k) l[k])
 have m5 := zH (@Xq a (zo l k) l[k])
 rw [hbo] at m3 m4 m5
 obtain ⟨m, hm⟩ : ∃ m, l[k] = m := ⟨_, rfl⟩
 have HX := zH hm
 obtain ⟨mE, hmE⟩ : ∃ mE, xz a (zo l k) l[k] = mE := ⟨_, rfl⟩
 rw [hmE] at m1 m2 m3 m4 m5 ⊢
 rw [hm] at c0 c1 c2 c3 c4 c5 c6 c7 m1 m2 m3 m4 m5
 have HR := zH (fun w' => we m.r w')
 obtain ⟨rE, hrE⟩ : ∃ rE, zZ m.r = rE := ⟨_, rfl⟩
 rw [hrE] at m1 m2 m3 m4 m5 HR
 unfold Rd.cells at HR
 clear hbo hm hmE hrE hA
 go_enter Tryz.func199, Tryz.ntmps199
 go_wp2_with fail
 obtain ⟨W1, hW1, b0, b1, hs1, hB1⟩ := yj w #[.int .i64 a.n, .slice SV a.sts.length ks] #[.int .i64 m.r.n, .int .i64 m.r.h0, .int .i64 m.r.h1, .int .i64 m.r.h2, .int .i64 m.r.h3, .int .i64 m.r.h4, .int .i64 m.r.f] 27 172
 rw [hW1]
 refine (HR.out W1).mono ?_
 rintro e w1 ⟨rfl, hb1⟩
 have BL1 := zH (hB1.trans (hb1.mono (by omega)))
 have d0 := (hb1.block _ (by omega)).trans b0
 have d1 := (hb1.block _ (by omega)).trans b1
 have HD1 := zH d1
 have HD0 := zH d0
 have q0 := za d0 0 rfl
 have q1 := za d0 1 rfl
 have p0 := za d1 0 rfl
 have p1 := za d1 1 rfl
 have p2 := za d1 2 rfl
 have p3 := za d1 3 rfl
 have p4 := za d1 4 rfl
 have p5 := za d1 5 rfl
 have p6 := za d1 6 rfl
 have hsw := zd d1
 obtain ⟨_, _, e7, _, _, _, _, _, _, _, _, p7⟩ := (HA.out.keep BL1.out).row k hlt
 cases e7
 rw [HX.out] at p7
 clear hW1 b0 b1 hB1 hb1 d0 d1 c0 c1 c2 c3 c4 c5 c6 c7 HR
 by_cases hr : rE = 0
 case neg =>
  have he := zH (m1.out hr)
  have e0 : (rE != 0) = true := by simpa using hr
  clear m1 m2 m3 m4 m5 hr HBO HX
  go_wp2_with fail
  go_ret
  exact ⟨ze he.out.symm, BL1.out⟩
 case pos =>
 subst hr
 clear m1
 by_cases hn : m.r.n = a.n
 case neg =>
  have he := zH (m2.out (by simp) hn)
  have e0 : (m.r.n != a.n) = true := by simpa using hn
  clear m2 m3 m4 m5 hn HBO HX
  go_wp2_with fail
  go_ret
  exact ⟨ze he.out.symm, BL1.out⟩
 case pos =>
 have e0 : (m.r.n != a.n) = false := by simpa using hn
 have n3 := zH (m3.out (by simp) hn)
 have n4 := zH (m4.out (by simp) hn)
 have n5 := zH (m5.out (by simp) hn)
 clear m2 hn m3 m4 m5
 cases k with
 | zero =>
  obtain rfl : bo = false := by rw [← HBO.out]; rfl
  have g0 : decide ((0 : Int) < 0) = false := by decide
  rw [Nat.zero_mul, Nat.add_zero] at p7
  clear HBO HX n3
  go_wp2_with fail
  go_quiet (fail)
  by_cases ht : m.to < 0 ∨ (a.sts.length : Int) ≤ m.to
  · have he := zH (n4.out (by simp) ht)
    clear n4 n5
    by_cases ht0 : m.to < 0
    · clear ht
      go_wp2_with fail
      go_quiet (fail)
      go_wp2_with fail
      go_ret
      exact ⟨ze he.out.symm, by repeat (first | exact BL1.out | refine zU ?_ _)⟩
    · have ht1 : (a.sts.length : Int) ≤ m.to := by omega
      clear ht
      go_wp2_with fail
      go_quiet (fail)
      go_wp2_with fail
      go_ret
      exact ⟨ze he.out.symm, by repeat (first | exact BL1.out | refine zU ?_ _)⟩
  · have he := zH (n5.out (by simp) ht)
    have ht0 : ¬ m.to < 0 := by omega
    have ht1 : ¬ (a.sts.length : Int) ≤ m.to := by omega
    clear n4 n5 ht
    go_wp2_with fail
    go_quiet (fail)
    go_wp2_with fail
    go_ret
    exact ⟨ze he.out.symm, by repeat (first | exact BL1.out | refine zU ?_ _)⟩
 | succ j =>
  have hj : j < l.length := by omega
  have hbj : Zt (zo l (j + 1)) l[j + 1] = decide (0 ≤ zm l[j].r.l l[j + 1].r.l) := by rw [zW l j hj]; rfl
  rw [HX.out] at hbj
  rw [show Zt (zo l (j + 1)) m = bo by have := HBO.out; rwa [HX.out] at this] at hbj
  obtain ⟨b', o', e', _, u0, u1, u2, u3, u4, u5, u6, u7⟩ := (HA.out.keep BL1.out).row j hj
  cases e'
  have hc := fun w' => wT l[j].r m.r w'
  obtain ⟨mj, hmj⟩ : ∃ mj, l[j] = mj := ⟨_, rfl⟩
  rw [hmj] at hbj hc u0 u1 u2 u3 u4 u5 u6 u7
  obtain ⟨r, hr⟩ : ∃ r, zm mj.r.l m.r.l = r := ⟨_, rfl⟩
  rw [hr] at hbj hc
  unfold Rd.cells at hc
  have HBJ := zH hbj
  have HC := zH hc
  have g1 : ((j : Int) + 1).toNat = j + 1 := by omega
  have g3 : IntKind.i64.wrap ((j : Int) + 1 - 1) = (j : Int) := by rw [IntKind.wrap_i64]; omega
  have g5 : IntKind.i64.wrap ((j : Int) + 1) = (j : Int) + 1 := by rw [IntKind.wrap_i64]; omega
  have g6 : decide ((0 : Int) < (j : Int) + 1) = true := decide_eq_true (by omega)
  have g7 : IntKind.i64.wrap (j : Int) = (j : Int) := by rw [IntKind.wrap_i64]; omega
  have g8 : (0 : Int) ≤ (j : Int) := by omega
  have g9 : (j : Int) < (l.length : Int) := by omega
  clear hbj hc hr hmj HBO
  go_wp2_with fail
  go_still_tail 10, (by kernel_rfl)
  change wpList _ _ _ _ _ w1.drew
  obtain ⟨w2, hw2⟩ : ∃ w2, w2 = w1.drew := ⟨_, rfl⟩
  have BL2 : Hid (Below w.heap.size w w2) := by rw [hw2]; exact BL1.out.drew
  have HE1 : Hid (w2.heap[w.heap.size]? = some (.cells #[.int .i64 a.n, .slice SV a.sts.length ks] 27 (0, 0))) := by rw [hw2]; exact HD0.out
  rw [← hw2]
  clear HD0 HD1 hw2 q0 q1 p0 p1 p2 p3 p4 p5 p6 p7 u0 u1 u2 u3 u4 u5 u6 u7 g3 g7 g8 g9
  go_wp2_with fail
  refine (HC.out w2).mono ?_
  rintro e w3 ⟨rfl, hb3⟩
  have BL3 := zH (BL2.out.trans (hb3.mono BL2.out.size))
  have d0 := (hb3.block _ (zd HE1.out)).trans HE1.out
  have q0 := za d0 0 rfl
  have q1 := za d0 1 rfl
  obtain ⟨_, _, e7, _, _, _, _, _, _, _, _, p7⟩ := (HA.out.keep BL3.out).row (j + 1) hlt
  cases e7
  rw [HX.out] at p7
  have i1 : (0 : Int) ≤ (j : Int) + 1 := by omega
  have i2 : (j : Int) + 1 < (l.length : Int) := by omega
  clear d0 hb3 HC HX
  cases bo with
  | true =>
   have g0' : 0 ≤ r := of_decide_eq_true HBJ.out.symm
   have he := zH (n3.out (by simp))
   clear n3 n4 n5 HBJ
   go_wp2_with fail
   all_goals first | (exfalso; omega) | skip
   go_ret
   exact ⟨ze he.out.symm, BL3.out⟩
  | false =>
   have g0' : ¬ 0 ≤ r := of_decide_eq_false HBJ.out.symm
   clear n3 HBJ
   by_cases ht : m.to < 0 ∨ (a.sts.length : Int) ≤ m.to
   · have he := zH (n4.out (by simp) ht)
     clear n4 n5
     by_cases ht0 : m.to < 0
     · clear ht
       go_wp2_with fail
       all_goals first | (exfalso; omega) | skip
       go_quiet (fail)
       go_wp2_with fail
       go_ret
       exact ⟨ze he.out.symm, by repeat (first | exact BL3.out | refine zU ?_ _)⟩
     · have ht1 : (a.sts.length : Int) ≤ m.to := by omega
       clear ht
       go_wp2_with fail
       all_goals first | (exfalso; omega) | skip
       go_quiet (fail)
       go_wp2_with fail
       go_ret
       exact ⟨ze he.out.symm, by repeat (first | exact BL3.out | refine zU ?_ _)⟩
   · have he := zH (n5.out (by simp) ht)
     have ht0 : ¬ m.to < 0 := by omega
     have ht1 : ¬ (a.sts.length : Int) ≤ m.to := by omega
     clear n4 n5 ht
     go_wp2_with fail
     all_goals first | (exfalso; omega) | skip
     go_quiet (fail)
     go_wp2_with fail
     go_ret
     exact ⟨ze he.out.symm, by repeat (first | exact BL3.out | refine zU ?_ _)⟩
end
section
open Go.RowKit
attribute [local go_sem] Oper.semAt_some
def okB (a : Ad) (m : Mv) : Bool := (a.at_ m.to).all fun k => qB m k
theorem grows_all {a : Ad} (h : ∀ t (ht : t < a.sts.length), ∀ m ∈ a.sts[t], okB a m = true) : xe a = true := by
 unfold xe
 rw [List.all_eq_true]
 intro m hm
 obtain ⟨l, hl, hml⟩ := List.mem_flatten.1 hm
 obtain ⟨t, ht, rfl⟩ := List.mem_iff_getElem.1 hl
 exact h t ht m hml
theorem QQ {a : Ad} {m k : Mv} (hm : m ∈ a.mvs) (hk : k ∈ a.at_ m.to) (h : qB m k = false) : xe a = false := by
 rw [Bool.eq_false_iff]
 intro hg
 unfold xe at hg
 have := List.all_eq_true.1 (List.all_eq_true.1 hg m hm) k hk
 rw [this] at h
 cases h
theorem at_get {a : Ad} {t : Nat} (h : t < a.sts.length) {x : Int} (hx : x = (t : Int)) : a.at_ x = a.sts[t] := by
 subst hx
 unfold Ad.at_; rw [Int.toNat_natCast, List.getD_eq_getElem?_getD, List.getElem?_eq_getElem h]; rfl
set_option maxRecDepth 100000 in
theorem Qj (a : Ad) (hf : FewA a) (hz : zv a a.sts = 0) (SV : Option Addr) (ks : Nat) (w : World) (hS : SAt w w.heap.size SV a.sts) :
  Calls Tryz.prog 200 #[.agg #[.int .i64 a.n, .slice SV a.sts.length ks]] w fun e w' => e = .returned (.bool (xe a)) ∧ Below w.heap.size w w' := by
 have hf1 := hf.1
 have HFE := zH (fun l hl => hf.each (l := l) hl)
 have HZ := zH (@xk a hz)
 have HGA := zH (@grows_all a)
 have HGN := zH (fun m k hm hk h => @QQ a m k hm hk h)
 obtain ⟨G, hG⟩ : ∃ G, xe a = G := ⟨_, rfl⟩
 rw [hG] at HGA ⊢
 simp only [hG] at HGN
 clear hf hz hG
 go_enter Tryz.func200, Tryz.ntmps200
 go_wp2_with fail
 obtain ⟨w1, hw1⟩ : ∃ w1, w.alloc (.cells #[.int .i64 a.n, .slice SV a.sts.length ks] 27) = w1 := ⟨_, rfl⟩
 have hbb := zh w (.cells #[.int .i64 a.n, .slice SV a.sts.length ks] 27)
 have hb01 : Below w.heap.size w w1 := by rw [← hw1]; exact zI w _
 have hsz1 : w1.heap.size = w.heap.size + 1 := by rw [← hw1]; simp
 rw [hw1] at hbb ⊢
 have HBB := zH hbb
 have HB01 := zH hb01
 have HS := zH ((hS.keep hb01).more (by omega : w.heap.size ≤ w1.heap.size))
 clear hS hw1 hbb hb01
 go_loopw [3] (fun i wr => ∃ s : Nat, s ≤ a.sts.length ∧ i = .int .i64 (s : Int) ∧ Hid (∀ t (ht : t < a.sts.length), t < s → ∀ m ∈ a.sts[t], okB a m = true) ∧ Hid (Below w1.heap.size w1 wr)) (fun i _ => a.sts.length - (intOf i).toNat)
 case atStart => exact ⟨0, by omega, rfl, (fun t ht h0 => by omega), Below.refl _ _⟩
 case round =>
  obtain ⟨s, hs, rfl, hps, hbs⟩ := hrel
  have hbk := (hbs.out.block _ (zd HBB.out)).trans HBB.out
  have q0 := za hbk 0 rfl
  have q1 := za hbk 1 rfl
  clear hbk
  by_cases hlt : s < a.sts.length
  case neg =>
   obtain rfl : s = a.sts.length := by omega
   have hg := zH (HGA.out (fun t ht => hps.out t ht ht))
   clear hps HGA HGN HZ HFE
   go_wp2_with fail
   go_ret
   exact ⟨zj hg.out.symm, HB01.out.trans (hbs.out.mono (by omega))⟩
  case pos =>
  obtain ⟨b, o, A', k', rfl, hbB, c1, hM⟩ := (HS.out.keep hbs.out).at_ s hlt
  have hl40 := HFE.out _ (List.getElem_mem hlt)
  have HLm : Hid (∀ m ∈ a.sts[s], m ∈ a.mvs) := fun m hm => List.mem_flatten.2 ⟨_, List.getElem_mem hlt, hm⟩
  have HL2 : Hid ((∀ m ∈ a.sts[s], okB a m = true) → ∀ t (ht : t < a.sts.length), t < s + 1 → ∀ m ∈ a.sts[t], okB a m = true) := fun h t ht h2 m hm => by
   by_cases e : t = s
   · subst e; exact h m hm
   · exact hps.out t ht (by omega) m hm
  have HAT : Hid (∀ wr : World, Below w1.heap.size w1 wr → wr.cell? ⟨b, o + s, none⟩ = some (.slice A' (a.sts[s]).length k') ∧ MAt wr w1.heap.size A' a.sts[s]) := fun wr' hb' =>
   ⟨((hb'.cell (p := ⟨b, _, none⟩) hbB).trans ((hbs.out.cell (p := ⟨b, _, none⟩) hbB).symm)).trans c1, (by
    obtain ⟨b2, o2, A2, k2, e2, hB2, c2, hM2⟩ := (HS.out.keep hb').at_ s hlt
    cases e2
    have := (((hb'.cell (p := ⟨b, o + s, none⟩) hbB).trans ((hbs.out.cell (p := ⟨b, o + s, none⟩) hbB).symm)).trans c1).symm.trans c2
    cases this
    exact hM2)⟩
  obtain ⟨L, hL⟩ : ∃ L, a.sts[s] = L := ⟨_, rfl⟩
  rw [hL] at c1 hl40 HLm HL2 HAT
  clear hM hL hps
  go_wp2_with fail
  clear q0 q1 c1
  go_loopw [4] (fun i wr => ∃ j : Nat, j ≤ L.length ∧ i = .int .i64 (j : Int) ∧ Hid (∀ u (hu : u < L.length), u < j → okB a L[u] = true) ∧ Hid (Below w1.heap.size w1 wr)) (fun i _ => L.length - (intOf i).toNat)
  case atStart => exact ⟨0, by omega, rfl, (fun u hu h0 => by omega), hbs⟩
  case round =>
   clear hbs
   obtain ⟨j, hj, rfl, hpj, hbs⟩ := hrel
   have hbk := (hbs.out.block _ (zd HBB.out)).trans HBB.out
   have q0 := za hbk 0 rfl
   have q1 := za hbk 1 rfl
   obtain ⟨c1, hM⟩ := HAT.out _ hbs.out
   clear hbk
   by_cases hjl : j < L.length
   case neg =>
    obtain rfl : j = L.length := by omega
    have hg := zH (HL2.out (fun m hm => by
     obtain ⟨u, hu, rfl⟩ := List.mem_iff_getElem.1 hm
     exact hpj.out u hu hu))
    clear hpj hM HL2 HAT HLm
    go_wp2_with fail
    go_roundw
    case rel => exact ⟨s + 1, by omega, by go_num, hg, hbs⟩
    case measure => simp [intOf]; omega
   case pos =>
   obtain ⟨b', o', e', hbB', d0, d1, d2, d3, d4, d5, d6, d7⟩ := hM.row j hjl
   cases e'
   have HLj : Hid (L[j] ∈ a.mvs) := HLm.out _ (List.getElem_mem hjl)
   have HJ2 : Hid (okB a L[j] = true → ∀ u (hu : u < L.length), u < j + 1 → okB a L[u] = true) := fun h u hu h2 => by
    by_cases e : u = j
    · subst e; exact h
    · exact hpj.out u hu (by omega)
   obtain ⟨m, hm⟩ : ∃ m, L[j] = m := ⟨_, rfl⟩
   rw [hm] at d0 d1 d2 d3 d4 d5 d6 d7 HLj HJ2
   obtain ⟨z1, z2, z3, z4⟩ := HZ.out m HLj.out
   obtain ⟨f1, ef1, lf1⟩ := qp z1
   obtain ⟨t, et⟩ := Int.eq_ofNat_of_zero_le z3
   have htl : t < a.sts.length := by omega
   have hat := at_get htl et
   have HKt : Hid (∀ y ∈ a.at_ m.to, y ∈ a.mvs) := by rw [hat]; exact fun y hy => List.mem_flatten.2 ⟨_, List.getElem_mem htl, hy⟩
   have hl41 := HFE.out _ (List.getElem_mem htl)
   have HTT : Hid (∀ wr : World, Below w1.heap.size w1 wr → ∃ A' c, wr.cell? ⟨b, o + t, none⟩ = some (.slice A' (a.at_ m.to).length c) ∧ MAt wr w1.heap.size A' (a.at_ m.to)) := fun wr' hb' => by
    rw [hat]
    obtain ⟨b2, o2, A2, k2, e2, hB2, c2, hM2⟩ := (HS.out.keep hb').at_ t htl
    cases e2
    exact ⟨A2, k2, c2, hM2⟩
   rw [← hat] at hl41
   have HOK : Hid ((∀ y ∈ a.at_ m.to, qB m y = true) → okB a m = true) := fun h => List.all_eq_true.2 h
   obtain ⟨L2, hL2⟩ : ∃ L2, a.at_ m.to = L2 := ⟨_, rfl⟩
   have HN2 : Hid (∀ y ∈ L2, qB m y = false → G = false) := by
    rw [← hL2]; exact fun y hy h => HGN.out m y HLj.out hy h
   rw [hL2] at HKt hl41 HTT HOK
   have HE1 := zH ef1
   have HET := zH et
   rw [et] at d7
   clear hM hm z1 z2 z3 z4 et ef1 hat hL2 hpj
   go_wp2_with fail
   obtain ⟨wm, hwm⟩ : ∃ wm, wr.alloc (.cells m.cells 200) = wm := ⟨_, rfl⟩
   have hmb := zh wr (.cells m.cells 200)
   have hmB : Below w1.heap.size w1 wm := by rw [← hwm]; exact hbs.out.trans ((zI wr _).mono hbs.out.size)
   have hsm : wm.heap.size = wr.heap.size + 1 := by rw [← hwm]; simp
   have hsr := hbs.out.size
   rw [hwm] at hmb
   unfold Mv.cells at hwm hmb
   rw [HET.out] at hwm hmb
   rw [hwm]
   obtain ⟨g, hg⟩ : ∃ g, wr.heap.size = g := ⟨_, rfl⟩
   rw [hg] at hmb hsm hsr ⊢
   have HMB := zH hmb
   have HMW := zH hmB
   clear hwm hmb hg q0 q1 c1 d0 d1 d2 d3 d4 d5 d6 d7 hbs
   go_loopw [6] (fun i wx => ∃ q : Nat, q ≤ L2.length ∧ i = .int .i64 (q : Int) ∧ Hid (∀ u (hu : u < L2.length), u < q → qB m L2[u] = true) ∧ Hid (Below wm.heap.size wm wx)) (fun i _ => L2.length - (intOf i).toNat)
   case atStart => exact ⟨0, by omega, rfl, (fun u hu h0 => by omega), Below.refl _ _⟩
   case round =>
    obtain ⟨q, hq, rfl, hpq, hbx⟩ := hrel
    have hbw := HMW.out.trans (hbx.out.mono (by omega))
    have hbk := (hbw.block _ (zd HBB.out)).trans HBB.out
    have q0 := za hbk 0 rfl
    have q1 := za hbk 1 rfl
    have hmk := (hbx.out.block _ (by omega)).trans HMB.out
    have p6 := za hmk 6 rfl
    have p7 := za hmk 7 rfl
    obtain ⟨A2, k2, c2, hM2⟩ := HTT.out _ hbw
    have HBW := zH hbw
    clear hbw hbk hmk
    by_cases hql : q < L2.length
    case neg =>
     obtain rfl : q = L2.length := by omega
     have hg := zH (HJ2.out (HOK.out (fun y hy => by
      obtain ⟨u, hu, rfl⟩ := List.mem_iff_getElem.1 hy
      exact hpq.out u hu hu)))
     clear hpq hM2 HJ2 HOK HTT HKt HN2
     go_wp2_with fail
     go_roundw
     case rel => exact ⟨j + 1, by omega, by go_num, hg, HBW⟩
     case measure => simp [intOf]; omega
    case pos =>
    obtain ⟨b3, o3, e3, hB3, _, _, _, _, _, _, c6, _⟩ := hM2.row q hql
    subst e3
    have hmem := List.getElem_mem hql
    obtain ⟨f2, ef2, lf2⟩ := qp (HZ.out _ (HKt.out _ hmem)).1
    have HN3 := zH (HN2.out _ hmem)
    have HQ2 : Hid (qB m L2[q] = true → ∀ u (hu : u < L2.length), u < q + 1 → qB m L2[u] = true) := fun h u hu h2 => by
     by_cases e : u = q
     · subst e; exact h
     · exact hpq.out u hu (by omega)
    have hkb : qB m L2[q] = (f1 &&& f2 == f1) := by unfold qB; rw [HE1.out, ef2, Int.toNat_natCast, Int.toNat_natCast]
    have HC := zH (fun w' => QN f1 f2 lf1 lf2 w')
    obtain ⟨y, hy⟩ : ∃ y, L2[q] = y := ⟨_, rfl⟩
    rw [hy] at c6 HN3 HQ2 hkb ef2
    obtain ⟨bo, hbo⟩ : ∃ bo, (f1 &&& f2 == f1) = bo := ⟨_, rfl⟩
    rw [hbo] at hkb HC
    have HKB := zH hkb
    have he1 := HE1.out
    rw [he1] at p6
    rw [ef2] at c6
    clear hkb hbo hy hM2 hmem ef2 hpq he1
    cases bo with
    | true =>
     have hg := zH (HQ2.out HKB.out)
     clear HN3 HQ2 HKB
     go_wp2_with fail
     go_quiet ((go_at_call 217; exact (HC.out _).mono fun e w' h => ⟨h.1, _, h.2.symm⟩))
     go_wp2_with fail
     go_roundw
     case rel => exact ⟨q + 1, by omega, by go_num, hg, zU hbx.out _⟩
     case measure => simp [intOf]; omega
    | false =>
     have hg := zH (HN3.out HKB.out)
     clear HN3 HQ2 HKB
     go_wp2_with fail
     go_quiet ((go_at_call 217; exact (HC.out _).mono fun e w' h => ⟨h.1, _, h.2.symm⟩))
     go_wp2_with fail
     go_ret
     exact ⟨zj hg.out.symm, zU (HB01.out.trans (HBW.out.mono (by omega))) _⟩
end
section
open Go.RowKit
attribute [local go_sem] Oper.semAt_some
set_option maxRecDepth 100000 in
theorem Xa (a : Ad) (hf : FewA a) (SV : Option Addr) (ks : Nat) (w : World) (hS : SAt w w.heap.size SV a.sts) :
  Calls Tryz.prog 160 #[.agg #[.int .i64 a.n, .slice SV a.sts.length ks]] w fun e w' => e = .returned (.int .i64 (xN a)) ∧ Below w.heap.size w w' := by
 have hf1 := hf.1
 have hf2 := hf.2
 obtain ⟨hml, hmt, hmm⟩ := Xo hf
 have HMV := zH (fun (w' : World) (h : SAt w' w'.heap.size SV a.sts) => wZ a SV ks hmt hmm hml w' h)
 have HGR := zH (fun hz (w' : World) (h : SAt w' w'.heap.size SV a.sts) => Qj a hf hz SV ks w' h)
 have HMO := zH (fun (A : Option Addr) (k0 : Nat) (l : List Mv) (hl : l.length ≤ 40) (k : Nat) (hlt : k < l.length) (w' : World) (h : MAt w' w'.heap.size A l) => J9 a SV ks hf1 A k0 l hl k hlt w' h)
 have HFE := zH (fun l hl => hf.each (l := l) hl)
 have HE1 := zH (@vi a)
 have HE2 := zH (@uu a)
 have HE3 := zH (fun h h2 => @vh a h h2 hf)
 have HE4 := zH (fun h h2 => @vj a h h2 hf)
 obtain ⟨E, hE⟩ : ∃ E, xN a = E := ⟨_, rfl⟩
 rw [hE] at HE1 HE2 HE3 HE4 ⊢
 obtain ⟨ml, hmlen⟩ : ∃ ml, a.mvs.length = ml := ⟨_, rfl⟩
 rw [hmlen] at HMV hf2
 clear hE hf hml hmt hmm hmlen
 go_enter Tryz.func160, Tryz.ntmps160
 by_cases hr : a.n < 1 ∨ 5 < a.n
 · have hR := zH (HE1.out hr)
   have HN := zH hr
   clear HE1 HE2 HE3 HE4 hr HMV HGR HMO HFE hS
   go_wp2_with fail
   all_goals first | (exfalso; have := HN.out; omega) | skip
   all_goals
    go_ret
    exact ⟨ze hR.out.symm, zI w _⟩
 have r1 : ¬ a.n < 1 := by omega
 have r2 : ¬ 5 < a.n := by omega
 have HE2 := zH (HE2.out hr)
 have HE3 := zH (HE3.out hr)
 have HE4 := zH (HE4.out hr)
 clear hr HE1
 obtain ⟨w1, hw1⟩ : ∃ w1, w.alloc (.cells #[.int .i64 a.n, .slice SV a.sts.length ks] 27) = w1 := ⟨_, rfl⟩
 have hbb := zh w (.cells #[.int .i64 a.n, .slice SV a.sts.length ks] 27)
 have hb01 : Below w.heap.size w w1 := by rw [← hw1]; exact zI w _
 have hsz1 : w1.heap.size = w.heap.size + 1 := by rw [← hw1]; simp
 rw [hw1] at hbb
 have HBB := zH hbb
 have HB01 := zH hb01
 have HS := zH ((hS.keep hb01).more (by omega : w.heap.size ≤ w1.heap.size))
 have HW1 := zH hw1
 clear hS hw1 hb01
 have q0 := za hbb 0 rfl
 have q1 := za hbb 1 rfl
 by_cases hz : a.sts.length < 1
 · have hR := zH (HE2.out hz)
   clear HE2 HE3 HE4 HMV HGR HMO HFE
   go_wp2_with fail
   rw [HW1.out]
   go_wp2_with fail
   go_ret
   exact ⟨ze hR.out.symm, HB01.out⟩
 have hz1 : 1 ≤ a.sts.length := by omega
 have G3 := zH (HE3.out hz1)
 have G4 := zH (HE4.out hz1)
 clear HE2 hz HE3 HE4
 obtain ⟨F, hF⟩ : ∃ F, zv a a.sts = F := ⟨_, rfl⟩
 have HF : Hid (F = zv a (a.sts.drop 0)) := by rw [List.drop_zero]; exact hF.symm
 rw [hF] at G3 G4 HGR
 clear hF
 have g1 := zH (fun k h => @jO a a.sts k h)
 have g2 := zH (fun k h => @vo a a.sts k h)
 have g3 := zH (fun k h => @jN a a.sts k h)
 go_wp2_with fail
 rw [HW1.out]
 refine (HMV.out w1 HS.out).mono ?_
 rintro e w2 ⟨rfl, hw2⟩
 have hb2 : Below w1.heap.size w1 w2 := by rw [hw2]; exact zI w1 _
 have HB2 := zH hb2
 have hbk := (hb2.block _ (zd HBB.out)).trans HBB.out
 have q0 := za hbk 0 rfl
 have q1 := za hbk 1 rfl
 clear hw2 hb2 hbk hbb HMV HW1
 go_wp2_with fail
 all_goals first | (exfalso; omega) | skip
 clear q0 q1
 go_loopw [3] (fun i wr => ∃ s : Nat, s ≤ a.sts.length ∧ i = .int .i64 (s : Int) ∧ Hid (F = zv a (a.sts.drop s)) ∧ Hid (Below w1.heap.size w1 wr)) (fun i _ => a.sts.length - (intOf i).toNat)
 case atStart => exact ⟨0, by omega, rfl, HF, HB2⟩
 case round =>
  clear HB2 HF
  obtain ⟨s, hs, rfl, hrk, hbs⟩ := hrel
  have hbk := (hbs.out.block _ (zd HBB.out)).trans HBB.out
  have q0 := za hbk 0 rfl
  have q1 := za hbk 1 rfl
  by_cases hlt : s < a.sts.length
  case neg =>
   obtain rfl : s = a.sts.length := by omega
   have hF0 : F = 0 := hrk.out.trans (g3.out _ rfl)
   have hR := zH (G4.out hF0)
   have HG := zH (HGR.out hF0 wr ((HS.out.keep hbs.out).more hbs.out.size))
   obtain ⟨gb, hgb⟩ : ∃ gb, xe a = gb := ⟨_, rfl⟩
   rw [hgb] at hR HG
   clear G3 G4 g1 g2 g3 hrk hgb hF0 HGR HMO HFE hbk
   go_wp2_with fail
   refine HG.out.mono ?_
   rintro e w3 ⟨rfl, hb3⟩
   have HB3 := zH (HB01.out.trans ((hbs.out.trans (hb3.mono hbs.out.size)).mono (by omega)))
   clear HG hb3 q0 q1
   cases gb with
   | true =>
    go_wp2_with fail
    go_ret
    exact ⟨ze hR.out.symm, HB3.out⟩
   | false =>
    go_wp2_with fail
    go_ret
    exact ⟨ze hR.out.symm, HB3.out⟩
  case pos =>
  have hbd := zH (g1.out s hlt)
  have hon := zH (g2.out s hlt)
  obtain ⟨b, o, A', k', e', hbB, c1, hM⟩ := (HS.out.keep hbs.out).at_ s hlt
  subst e'
  have hl40 := HFE.out _ (List.getElem_mem hlt)
  have HAT : Hid (∀ wr : World, Below w1.heap.size w1 wr → wr.cell? ⟨b, o + s, none⟩ = some (.slice A' (a.sts[s]).length k') ∧ MAt wr w1.heap.size A' a.sts[s]) := fun wr' hb' =>
   ⟨((hb'.cell (p := ⟨b, _, none⟩) hbB).trans ((hbs.out.cell (p := ⟨b, _, none⟩) hbB).symm)).trans c1, (by
    obtain ⟨b2, o2, A2, k2, e2, hB2, c2, hM2⟩ := (HS.out.keep hb').at_ s hlt
    cases e2
    have := (((hb'.cell (p := ⟨b, o + s, none⟩) hbB).trans ((hbs.out.cell (p := ⟨b, o + s, none⟩) hbB).symm)).trans c1).symm.trans c2
    cases this
    exact hM2)⟩
  obtain ⟨L, hL⟩ : ∃ L, a.sts[s] = L := ⟨_, rfl⟩
  rw [hL] at c1 hl40 HAT hbd hon
  clear hM hL g1 g2 g3 hbk HFE HGR
  by_cases hl0 : L.length = 0
  · have he := uE (a := a) hl0
    rw [he] at hbd
    have hFv := hrk.out.trans (hbd.out (by decide))
    have hR := zH ((G3.out (by rw [hFv]; decide)).trans hFv)
    rw [hl0] at c1
    clear G3 G4 hbd hon hrk he hFv hl0 hl40 HAT HMO
    go_wp2_with fail
    go_ret
    exact ⟨ze hR.out.symm, HB01.out.trans (hbs.out.mono (by omega))⟩
  have HSE := zH (wP (a := a) hl0)
  have e0 : (((L.length : Nat) : Int) == 0) = false := by simpa using hl0
  have e1 : ¬ ((L.length : Nat) : Int) = 0 := by omega
  have b1 := zH (fun k h => @uL a L k h)
  have b2 := zH (fun k h => @gD a L k h)
  have b3 := zH (@uK a L)
  obtain ⟨V, hV⟩ : ∃ V, xS a L = V := ⟨_, rfl⟩
  rw [hV] at HSE hbd hon
  clear hV hl0
  go_wp2_with fail
  clear q0 q1 c1
  go_loopw [4] (fun i wr => ∃ j : Nat, j ≤ L.length ∧ i = .int .i64 (j : Int) ∧ Hid (V = xn a L j) ∧ Hid (Below w1.heap.size w1 wr)) (fun i _ => L.length - (intOf i).toNat)
  case atStart => exact ⟨0, by omega, rfl, HSE, hbs⟩
  case round =>
   clear hbs HSE
   obtain ⟨j, hj, rfl, hpj, hbs⟩ := hrel
   have hbk := (hbs.out.block _ (zd HBB.out)).trans HBB.out
   have q0 := za hbk 0 rfl
   have q1 := za hbk 1 rfl
   obtain ⟨c1, hM⟩ := HAT.out _ hbs.out
   by_cases hjl : j < L.length
   case neg =>
    obtain rfl : j = L.length := by omega
    have hV0 : V = 0 := hpj.out.trans b3.out
    have hR := zH (hrk.out.trans (hon.out hV0))
    clear hpj hM b1 b2 b3 hbd hon hrk hV0 hbk HAT HMO G3 G4
    go_wp2_with fail
    go_roundw
    case rel => exact ⟨s + 1, by omega, by go_num, hR, hbs⟩
    case measure => simp [intOf]; omega
   case pos =>
   have hC := HMO.out A' k' L hl40 j hjl
   have x1 := b1.out j hjl
   have x2 := b2.out j hjl
   obtain ⟨ev, hev⟩ : ∃ ev, xz a (zo L j) L[j] = ev := ⟨_, rfl⟩
   rw [hev] at hC x1 x2
   have HC := zH hC
   have X1 := zH x1
   have X2 := zH x2
   have HMM := zH hM
   have HBK := zH hbk
   have i1 : (0 : Int) ≤ (s : Int) := by omega
   have i2 : (s : Int) < (a.sts.length : Int) := by omega
   clear hC x1 x2 hev hM hbk b1 b2 b3 HMO
   go_wp2_with fail
   go_still_tail 7, (by kernel_rfl)
   change wpList _ _ _ _ _ wr.drew
   obtain ⟨wd, hwd⟩ : ∃ wd, wd = wr.drew := ⟨_, rfl⟩
   have BLd : Hid (Below w1.heap.size w1 wd) := by rw [hwd]; exact hbs.out.drew
   have HMd : Hid (MAt wd wd.heap.size A' L) := by rw [hwd]; exact (HMM.out.keep (Below.refl _ wr).drew).more hbs.out.size
   rw [← hwd]
   clear hwd HMM q0 q1 c1 HBK
   go_wp2_with fail
   refine (HC.out wd HMd.out).mono ?_
   rintro e w3 ⟨rfl, hb3⟩
   have BL3 := zH (BLd.out.trans (hb3.mono BLd.out.size))
   clear hb3 HC HMd BLd
   by_cases he : ev = 0
   · subst he
     have hR := zH (hpj.out.trans (X2.out (by simp)))
     clear X1 X2 hpj
     go_wp2_with fail
     go_roundw
     case rel => exact ⟨j + 1, by omega, by go_num, hR, BL3⟩
     case measure => simp [intOf]; omega
   · have hVv := hpj.out.trans (X1.out he)
     have hFv := (hrk.out.trans (hbd.out (by rw [hVv]; exact he))).trans hVv
     have hR := zH ((G3.out (by rw [hFv]; exact he)).trans hFv)
     have e2 : (ev != 0) = true := by simpa using he
     clear X1 X2 hpj hVv hFv hrk hbd hon G3 G4 he
     go_wp2_with fail
     go_ret
     exact ⟨ze hR.out.symm, HB01.out.trans (BL3.out.mono (by omega))⟩
end
section
open Go.RowKit Go.Shelf
section
variable {P : Program}
theorem jS {fn : Func} {tmps : Array Value} {R : Ending → World → Prop} {B n : Nat} :
  ∀ (rs : List Nat) (w : World), rs.Nodup → (∀ r ∈ rs, B ≤ r ∧ w.heap[r]? = some (.deferred (some []))) → (∀ W, Shut B w W → ∃ v, (results fn tmps).run P W = .ok v W ∧ R (.returned v) W) →
   LeavesInM Fence.wide n P fn tmps R (rs.map (fun r => { target := .collected r, args := #[] })) .returning w
 | [], w, _, _, hR => hR w (Shut.refl _ _)
 | r :: rs, w, hn, hm, hR => by
  obtain ⟨hr, hn'⟩ := List.nodup_cons.1 hn
  obtain ⟨hB, hk⟩ := hm r (by simp)
  refine ⟨by simp, .inl ⟨r, _, rfl, run_takeDeferred hk, ?_⟩⟩
  refine jS rs _ hn' (fun r' hr' => ⟨(hm r' (by simp [hr'])).1, ?_⟩) (fun W hW => hR W ?_)
  · rw [World.putObj_heap_other (by rintro rfl; exact hr hr')]
    exact (hm r' (by simp [hr'])).2
  · refine ⟨((Below.refl B w).grown (grownBy_putObj' w r (.deferred none)) (by have := (Array.getElem?_eq_some_iff.1 hk).1; omega) (fun k e => by cases e; exact hB)).trans hW.below, fun k o ho hc => ?_⟩
    refine hW.same k o ?_ hc
    by_cases e : k = r
    · subst e; rw [hk] at ho; cases ho; cases hc
    · exact (World.putObj_heap_other e).trans ho
theorem yN {fn : Func} {R : Ending → World → Prop} {a : Act} {w : World} {B : Nat} (hm : Marks B a.defers w)
  (hR : ∀ W, Shut B w W → ∃ v, (results fn a.tmps).run P W = .ok v W ∧ R (.returned v) W) : bodyPostM Fence.wide 9 P fn R .ret a w := by
 obtain ⟨rs, hd, hn, hk⟩ := hm
 show LeavesInM Fence.wide 9 P fn a.tmps R a.defers .returning w
 rw [hd]
 exact jS rs w hn hk hR
theorem qT {β : Type} {g : Operand} {ps : Array Tmp} {assign body : Code} {Q : Exit → Act → World → Prop} {a : Act} {w : World}
  {gf : Nat} {lb : Array Value} (hg : a.eval g = .func (.func gf) #[] lb) (eg : Enters P gf)
  {encs : β → Array Value} {K : Nat → Prop} {xs : List β} (hseq : Ja P gf lb encs K xs w) (hK : ∀ k, K k → k < w.heap.size) (hps : ∀ x, (encs x).size = ps.size)
  (I : List { x : β // x ∈ xs } → World → Prop) (Ix : Code → List { x : β // x ∈ xs } → World → Prop) (hI : OwnFrom w.heap.size I) (hIx : ∀ c, OwnFrom w.heap.size (Ix c)) (h0 : I [] w)
  (C : β → Array Value) (T : TypeId) (a₁ : { x : β // x ∈ xs } → Nat → Act)
  (hassign : ∀ (l : Nat) (pre : List { x : β // x ∈ xs }) (x : { x : β // x ∈ xs }) (W : World) (K' : Act → World → Prop), I pre W → (∀ g, g = W.heap.size → I pre (W.alloc (.cells (C x.1) T)) → K' (a₁ x g) (W.alloc (.cells (C x.1) T))) →
   assign.wpIn (Fence.wide.inRound l) 7 P (Exit.then K' (fun _ _ _ => False)) { tmps := (ps.zip (encs x.1)).foldl (fun t (p, v) => t.setIfInBounds p v) a.tmps, defers := [] } W)
  (hbody : ∀ (l : Nat) (pre : List { x : β // x ∈ xs }) (x : { x : β // x ∈ xs }) (g : Nat) (W : World), w.heap.size ≤ g → W.heap[g]? = some (.cells (C x.1) T (0, 0)) → I pre W → pre.length < xs.length → body.wpIn (Fence.wide.inRound l) 7 P (ownPostG w.heap.size (KeepB K) I Ix (pre ++ [x]) W) (a₁ x g) W)
  (hdone : ∀ (D : Nat) (ys : List { x : β // x ∈ xs }) (W : World), w.heap.size ≤ D → ys.map (·.1) = xs → I ys W → W.heap[D]? = some (.deferred (some [])) → Q .normal { a with defers := { target := .collected D, args := #[] } :: a.defers } W)
  (hstop : ∀ (D : Nat) (c : Code) (pre : List { x : β // x ∈ xs }) (W : World), w.heap.size ≤ D → pre.map (·.1) <+: xs → Ix c pre W → W.heap[D]? = some (.deferred (some [])) → c.wp P Q { a with defers := { target := .collected D, args := #[] } :: a.defers } W)
  (hbig : ∀ pre W, I pre W → w.heap.size ≤ W.heap.size) :
  (Code.rangeFunc g ps assign body).wp P Q a w :=
 (wpIn_wide (n := 9)).1 (wpIn_rangeFunc_ownH (F := Fence.wide) (n := 9) rfl (by omega) hg trivial eg (hseq 8 (by omega)) KeepB.trans
  (fun W l o o' hl _ _ _ => KeepB.putObj (fun hk => by have := hK l hk; omega) o') (Below.refl _ _) (fun x => hps x.1) I Ix hI hIx h0
  (fun x a' W => ∃ g, a' = a₁ x g ∧ w.heap.size ≤ g ∧ W.heap[g]? = some (.cells (C x.1) T (0, 0)))
  (fun x a' _ W W' row ⟨g, e, hgg, hc⟩ hgr hr => ⟨g, e, hgg, (grownBy_keeps_cells hgr (fun r e => (hr r e).2) hc rfl).trans hc⟩)
  (fun l pre x W K' hi hK' => hassign l pre x W K' hi fun g hge hi2 => by
   refine hK' _ _ ?_ ?_ hi2 ⟨g, rfl, by rw [hge]; exact hbig _ _ hi, by rw [hge]; exact zh _ _⟩
   · exact ⟨by simp, fun k o _ hk ho => (Below.heap_alloc W _ k (Array.getElem?_eq_some_iff.1 hk).1).trans hk⟩
   · exact KeepB.alloc _ _ _)
  (fun l pre x a' W _ _ hi ⟨g, e, hgg, hc⟩ hl => by subst e; exact hbody l pre x g W hgg hc hi hl) hdone
  (fun D c pre W hD hS hc hk => wpIn_wide.2 (hstop D c pre W hD hS hc hk)))
end
structure RsIn (B : Nat) (C : Array Value) (T : TypeId) (r : Int) (w W : World) : Prop where
 below : Below B w W
 b0 : W.heap[B]? = some (.cells C T (0, 0))
 b1 : W.heap[B + 1]? = some (.cells #[.int .i64 r] 39 (0, 0))
theorem RsIn.turn {B : Nat} {C : Array Value} {T : TypeId} {r : Int} {w W W' : World} {row : Option Nat} (h : RsIn B C T r w W) (hg : W.grownBy W' row) (hr : ∀ r, row = some r → B ≤ r ∧ ∃ o : Obj, W.heap[r]? = some o ∧ o.isCells = false) : RsIn B C T r w W' :=
 ⟨h.below.grown hg (by have := (Array.getElem?_eq_some_iff.1 h.b0).1; omega) (fun k hk => (hr k hk).1), (grownBy_keeps_cells hg (fun r e => (hr r e).2) h.b0 rfl).trans h.b0, (grownBy_keeps_cells hg (fun r e => (hr r e).2) h.b1 rfl).trans h.b1⟩
theorem RsIn.on {B D : Nat} {C : Array Value} {T : TypeId} {r : Int} {w W W' : World} (h : RsIn B C T r w W) (hb : Below D W W') (hD : B + 2 ≤ D) : RsIn B C T r w W' :=
 ⟨h.below.trans (hb.mono (by omega)), (hb.block _ (by omega)).trans h.b0, (hb.block _ (by omega)).trans h.b1⟩
theorem RsIn.set {B : Nat} {C : Array Value} {T : TypeId} {r : Int} {w W : World} (h : RsIn B C T r w W) (r' : Int) : RsIn B C T r' w (W.setCell ⟨B + 1, 0, none⟩ (.int .i64 r')) := by
 obtain ⟨x1, x2, x3⟩ := kD h.b1 (.int .i64 r')
 exact ⟨h.below.setCell (by simp) _, (x3 B (by omega)).trans h.b0, x1⟩
theorem RsIn.keeps {B D : Nat} {C : Array Value} {T : TypeId} {r : Int} {w W : World} (h : RsIn B C T r w W) (r' : Int) : KeepsFrom D W (W.setCell ⟨B + 1, 0, none⟩ (.int .i64 r')) := by
 obtain ⟨x1, x2, x3⟩ := kD h.b1 (.int .i64 r')
 refine ⟨by omega, fun k o _ hk ho => ?_⟩
 have k1 : k ≠ B + 1 := by rintro rfl; rw [h.b1] at hk; cases hk; cases ho
 exact (x3 k k1).trans hk
theorem qL {D : Nat} {W W' : World} (h : Below W.heap.size W W') : KeepsFrom D W W' := ⟨h.size, fun k _ _ hk _ => (h.block k (Array.getElem?_eq_some_iff.1 hk).1).trans hk⟩
theorem RsIn.cell {B : Nat} {C : Array Value} {T : TypeId} {r : Int} {w W X : World} (h : RsIn B C T r w W) (hS : Shut B W X) : X.cell? ⟨B + 1, 0, none⟩ = some (.int .i64 r) := hS.cell (za h.b1 0 rfl)
end
section
open Go.RowKit Go.Shelf
attribute [local go_sem] Oper.semAt_some
set_option maxRecDepth 100000 in
theorem Zi (a : Ad) (hf : FewA a) (SV : Option Addr) (ks : Nat) (w : World) (hS : SAt w w.heap.size SV a.sts) :
  Calls Tryz.prog 202 #[.agg #[.int .i64 a.n, .slice SV a.sts.length ks]] w fun e w' => e = .returned (.int .i64 (xN a)) ∧ Below w.heap.size w w' := by
 have hf1 := hf.1
 have HSZ := zH (fun (w' : World) (h : SAt w' w'.heap.size SV a.sts) => J4 a hf SV ks w' h)
 have HST := zH (fun (A : Option Addr) (k0 : Nat) (l : List Mv) (hl : l.length ≤ 40) (w' : World) (h : MAt w' w'.heap.size A l) => JY a SV ks hf1 A k0 l hl w' h)
 have HI := zH (fun (bx : Nat) (w' : World) (hb : w'.heap[bx]? = some (.cells #[.int .i64 a.n, .slice SV a.sts.length ks] 27)) (h : SAt w' w.heap.size SV a.sts) (hB : w.heap.size ≤ w'.heap.size) => jf a hf SV ks w.heap.size bx w' hb h hB)
 have HFE := zH (fun l hl => hf.each (l := l) hl)
 have HE1 := zH (@vi a)
 have HE2 := zH (@uu a)
 have HE3 := zH (fun h h2 => @vh a h h2 hf)
 have HE4 := zH (fun h h2 => @vj a h h2 hf)
 obtain ⟨E, hE⟩ : ∃ E, xN a = E := ⟨_, rfl⟩
 rw [hE] at HE1 HE2 HE3 HE4 ⊢
 have HS := zH hS
 clear hS hE hf
 refine yq Tryz.func202 rfl ?_
 simp only [Tryz.ntmps202, List.size_toArray, List.length_cons, List.length_nil, Nat.reduceAdd, Nat.reduceSub, Array.replicate_succ, Array.replicate_zero, List.push_toArray, List.append_toArray, List.nil_append, List.cons_append]
 by_cases hr : a.n < 1 ∨ 5 < a.n
 · have hR := zH (HE1.out hr)
   have HN := zH hr
   clear HE1 HE2 HE3 HE4 hr HSZ HST HI HFE
   go_wp2_with fail
   all_goals first | (exfalso; have := HN.out; omega) | skip
   all_goals
    refine yN (B := w.heap.size) (Marks.nil _ _) ?_
    intro W hX
    have c1 := hX.cell (za (zh (w.alloc (.cells #[.int .i64 a.n, .slice SV a.sts.length ks] 27)) (.cells #[.int .i64 2] 39)) 0 rfl)
    rw [World.size_alloc] at c1
    refine ⟨.int .i64 2, ?_, ze hR.out.symm, (vg _ _ _).trans hX.below⟩
    clear hX hR HN
    simp [results, Tryz.results202, go_sem, c1]
 have r1 : ¬ a.n < 1 := by omega
 have r2 : ¬ 5 < a.n := by omega
 have HE2 := zH (HE2.out hr)
 have HE3 := zH (HE3.out hr)
 have HE4 := zH (HE4.out hr)
 clear hr HE1
 go_wp2_with fail
 all_goals first | (exfalso; omega) | skip
 obtain ⟨w2, hw2, b0, b1, hsz, hB⟩ := yj w #[.int .i64 a.n, .slice SV a.sts.length ks] #[.int .i64 0] 27 39
 rw [hw2]
 have H0 : Hid (RsIn w.heap.size #[.int .i64 a.n, .slice SV a.sts.length ks] 27 0 w w2) := ⟨hB, b0, b1⟩
 have HSw := zH ((HS.out.keep hB).more hB.size)
 clear hw2 b0 b1 hB
 refine (HSZ.out w2 HSw.out).mono ?_
 rintro e w3 ⟨rfl, hb⟩
 have H1 := zH (H0.out.on hb hsz)
 have hs3 : w.heap.size + 2 ≤ w3.heap.size := by have := hb.size; omega
 have q0 := za H1.out.b0 0 rfl
 have q1 := za H1.out.b0 1 rfl
 have p0 := za H1.out.b1 0 rfl
 have f0 := zb H1.out.b1 0
 clear hb HSw H0 HSZ
 by_cases hz : a.sts.length < 1
 · have hR := zH (HE2.out hz)
   rw [if_pos hz]
   clear HE2 HE3 HE4 HST HI HFE
   go_wp2_with fail
   refine yN (B := w.heap.size) (Marks.nil _ _) ?_
   intro W hX
   have hI := H1.out.set 5
   have c1 := hI.cell hX
   refine ⟨.int .i64 5, ?_, ze hR.out.symm, hI.below.trans hX.below⟩
   clear hX hR hI
   simp [results, Tryz.results202, go_sem, c1]
 have hz1 : 1 ≤ a.sts.length := by omega
 rw [if_neg hz]
 have G3 := zH (HE3.out hz1)
 have G4 := zH (HE4.out hz1)
 clear HE2 hz HE3 HE4
 obtain ⟨F, hF⟩ : ∃ F, zv a a.sts = F := ⟨_, rfl⟩
 have HF : Hid (F = zv a (a.sts.drop 0)) := by rw [List.drop_zero]; exact hF.symm
 have HSZ0 := zH (fun h => @xk a (hF.trans h))
 rw [hF] at G3 G4
 clear hF
 have g1 := zH (fun k h => @jO a a.sts k h)
 have g2 := zH (fun k h => @vo a a.sts k h)
 have g3 := zH (fun k h => @jN a a.sts k h)
 go_wp2_with fail
 all_goals first | (exfalso; omega) | skip
 clear q0 q1 p0 f0
 go_loopw [27] (fun i wr => ∃ k : Nat, k ≤ a.sts.length ∧ i = .int .i64 (k : Int) ∧ Hid (F = zv a (a.sts.drop k)) ∧ Hid (RsIn w.heap.size #[.int .i64 a.n, .slice SV a.sts.length ks] 27 0 w wr) ∧ w.heap.size + 2 ≤ wr.heap.size) (fun i _ => a.sts.length - (intOf i).toNat)
 case atStart => exact ⟨0, by omega, rfl, HF, H1, hs3⟩
 case round =>
  obtain ⟨k, hk, rfl, hrk, hRs, hsr⟩ := hrel
  clear HF
  have q0 := za hRs.out.b0 0 rfl
  have q1 := za hRs.out.b0 1 rfl
  have p0 := za hRs.out.b1 0 rfl
  have f0 := zb hRs.out.b1 0
  by_cases hlt : k < a.sts.length
  · have hbd := zH (g1.out k hlt)
    have hon := zH (g2.out k hlt)
    obtain ⟨b, o, A', k', e', hbB, c1, hM⟩ := (HS.out.keep hRs.out.below).at_ k hlt
    have hl40 := HFE.out _ (List.getElem_mem hlt)
    have HC := zH (HST.out A' k' (a.sts[k]'hlt) hl40)
    have HMr := zH (hM.more hRs.out.below.size)
    obtain ⟨L, hL⟩ : ∃ L, a.sts[k] = L := ⟨_, rfl⟩
    rw [hL] at c1 hl40 HC HMr hbd hon
    obtain ⟨ev, hev⟩ : ∃ ev, xS a L = ev := ⟨_, rfl⟩
    rw [hev] at HC hbd hon
    subst e'
    clear hM hL hev g1 g2 g3 HST HI HFE HSZ0
    go_wp2_with fail
    refine (HC.out _ HMr.out).mono ?_
    rintro e w4 ⟨rfl, hb⟩
    have H4 := zH (hRs.out.on hb hsr)
    have hs4 : w.heap.size + 2 ≤ w4.heap.size := by have := hb.size; omega
    have q0 := za H4.out.b0 0 rfl
    have q1 := za H4.out.b0 1 rfl
    have p0 := za H4.out.b1 0 rfl
    have f0 := zb H4.out.b1 0
    clear hb HC
    by_cases he : ev = 0
    · subst he
      have hR := zH (hrk.out.trans (hon.out (by simp)))
      clear hbd hon hrk
      go_wp2_with fail
      go_roundw
      case rel => exact ⟨k + 1, by omega, by go_num, hR, H4, hs4⟩
      case measure => simp [intOf]; omega
    · have hFv := hrk.out.trans (hbd.out he)
      have hR := zH ((G3.out (by rw [hFv]; exact he)).trans hFv)
      have e0 : (ev != 0) = true := by simpa using he
      clear hbd hon hrk G3 G4 hFv he
      go_wp2_with fail
      refine yN (B := w.heap.size) (Marks.nil _ _) ?_
      intro W hX
      have hI := H4.out.set ev
      have c1 := hI.cell hX
      refine ⟨.int .i64 ev, ?_, ze hR.out.symm, hI.below.trans hX.below⟩
      clear hX hR hI
      simp [results, Tryz.results202, go_sem, c1]
  · obtain rfl : k = a.sts.length := by omega
    have hF0 : F = 0 := hrk.out.trans (g3.out _ rfl)
    have hR := zH (G4.out hF0)
    have HZ := zH (HSZ0.out hF0)
    clear G3 G4 hrk g1 g2 g3 HST HSZ0 hF0
    go_wp2_with fail
    refine (ub a.n (.slice SV a.sts.length ks) wr).mono ?_
    rintro e W ⟨rfl, hW⟩
    have bb := zh wr (.cells #[.int .i64 a.n, .slice SV a.sts.length ks] 27)
    have hB2 : Below wr.heap.size wr W := by rw [← hW]; exact zI _ _
    have hs1 : wr.heap.size < W.heap.size := by rw [← hW]; simp
    rw [hW] at bb
    have HW := zH (hRs.out.on hB2 hsr)
    have HIT := zH (HI.out wr.heap.size W bb (HS.out.keep HW.out.below) (by omega))
    clear hW bb hB2 HI q0 q1 p0 f0
    go_wp2_with fail
    refine qT rfl (enters_of Tryz.func241 (by kernel_rfl) rfl) HIT.out (by rintro k (h | rfl) <;> omega) (fun _ => rfl)
     (fun (pre : List { x : Int × Mv // x ∈ zB 0 a.sts }) X => RsIn w.heap.size #[.int .i64 a.n, .slice SV a.sts.length ks] 27 0 w X ∧ (∀ x ∈ pre, ((a.at_ x.1.2.to).all fun k => qB x.1.2 k) = true) ∧ W.heap.size ≤ X.heap.size)
     (fun c _ W => c = .ret ∧ RsIn w.heap.size #[.int .i64 a.n, .slice SV a.sts.length ks] 27 21 w W ∧ xe a = false)
     (fun _ _ _ _ h hg hr => ⟨h.1.turn hg (fun r e => ⟨by have := (hr r e).1; omega, (hr r e).2⟩), h.2.1, Nat.le_trans h.2.2 hg.size⟩) (fun _ _ _ _ _ ⟨h1, h2, h3⟩ hg hr => ⟨h1, h2.turn hg (fun r e => ⟨by have := (hr r e).1; omega, (hr r e).2⟩), h3⟩)
     ⟨HW.out, (fun x hx => by cases hx), Nat.le_refl _⟩ (fun x => x.2.cells) 200 ?a1 ?assign ?body ?done ?stop (fun _ _ h => h.2.2)
    case assign =>
     intro l pre x X K hI hK
     obtain ⟨g, hg⟩ : ∃ g, g = X.heap.size := ⟨_, rfl⟩
     have HK := zH (hK g hg ⟨hI.1.on (zI X _) (zd hI.1.b1), hI.2.1, by have := hI.2.2; simp; omega⟩)
     have HG := zH hg
     unfold Mv.cells at HK ⊢
     dsimp only at HK ⊢
     clear hK hg hI
     gi_wp2
     rw [← HG.out]
     exact HK.out
    case body =>
     intro l pre x g W1 hg hgb hI hlt
     obtain ⟨hI1, hI2, hI3⟩ := hI
     obtain ⟨z1, z2, z3, z4⟩ := HZ.out x.1.2 (Yo x.2)
     obtain ⟨m, hm⟩ : ∃ m, x.1.2 = m := ⟨_, rfl⟩
     have HM := zH hm
     rw [hm] at z1 z2 z3 z4 hgb
     obtain ⟨f1, ef1, lf1⟩ := qp z1
     obtain ⟨t, et⟩ := Int.eq_ofNat_of_zero_le z3
     have htl : t < a.sts.length := by omega
     have hat : a.at_ m.to = a.sts[t] := by unfold Ad.at_; rw [et, Int.toNat_natCast, List.getD_eq_getElem?_getD, List.getElem?_eq_getElem htl]; rfl
     obtain ⟨b, o, A', k', e', hbB, c1, hMA⟩ := (HS.out.keep hI1.below).at_ t htl
     have hl40 := HFE.out _ (List.getElem_mem htl)
     have HLZ : Hid (∀ y ∈ a.sts[t], zZ y.r = 0) := fun y hy => (HZ.out y (List.mem_flatten.2 ⟨_, List.getElem_mem htl, hy⟩)).1
     obtain ⟨L, hL⟩ : ∃ L, a.sts[t] = L := ⟨_, rfl⟩
     rw [hL] at c1 hMA hl40 HLZ hat
     have HAT := zH hat
     have HI1 := zH hI1
     have HI2 := zH hI2
     have HGB := zH hgb
     have HMA := zH (hMA.more hI1.below.size)
     have q0 := za hI1.b0 0 rfl
     have q1 := za hI1.b0 1 rfl
     have u7 := za hgb 7 (u := .int .i64 m.to) rfl
     have u6 := za hgb 6 (u := .int .i64 m.r.f) rfl
     rw [et] at u7
     have hgl := zd hgb
     have hB1 := zd hI1.b1
     have HE1 := zH ef1
     subst e'
     clear hm z1 z2 z3 z4 et ef1 hat hL hMA hI1 hI2 hgb hlt
     gi_wp2_with fail
     gi_loopw [49] (fun i wr => ∃ j : Nat, j ≤ L.length ∧ i = .int .i64 (j : Int) ∧ Hid (∀ k (h : k < L.length), k < j → qB m L[k] = true) ∧ Hid (Below W1.heap.size W1 wr)) (fun i _ => L.length - (intOf i).toNat)
     case atStart => exact ⟨0, by omega, rfl, (fun k h h0 => by omega), Below.refl _ _⟩
     case round =>
      obtain ⟨j, hj, rfl, hkp, hbl⟩ := hrel
      clear q0 q1 u6 u7 c1
      by_cases hjl : j < L.length
      · obtain ⟨b2, o2, rfl, hb2, m0, m1, m2, m3, m4, m5, m6, m7⟩ := (HMA.out.keep hbl.out).row j hjl
        obtain ⟨f2, ef2, lf2⟩ := qp (HLZ.out _ (List.getElem_mem hjl))
        have hkb : qB m L[j] = decide (f1 &&& f2 = f1) := by unfold qB; rw [HE1.out, ef2, Int.toNat_natCast, Int.toNat_natCast]; rw [Bool.eq_iff_iff]; simp
        have hmem : L[j] ∈ L := List.getElem_mem hjl
        obtain ⟨y, hy⟩ : ∃ y, L[j] = y := ⟨_, rfl⟩
        have HYe := zH hy
        rw [hy] at m0 m1 m2 m3 m4 m5 m6 m7 hkb ef2 hmem
        have HEF := zH ef2
        have hgw := (hbl.out.block g hgl).trans HGB.out
        have u6 := za hgw 6 (u := .int .i64 m.r.f) rfl
        have hRw := HI1.out.on hbl.out (by omega)
        have p0 := za hRw.b1 0 rfl
        have f0 := zb hRw.b1 0
        have hgs := zd hgw
        have hbs := zd hRw.b1
        have HRw := zH hRw
        have HKB := zH hkb
        rw [ef2] at m6
        rw [HE1.out] at u6
        have haz := zH (@X5 f2 f1 lf2 lf1)
        clear hy ef2 hgw hRw hkb hmem
        by_cases hk : f1 &&& f2 = f1
        · have hz := haz.out.2 hk
          have hkt : Hid (qB m y = true) := HKB.out.trans (decide_eq_true hk)
          clear haz HKB hk
          gi_wp2_with fail
          go_roundw
          case rel =>
           refine ⟨j + 1, by omega, by go_num, fun k h h1 => ?_, ?_⟩
           · by_cases e : k = j
             · subst e; rw [HYe.out]; exact hkt.out
             · exact hkp.out k h (by omega)
           · exact hbl.out.alloc hbl.out.size _
          case measure => simp [intOf]; omega
        · have hz : ¬ (bits BinOp.andNot IntKind.i64 (f1 : Int) (f2 : Int) = 0) := fun h => hk (haz.out.1 h)
          have e0 : (bits BinOp.andNot IntKind.i64 (f1 : Int) (f2 : Int) != 0) = true := by simpa using hz
          have hgf : Hid (xe a = false) := by
           unfold xe Hid
           rw [List.all_eq_false]
           refine ⟨m, by rw [← HM.out]; exact Yo x.2, ?_⟩
           rw [HAT.out]
           intro hall
           have h1 := List.all_eq_true.1 hall y (by rw [← HYe.out]; exact List.getElem_mem hjl)
           rw [HKB.out, decide_eq_false hk] at h1
           cases h1
          clear haz HKB hk hz
          gi_wp2_with fail
          have hset := HRw.out.set 21
          refine ⟨((qL hbl.out).trans (HRw.out.keeps 21)).trans (qL (zI _ _)), rfl, hset.on (zI _ _) (zd hset.b1), hgf.out⟩
      · obtain rfl : j = L.length := by omega
        gi_wp2_with fail
        refine ⟨qL hbl.out, KeepB.of_below hbl.out (by rintro k (h | rfl) <;> omega), HI1.out.on hbl.out (by omega), ?_, Nat.le_trans hI3 hbl.out.size⟩
        intro y hy
        rcases List.mem_append.1 hy with hy | hy
        · exact HI2.out y hy
        · simp only [List.mem_singleton] at hy
          subst hy
          rw [HM.out, HAT.out, List.all_eq_true]
          intro z hz
          obtain ⟨k, hk, rfl⟩ := List.mem_iff_getElem.1 hz
          exact hkp.out k hk hk
    case done =>
     intro D ys W1 hD hys hI hDk
     have hgr : xe a = true := by
      unfold xe
      rw [List.all_eq_true]
      intro m hm
      have hm2 : m ∈ (zB 0 a.sts).map Prod.snd := by rw [qJ]; exact hm
      obtain ⟨x, hx, rfl⟩ := List.mem_map.1 hm2
      rw [← hys] at hx
      obtain ⟨y, hy, rfl⟩ := List.mem_map.1 hx
      exact hI.2.1 y hy
     have hE := zH (hR.out.trans (if_pos hgr))
     have HI := zH hI.1
     have p0 := za HI.out.b1 0 rfl
     have f0 := zb HI.out.b1 0
     have HD := zH hDk
     clear hI hys hgr hDk hR HIT HW
     go_wp2_with fail
     refine yN (B := w.heap.size) (ji (by omega) ((HI.out.keeps (D := D) 0).same D _ (Nat.le_refl _) HD.out rfl)) ?_
     intro X hX
     have hI := HI.out.set 0
     have c1 := hI.cell hX
     refine ⟨.int .i64 0, ?_, ze hE.out.symm, hI.below.trans hX.below⟩
     clear hX hE hI
     simp [results, Tryz.results202, go_sem, c1]
    case stop =>
     intro D c pre W1 hD hpre hI hDk
     obtain ⟨rfl, hI, hgr⟩ := hI
     have hE := zH (hR.out.trans (if_neg (by rw [hgr]; decide)))
     have HI := zH hI
     have HD := zH hDk
     clear hI hgr hDk hR HIT HW hpre
     go_wp2_with fail
     refine yN (B := w.heap.size) (ji (by omega) HD.out) ?_
     intro X hX
     have c1 := HI.out.cell hX
     refine ⟨.int .i64 21, ?_, ze hE.out.symm, HI.out.below.trans hX.below⟩
     clear hX hE
     simp [results, Tryz.results202, go_sem, c1]
end
section
open Go.RowKit
attribute [local go_sem] Oper.semAt_some
def Pb.vs (p : Pb) (A : Option Addr) (kc : Nat) (SV : Option Addr) (ks : Nat) : Array Value := #[.int .i64 p.t.n, .int .i64 p.t.ins, .int .i64 p.t.outs, .slice A p.t.cases.length kc, .int .i64 p.a.n, .slice SV p.a.sts.length ks, .int .i64 p.k]
theorem j9 {p : Pb} (h : yQ p.t ≠ 0) : zJ p = yQ p.t := if_pos h
theorem vU {p : Pb} (h : yQ p.t = 0) (h2 : xN p.a ≠ 0) : zJ p = xN p.a := by unfold zJ; rw [if_neg (by simpa using h), if_pos h2]
theorem Yd {p : Pb} (h : yQ p.t = 0) (h2 : xN p.a = 0) (h3 : p.t.n ≠ p.a.n) : zJ p = 22 := by unfold zJ; rw [if_neg (by simpa using h), if_neg (by simpa using h2), if_pos h3]
theorem Ye {p : Pb} (h : yQ p.t = 0) (h2 : xN p.a = 0) (h3 : p.t.n = p.a.n) (h4 : p.k < 0 ∨ 6 < p.k) : zJ p = 2 := by unfold zJ; rw [if_neg (by simpa using h), if_neg (by simpa using h2), if_neg (by simpa using h3), if_pos h4]
theorem Xe {p : Pb} (h : yQ p.t = 0) (h2 : xN p.a = 0) (h3 : p.t.n = p.a.n) (h4 : ¬ (p.k < 0 ∨ 6 < p.k)) : zJ p = 0 := by unfold zJ; rw [if_neg (by simpa using h), if_neg (by simpa using h2), if_neg (by simpa using h3), if_neg h4]
def YK (p : Pb) : Prop := FewT p.t ∧ FewA p.a
set_option maxRecDepth 100000 in
theorem Qs (p : Pb) (hf : YK p) (A : Option Addr) (kc : Nat) (SV : Option Addr) (ks : Nat) (w : World) (hA : CAt w w.heap.size A p.t.cases) (hS : SAt w w.heap.size SV p.a.sts) :
  Calls Tryz.prog 164 #[.agg (p.vs A kc SV ks)] w fun e w' => e = .returned (.int .i64 (zJ p)) ∧ Below w.heap.size w w' := by
 have HT := zH (fun (w' : World) (h : CAt w' w'.heap.size A p.t.cases) => Qb p.t A kc hf.1 w' h)
 have HD := zH (fun (w' : World) (h : SAt w' w'.heap.size SV p.a.sts) => Zi p.a hf.2 SV ks w' h)
 have HE1 := zH (@j9 p)
 have HE2 := zH (@vU p)
 have HE3 := zH (@Yd p)
 have HE4 := zH (@Ye p)
 have HE5 := zH (@Xe p)
 obtain ⟨E, hE⟩ : ∃ E, zJ p = E := ⟨_, rfl⟩
 rw [hE] at HE1 HE2 HE3 HE4 HE5 ⊢
 obtain ⟨tE, htE⟩ : ∃ tE, yQ p.t = tE := ⟨_, rfl⟩
 rw [htE] at HE1 HE2 HE3 HE4 HE5 HT
 obtain ⟨aE, haE⟩ : ∃ aE, xN p.a = aE := ⟨_, rfl⟩
 rw [haE] at HE2 HE3 HE4 HE5 HD
 clear hE htE haE hf
 unfold Pb.vs
 obtain ⟨w1, hw1⟩ : ∃ w1, w.alloc (.cells (p.vs A kc SV ks) 29) = w1 := ⟨_, rfl⟩
 have hbb := zh w (.cells (p.vs A kc SV ks) 29)
 have hb01 : Below w.heap.size w w1 := by rw [← hw1]; exact zI w _
 have hsz1 : w1.heap.size = w.heap.size + 1 := by rw [← hw1]; simp
 rw [hw1] at hbb
 unfold Pb.vs at hw1 hbb
 have HBB := zH hbb
 have HB01 := zH hb01
 have HA := zH ((hA.keep hb01).more (by omega : w.heap.size ≤ w1.heap.size))
 have HS := zH ((hS.keep hb01).more (by omega : w.heap.size ≤ w1.heap.size))
 have HW1 := zH hw1
 have q0 := za hbb 0 rfl
 have q1 := za hbb 1 rfl
 have q2 := za hbb 2 rfl
 have q3 := za hbb 3 rfl
 clear hA hS hw1 hb01 hbb
 go_enter Tryz.func164, Tryz.ntmps164
 go_wp2_with fail
 rw [HW1.out]
 go_wp2_with fail
 refine (HT.out w1 HA.out).mono ?_
 rintro e w2 ⟨rfl, hb2⟩
 have B2 := zH (HB01.out.trans (hb2.mono (by omega)))
 have HS2 := zH ((HS.out.keep hb2).more hb2.size)
 have hbk := (hb2.block _ (zd HBB.out)).trans HBB.out
 have HB2 := zH hbk
 have hs2 := hb2.size
 have q4 := za hbk 4 rfl
 have q5 := za hbk 5 rfl
 clear hb2 hbk HT HW1 q0 q1 q2 q3
 by_cases h1 : tE = 0
 case neg =>
  have hR := zH (HE1.out h1)
  have e0 : (tE != 0) = true := by simpa using h1
  clear HE1 HE2 HE3 HE4 HE5 HD h1
  go_wp2_with fail
  go_ret
  exact ⟨ze hR.out.symm, B2.out⟩
 case pos =>
 subst h1
 clear HE1
 have F2 := zH (HE2.out (by simp))
 have F3 := zH (HE3.out (by simp))
 have F4 := zH (HE4.out (by simp))
 have F5 := zH (HE5.out (by simp))
 clear HE2 HE3 HE4 HE5
 go_wp2_with fail
 refine (HD.out w2 HS2.out).mono ?_
 rintro e w3 ⟨rfl, hb3⟩
 have B3 := zH (B2.out.trans (hb3.mono (by omega)))
 have hbk := (hb3.block _ (zd HB2.out)).trans HB2.out
 have hs3 := hb3.size
 have q0 := za hbk 0 rfl
 have q4 := za hbk 4 rfl
 have q6 := za hbk 6 rfl
 clear hb3 hbk HD q5
 by_cases h2 : aE = 0
 case neg =>
  have hR := zH (F2.out h2)
  have e0 : (aE != 0) = true := by simpa using h2
  clear F2 F3 F4 F5 h2
  go_wp2_with fail
  go_ret
  exact ⟨ze hR.out.symm, B3.out⟩
 case pos =>
 subst h2
 clear F2
 have G3 := zH (F3.out (by simp))
 have G4 := zH (F4.out (by simp))
 have G5 := zH (F5.out (by simp))
 clear F3 F4 F5
 by_cases h3 : p.t.n = p.a.n
 case neg =>
  have hR := zH (G3.out h3)
  have e0 : (p.t.n != p.a.n) = true := by simpa using h3
  clear G3 G4 G5
  go_wp2_with fail
  all_goals
   go_ret
   exact ⟨ze hR.out.symm, B3.out⟩
 case pos =>
 have e0 : (p.t.n != p.a.n) = false := by simpa using h3
 have K4 := zH (G4.out h3)
 have K5 := zH (G5.out h3)
 rw [h3] at q0
 clear G3 G4 G5 h3
 by_cases h4 : p.k < 0 ∨ 6 < p.k
 · have hR := zH (K4.out h4)
   clear K4 K5
   by_cases h5 : p.k < 0
   · clear h4
     go_wp2_with fail
     all_goals first | (exfalso; omega) | skip
     go_ret
     exact ⟨ze hR.out.symm, B3.out⟩
   · have h6 : 6 < p.k := by omega
     clear h4
     go_wp2_with fail
     all_goals first | (exfalso; omega) | skip
     go_ret
     exact ⟨ze hR.out.symm, B3.out⟩
 · have hR := zH (K5.out h4)
   have h5 : ¬ p.k < 0 := by omega
   have h6 : ¬ 6 < p.k := by omega
   clear K4 K5 h4
   go_wp2_with fail
   all_goals first | (exfalso; omega) | skip
   go_ret
   exact ⟨ze hR.out.symm, B3.out⟩
set_option maxRecDepth 100000 in
theorem uG (p : Pb) (hf : YK p) (A : Option Addr) (kc : Nat) (SV : Option Addr) (ks : Nat) (w : World) (hA : CAt w w.heap.size A p.t.cases) (hS : SAt w w.heap.size SV p.a.sts) :
  Calls Tryz.prog 124 #[.agg (p.vs A kc SV ks)] w fun e w' => e = .returned (.int .i64 (zJ p)) ∧ Below w.heap.size w w' := by
 have HT := zH (fun (w' : World) (h : CAt w' w'.heap.size A p.t.cases) => Y0 p.t A kc hf.1 w' h)
 have HD := zH (fun (w' : World) (h : SAt w' w'.heap.size SV p.a.sts) => Xa p.a hf.2 SV ks w' h)
 have HE1 := zH (@j9 p)
 have HE2 := zH (@vU p)
 have HE3 := zH (@Yd p)
 have HE4 := zH (@Ye p)
 have HE5 := zH (@Xe p)
 obtain ⟨E, hE⟩ : ∃ E, zJ p = E := ⟨_, rfl⟩
 rw [hE] at HE1 HE2 HE3 HE4 HE5 ⊢
 obtain ⟨tE, htE⟩ : ∃ tE, yQ p.t = tE := ⟨_, rfl⟩
 rw [htE] at HE1 HE2 HE3 HE4 HE5 HT
 obtain ⟨aE, haE⟩ : ∃ aE, xN p.a = aE := ⟨_, rfl⟩
 rw [haE] at HE2 HE3 HE4 HE5 HD
 clear hE htE haE hf
 unfold Pb.vs
 obtain ⟨w1, hw1⟩ : ∃ w1, w.alloc (.cells (p.vs A kc SV ks) 29) = w1 := ⟨_, rfl⟩
 have hbb := zh w (.cells (p.vs A kc SV ks) 29)
 have hb01 : Below w.heap.size w w1 := by rw [← hw1]; exact zI w _
 have hsz1 : w1.heap.size = w.heap.size + 1 := by rw [← hw1]; simp
 rw [hw1] at hbb
 unfold Pb.vs at hw1 hbb
 have HBB := zH hbb
 have HB01 := zH hb01
 have HA := zH ((hA.keep hb01).more (by omega : w.heap.size ≤ w1.heap.size))
 have HS := zH ((hS.keep hb01).more (by omega : w.heap.size ≤ w1.heap.size))
 have HW1 := zH hw1
 have q0 := za hbb 0 rfl
 have q1 := za hbb 1 rfl
 have q2 := za hbb 2 rfl
 have q3 := za hbb 3 rfl
 clear hA hS hw1 hb01 hbb
 go_enter Tryz.func124, Tryz.ntmps124
 go_wp2_with fail
 rw [HW1.out]
 go_wp2_with fail
 refine (HT.out w1 HA.out).mono ?_
 rintro e w2 ⟨rfl, hb2⟩
 have B2 := zH (HB01.out.trans (hb2.mono (by omega)))
 have HS2 := zH ((HS.out.keep hb2).more hb2.size)
 have hbk := (hb2.block _ (zd HBB.out)).trans HBB.out
 have HB2 := zH hbk
 have hs2 := hb2.size
 have q4 := za hbk 4 rfl
 have q5 := za hbk 5 rfl
 clear hb2 hbk HT HW1 q0 q1 q2 q3
 by_cases h1 : tE = 0
 case neg =>
  have hR := zH (HE1.out h1)
  have e0 : (tE != 0) = true := by simpa using h1
  clear HE1 HE2 HE3 HE4 HE5 HD h1
  go_wp2_with fail
  go_ret
  exact ⟨ze hR.out.symm, B2.out⟩
 case pos =>
 subst h1
 clear HE1
 have F2 := zH (HE2.out (by simp))
 have F3 := zH (HE3.out (by simp))
 have F4 := zH (HE4.out (by simp))
 have F5 := zH (HE5.out (by simp))
 clear HE2 HE3 HE4 HE5
 go_wp2_with fail
 refine (HD.out w2 HS2.out).mono ?_
 rintro e w3 ⟨rfl, hb3⟩
 have B3 := zH (B2.out.trans (hb3.mono (by omega)))
 have hbk := (hb3.block _ (zd HB2.out)).trans HB2.out
 have hs3 := hb3.size
 have q0 := za hbk 0 rfl
 have q4 := za hbk 4 rfl
 have q6 := za hbk 6 rfl
 clear hb3 hbk HD q5
 by_cases h2 : aE = 0
 case neg =>
  have hR := zH (F2.out h2)
  have e0 : (aE != 0) = true := by simpa using h2
  clear F2 F3 F4 F5 h2
  go_wp2_with fail
  go_ret
  exact ⟨ze hR.out.symm, B3.out⟩
 case pos =>
 subst h2
 clear F2
 have G3 := zH (F3.out (by simp))
 have G4 := zH (F4.out (by simp))
 have G5 := zH (F5.out (by simp))
 clear F3 F4 F5
 by_cases h3 : p.t.n = p.a.n
 case neg =>
  have hR := zH (G3.out h3)
  have e0 : (p.t.n != p.a.n) = true := by simpa using h3
  clear G3 G4 G5
  go_wp2_with fail
  all_goals
   go_ret
   exact ⟨ze hR.out.symm, B3.out⟩
 case pos =>
 have e0 : (p.t.n != p.a.n) = false := by simpa using h3
 have K4 := zH (G4.out h3)
 have K5 := zH (G5.out h3)
 rw [h3] at q0
 clear G3 G4 G5 h3
 by_cases h4 : p.k < 0 ∨ 6 < p.k
 · have hR := zH (K4.out h4)
   clear K4 K5
   by_cases h5 : p.k < 0
   · clear h4
     go_wp2_with fail
     all_goals first | (exfalso; omega) | skip
     go_ret
     exact ⟨ze hR.out.symm, B3.out⟩
   · have h6 : 6 < p.k := by omega
     clear h4
     go_wp2_with fail
     all_goals first | (exfalso; omega) | skip
     go_ret
     exact ⟨ze hR.out.symm, B3.out⟩
 · have hR := zH (K5.out h4)
   have h5 : ¬ p.k < 0 := by omega
   have h6 : ¬ 6 < p.k := by omega
   clear K4 K5 h4
   go_wp2_with fail
   all_goals first | (exfalso; omega) | skip
   go_ret
   exact ⟨ze hR.out.symm, B3.out⟩
end
section
open Go.RowKit
attribute [local go_sem] Oper.semAt_some
def YJ (p : Pb) : Prop := LowT p.t ∧ LowA p.a
end
section
open Go.RowKit
attribute [local go_sem] Oper.semAt_some
def LowX (x : Exn) : Prop := x.word.length ≤ 17592186044416 ∧ x.views.length ≤ 17592186044416 ∧ ∀ v ∈ x.views, v.length ≤ 17592186044416
theorem exn_eq {x y : Exn} (h1 : x.c = y.c) (h2 : x.word = y.word) (h3 : x.views = y.views) : x = y := by cases x; cases y; simp_all
end
section
open Go.RowKit
def qH (vs : List Vw) (v : Vw) : Int := if v ∈ vs then (vs.idxOf v : Int) else -1
theorem XE {vs : List Vw} {v : Vw} {k : Nat} (hk : k < vs.length) (hv : vs[k] = v) (hn : v ∉ vs.take k) : qH vs v = k := by
 have hm : v ∈ vs := hv ▸ List.getElem_mem hk
 unfold qH
 rw [if_pos hm]
 have h1 : vs = vs.take k ++ vs.drop k := (List.take_append_drop k vs).symm
 rw [h1, List.idxOf_append, if_neg hn]
 have h2 : vs.drop k = v :: vs.drop (k + 1) := by rw [← hv]; exact List.drop_eq_getElem_cons hk
 rw [h2, List.idxOf_cons_self]
 simp
 omega
theorem idxE_none {vs : List Vw} {v : Vw} (hn : v ∉ vs) : qH vs v = -1 := by unfold qH; rw [if_neg hn]
theorem XD {vs : List Vw} {v : Vw} (hv : v ∈ vs) : 0 ≤ qH vs v := by unfold qH; rw [if_pos hv]; omega
theorem Ym {vs : List Vw} {v : Vw} {k : Nat} (hk : k < vs.length) (hv : vs[k] ≠ v) (hn : v ∉ vs.take k) : v ∉ vs.take (k + 1) := by
 rw [List.take_succ_eq_append_getElem hk, List.mem_append, not_or]
 exact ⟨hn, by simpa using fun e => hv e.symm⟩
set_option maxRecDepth 100000 in
theorem index_any (n : Int) (A : Option Addr) (cap : Nat) (vs : List Vw) (v : Vw) (w : World) (B : Nat) (hB : B ≤ w.heap.size) (hA : VAt w B A vs) (hl : vs.length ≤ 2199023255552) :
  Calls Tryz.prog 211 #[.agg #[.int .i64 n, .slice A vs.length cap], .agg v.cells] w fun e w' => e = .returned (.int .i64 (qH vs v)) ∧ Below w.heap.size w w' := by
 have HB := vg w
 have HE : Hid (∀ k (hk : k < vs.length) (X : World), (binOp .eql 224 (.agg vs[k].cells) (.agg v.cells)).run Tryz.prog X = .ok (.bool (decide (vs[k] = v))) X) := fun k hk X => eql_view vs[k] v X
 unfold Vw.cells at HE ⊢
 go_enter Tryz.func211, Tryz.ntmps211
 go_wp2
 go_loopw [5] (fun i wr => ∃ k m : Nat, k ≤ vs.length ∧ i = .int .i64 k ∧ wr = ((w.alloc (.cells #[.int .i64 n, .slice A vs.length cap] 32)).alloc (.cells #[.int .i64 v.p, .int .i64 v.r, .int .i64 v.i, .int .i64 v.h0, .int .i64 v.h1, .int .i64 v.h2, .int .i64 v.h3, .int .i64 v.h4] 224)).drewN m ∧ Hid (v ∉ vs.take k)) (fun i _ => vs.length - (intOf i).toNat)
 case atStart => exact ⟨0, 0, by omega, rfl, rfl, by show v ∉ vs.take 0; simp⟩
 case round =>
  obtain ⟨k, m, hk, rfl, rfl, hall⟩ := hrel
  by_cases hlt : k < vs.length
  · obtain ⟨b, off, rfl, hb1, c0, c1, c2, c3, c4, c5, c6, c7⟩ := hA.row k hlt
    have hb2 : b < w.heap.size := by omega
    have heq := HE.out k hlt
    clear HE hA
    by_cases hv : vs[k] = v
    · have heq' : ∀ X : World, _ := fun X => (heq X).trans (by rw [decide_eq_true hv])
      have hz : Hid (qH vs v = k) := XE hlt hv hall.out
      clear heq hv
      go_wp2
      go_quiet (fail)
      go_wp2
      go_ret
      exact ⟨ze hz.out.symm, by repeat (first | exact HB _ _ | refine zU ?_ _)⟩
    · have heq' : ∀ X : World, _ := fun X => (heq X).trans (by rw [decide_eq_false hv])
      have hz : Hid (v ∉ vs.take (k + 1)) := Ym hlt hv hall.out
      clear heq hv
      go_wp2
      go_quiet (fail)
      go_wp2
      go_roundw
      case rel => exact ⟨k + 1, _, by omega, by go_num, rfl, hz⟩
      case measure => simp [intOf]; omega
  · have hz : Hid (qH vs v = -1) := idxE_none (by have := hall.out; rwa [List.take_of_length_le (by omega)] at this)
    go_wp2
    go_ret
    exact ⟨ze hz.out.symm, by repeat (first | exact HB _ _ | refine zU ?_ _)⟩
theorem xX {α : Type} {vs us : List α} {k : Nat} (hk : k < vs.length) (hk' : k < us.length) (h : vs[k] ≠ us[k]) : vs ≠ us := by
 rintro rfl; exact h rfl
theorem xZ {α : Type} {vs us : List α} (hl : vs.length = us.length) (h : vs.take vs.length = us.take vs.length) : vs = us := by
 rw [List.take_length] at h
 rw [h, hl, List.take_length]
theorem ju {α : Type} {vs us : List α} {k : Nat} (hk : k < vs.length) (hk' : k < us.length) (h : vs.take k = us.take k) (he : vs[k] = us[k]) : vs.take (k + 1) = us.take (k + 1) := by
 rw [List.take_succ_eq_append_getElem hk, List.take_succ_eq_append_getElem hk', h, he]
end
section
open Go.RowKit
attribute [local go_sem] Oper.semAt_some
def Sy.vs_ (s : Sy) (A : Option Addr) (kc : Nat) (SV : Option Addr) (ks : Nat) (AV : Option Addr) (kv : Nat) (AX : Option Addr) (kx : Nat) : Array Value :=
 #[.int .i64 s.p.t.n, .int .i64 s.p.t.ins, .int .i64 s.p.t.outs, .slice A s.p.t.cases.length kc, .int .i64 s.p.a.n, .slice SV s.p.a.sts.length ks, .int .i64 s.p.k, .int .i64 s.n, .slice AV s.vs.length kv, .slice AX s.xs.length kx]
structure LowS (s : Sy) : Prop where
 fp : YJ s.p
 fv : s.vs.length ≤ 2199023255552
 fx : s.xs.length ≤ 2199023255552
 fe : ∀ x ∈ s.xs, LowX x
structure SyAt (w : World) (B : Nat) (A SV AV AX : Option Addr) (s : Sy) : Prop where
 fc : CAt w B A s.p.t.cases
 fs : SAt w B SV s.p.a.sts
 fv : VAt w B AV s.vs
 fx : XAt w B AX s.xs
theorem SyAt.keep {w w' : World} {B : Nat} {A SV AV AX : Option Addr} {s : Sy} (h : SyAt w B A SV AV AX s) (hb : Below B w w') : SyAt w' B A SV AV AX s := ⟨h.fc.keep hb, h.fs.keep hb, h.fv.keep hb, h.fx.keep hb⟩
theorem SyAt.more {w : World} {B B' : Nat} {A SV AV AX : Option Addr} {s : Sy} (h : SyAt w B A SV AV AX s) (hB : B ≤ B') : SyAt w B' A SV AV AX s := ⟨h.fc.more hB, h.fs.more hB, h.fv.more hB, h.fx.more hB⟩
theorem SyAt.up {w w' : World} {A SV AV AX : Option Addr} {s : Sy} (h : SyAt w w.heap.size A SV AV AX s) (hb : Below w.heap.size w w') : SyAt w' w'.heap.size A SV AV AX s := (h.keep hb).more hb.size
theorem sy_eq {a b : Sy} (h1 : a.p = b.p) (h2 : a.n = b.n ∧ a.vs = b.vs) (h3 : a.xs = b.xs) : a = b := by cases a; cases b; simp_all
end
section
open Go.ChangeShapes Go.WideShapes Go.ChangeAt Go.RowKit Go.Deep
section
variable {H : Type} {enc : TypeId × Value → H} {P : Program} {W : World} {base : Nat} {spare : Nat → Bool} {held : Bool}
def qk (P : Program) (t : TypeId) (d : DataW H) : Prop := (d.weights P t).all (· ≤ reachBytes) = true
theorem xB {fs : Array Field} {t : TypeId} {parts : List (DataW H)} (ht : P.underlying t = some (.struct fs)) (h : qk P t (.agg parts)) {j : Nat} {f : Field} {d : DataW H} (hf : fs[j]? = some f) (hd : parts[j]? = some d) : qk P f.type d := by
 unfold qk at h ⊢
 refine List.all_eq_true.2 fun n hn => List.all_eq_true.1 h n ?_
 simp only [DataW.weights, ht]
 exact DataW.weights_mem_each (j := j) (by simp [hf]) hd n hn
theorem kO {e : TypeId} : ∀ {ds : List (DataW H)} {d : DataW H}, d ∈ ds → ∀ n ∈ d.weights P e, n ∈ DataW.weightsAll P e ds
 | d0 :: ds, d, hd, n, hn => by
  simp only [DataW.weightsAll, List.mem_append]
  rcases List.mem_cons.1 hd with rfl | hd
  · exact Or.inl hn
  · exact Or.inr (kO hd n hn)
theorem QW {t e : TypeId} {el sp : List (DataW H)} (ht : P.underlying t = some (.slice e)) (h : qk P t (.slice el sp)) : el.length * P.bytesOf e ≤ reachBytes ∧ ∀ d ∈ el, qk P e d := by
 unfold qk at h
 have h1 := List.all_eq_true.1 h
 simp only [DataW.weights, ht] at h1
 constructor
 · have h2 := h1 _ (List.mem_cons_self ..)
   have h3 : (el.length + sp.length) * P.bytesOf e ≤ reachBytes := by simpa using h2
   exact Nat.le_trans (Nat.mul_le_mul_right _ (Nat.le_add_right _ _)) h3
 · intro d hd
   exact List.all_eq_true.2 fun n hn => h1 n (List.mem_cons_of_mem _ (List.mem_append_left _ (kO hd n hn)))
theorem qs {α : Type} [Inhabited α] {t e : TypeId} {fuel : Nat} {cs : List Value} {x : DataW H × List MemPlace} {s : Nat} (L : List Value → α → Prop) (ht : P.underlying t = some (.slice e)) (hs : P.cellsOf e = s) (h1 : 0 < s)
  (rd : ∀ (m : Nat) (cs : List Value) (y : DataW H × List MemPlace), DataW.trod enc P W base spare held m e cs = some y → qk P e y.1 → ∃ a, L cs a)
  (h : DataW.trod enc P W base spare held fuel t cs = some x) (hw : qk P t x.1) :
  ∃ (A : Option Addr) (us0 : List α) (cap : Nat), cs = [.slice A us0.length cap] ∧ us0.length ≤ cap ∧ cap ≤ maxLen ∧ us0.length * P.bytesOf e ≤ reachBytes ∧
   (0 < us0.length → ∃ b off, A = some ⟨b, off, none⟩ ∧ b < W.heap.size ∧ ∀ (i : Nat) (hi : i < us0.length), ∃ cs, L cs us0[i] ∧ ∀ (k : Nat) (y : Value), cs[k]? = some y → W.cell? ⟨b, off + i * s + k, none⟩ = some y) := by
 rcases open_slice ht h with ⟨rfl, _⟩ | ⟨a, len, cap, m, n', D, Pl, rfl, _, hlc, hcm, hm, hx1, hi⟩
 · exact ⟨none, [], 0, rfl, Nat.le_refl _, Nat.zero_le _, by simp, fun h => absurd h (by simp)⟩
 · have hlm : len ≤ m := by rw [hm]; split <;> omega
   rw [hx1] at hw
   obtain ⟨hb, hall⟩ := QW ht hw
   have hel : ∀ i, i < len → ∃ (a' : α) (cs : List Value), cs.length = s ∧ L cs a' ∧ ∀ (k : Nat) (y : Value), cs[k]? = some y → W.cell? (a.add (i * s + k)) = some y := fun i hlt => by
    obtain ⟨cs', hc, ht'⟩ := hi i (by omega)
    rw [hs] at hc
    obtain ⟨_, hcl, hat⟩ := World.cells?_some hc
    obtain ⟨u, hu⟩ := rd _ _ _ ht' (hall _ (List.mem_map.2 ⟨i, List.mem_range.2 hlt, rfl⟩))
    refine ⟨u, cs', hcl, hu, fun k y hk => ?_⟩
    have hk' : k < s := by rw [← hcl]; exact (List.getElem?_eq_some_iff.1 hk).1
    rw [← Go.Deep.add_add, hat k hk', hk]
   obtain ⟨us0, hal, has⟩ : ∃ us0 : List α, us0.length = len ∧ ∀ i (hi : i < us0.length), ∃ cs : List Value, cs.length = s ∧ L cs us0[i] ∧ ∀ (k : Nat) (y : Value), cs[k]? = some y → W.cell? (a.add (i * s + k)) = some y := by
    refine ⟨(List.range len).map fun i => if h : i < len then Classical.choose (hel i h) else default, by simp, fun i hi => ?_⟩
    have hi' : i < len := by simpa using hi
    simp only [List.getElem_map, List.getElem_range, hi', dite_true]
    exact Classical.choose_spec (hel i hi')
   subst hal
   have hb' : us0.length * P.bytesOf e ≤ reachBytes := by simpa using hb
   refine ⟨some a, us0, cap, rfl, hlc, hcm, hb', fun h0 => ?_⟩
   obtain ⟨c0, hl0, _, hc0⟩ := has 0 h0
   have h00 := hc0 0 _ (List.getElem?_eq_getElem (by omega))
   obtain ⟨b, off, spot⟩ := a
   have hspot : spot = none := by simpa [Addr.add] using World.cell?_spot h00
   subst hspot
   refine ⟨b, off, rfl, ?_, fun i hi => ?_⟩
   · have := World.block_lt_of_cell? W _ h00
     simpa [Addr.add] using this
   · obtain ⟨c1, _, hL, hc1⟩ := has i hi
     refine ⟨c1, hL, fun k y hk => ?_⟩
     have := hc1 k y hk
     rw [add_plain] at this
     rw [← Nat.add_assoc] at this
     exact this
end
section
variable {H : Type} {enc : TypeId × Value → H} {W : World} {base : Nat} {spare : Nat → Bool} {held : Bool}
theorem JI : Tryz.prog.cellsOf 38 = 1 := by kernel_rfl
theorem XW : Tryz.prog.cellsOf 92 = 1 := by kernel_rfl
theorem JJ : Tryz.prog.cellsOf 168 = 3 := by kernel_rfl
theorem cellsCss : Tryz.prog.cellsOf 22 = 1 := by kernel_rfl
theorem cellsTk : Tryz.prog.cellsOf 24 = 4 := by kernel_rfl
theorem cellsGr : Tryz.prog.cellsOf 97 = 6 := by kernel_rfl
theorem JG : Tryz.prog.cellsOf 172 = 7 := by kernel_rfl
theorem JH : Tryz.prog.cellsOf 200 = 8 := by kernel_rfl
theorem cellsMl : Tryz.prog.cellsOf 198 = 1 := by kernel_rfl
theorem cellsMls : Tryz.prog.cellsOf 25 = 1 := by kernel_rfl
theorem cellsAd : Tryz.prog.cellsOf 27 = 2 := by kernel_rfl
theorem cellsPb : Tryz.prog.cellsOf 29 = 7 := by kernel_rfl
theorem bytesI8 : Tryz.prog.bytesOf 3 = 8 := by kernel_rfl
theorem bytesIs : Tryz.prog.bytesOf 38 = 24 := by kernel_rfl
theorem bytesCs : Tryz.prog.bytesOf 168 = 72 := by kernel_rfl
theorem bytesMv : Tryz.prog.bytesOf 200 = 64 := by kernel_rfl
theorem bytesMl : Tryz.prog.bytesOf 198 = 24 := by kernel_rfl
set_option maxRecDepth 100000 in
/-- A slice of integers. -/
theorem Jj {m : Nat} {cs : List Value} {y : DataW H × List MemPlace} (h : DataW.trod enc Tryz.prog W base spare held m 38 cs = some y) (hw : qk Tryz.prog 38 y.1) :
  ∃ (A : Option Addr) (xs : List Int) (c : Nat), cs = [.slice A xs.length c] ∧ xs.length ≤ 17592186044416 ∧ IAt W W.heap.size A xs := by
 obtain ⟨A, xs, c, e, _, _, hb, hA⟩ := qs (α := Int) (fun cs i => cs = [.int .i64 i]) Tryz.underlying38 xJ (by decide) (fun m cs y h _ => by obtain ⟨i, e, _⟩ := DataW.trod_int Tryz.underlying3 h; exact ⟨i, e⟩) h hw
 refine ⟨A, xs, c, e, ?_, fun h0 => ?_⟩
 · rw [bytesI8] at hb; unfold reachBytes at hb; omega
 · obtain ⟨b, off, e, hlt, hc⟩ := hA h0
   refine ⟨b, off, e, hlt, fun i hi => ?_⟩
   obtain ⟨cs, rfl, h2⟩ := hc i hi
   simpa using h2 0 _ rfl
set_option maxRecDepth 100000 in
/-- A slice of slices of integers. -/
theorem Y9 {m : Nat} {cs : List Value} {y : DataW H × List MemPlace} (h : DataW.trod enc Tryz.prog W base spare held m 92 cs = some y) (hw : qk Tryz.prog 92 y.1) :
  ∃ (A : Option Addr) (xs : List (List Int)) (c : Nat), cs = [.slice A xs.length c] ∧ xs.length ≤ 17592186044416 ∧ (∀ v ∈ xs, v.length ≤ 17592186044416) ∧ LAt W W.heap.size A xs := by
 obtain ⟨A, xs, c, e, _, _, hb, hA⟩ := qs (α := List Int) (fun cs v => ∃ A c, cs = [.slice A v.length c] ∧ v.length ≤ 17592186044416 ∧ IAt W W.heap.size A v) Tryz.underlying92 JI (by decide)
  (fun m cs y h hw => by obtain ⟨A, xs, c, e, h1, h2⟩ := Jj h hw; exact ⟨xs, A, c, e, h1, h2⟩) h hw
 refine ⟨A, xs, c, e, ?_, ?_, fun h0 => ?_⟩
 · rw [bytesIs] at hb; unfold reachBytes at hb; omega
 · intro v hv
   obtain ⟨i, hi, rfl⟩ := List.getElem_of_mem hv
   obtain ⟨b, off, _, _, hc⟩ := hA (by omega)
   obtain ⟨cs, ⟨A, c, _, h1, _⟩, _⟩ := hc i hi
   exact h1
 · obtain ⟨b, off, e, hlt, hc⟩ := hA h0
   refine ⟨b, off, e, hlt, fun i hi => ?_⟩
   obtain ⟨cs, ⟨A, c, rfl, _, h3⟩, h2⟩ := hc i hi
   exact ⟨A, c, by simpa using h2 0 _ rfl, h3⟩
set_option maxRecDepth 100000 in
/-- A case. -/
theorem rd_case {m : Nat} {cs : List Value} {y : DataW H × List MemPlace} (h : DataW.trod enc Tryz.prog W base spare held m 168 cs = some y) (hw : qk Tryz.prog 168 y.1) :
  ∃ x : Cs, LowC x ∧ ∃ v0 v1 v2, cs = [v0, v1, v2] ∧ CsV W W.heap.size v0 v1 v2 x := by
 obtain ⟨xs, n, rfl, rfl, hl, hxl, hf⟩ := DataW.trod_struct Tryz.underlying168 h
 rw [JJ] at hl
 have hxl3 : xs.length = 3 := hxl
 match cs, hl with
 | [c0, c1, c2], _ =>
  have f0 := hf 0 _ rfl
  have f1 := hf 1 _ rfl
  have f2 := hf 2 _ rfl
  match xs, hxl3 with
  | [x0, x1, x2], _ =>
   have g0 : DataW.trod enc Tryz.prog W base spare held n 38 [c0] = some x0 := by simpa [JI] using f0
   have g1 : DataW.trod enc Tryz.prog W base spare held n 92 [c1] = some x1 := by simpa [XW] using f1
   have g2 : DataW.trod enc Tryz.prog W base spare held n 92 [c2] = some x2 := by simpa [XW] using f2
   have w0 : qk Tryz.prog 38 x0.1 := xB Tryz.underlying168 hw (j := 0) rfl rfl
   have w1 : qk Tryz.prog 92 x1.1 := xB Tryz.underlying168 hw (j := 1) rfl rfl
   have w2 : qk Tryz.prog 92 x2.1 := xB Tryz.underlying168 hw (j := 2) rfl rfl
   obtain ⟨A0, y0, k0, e0, l0, r0⟩ := Jj g0 w0
   obtain ⟨A1, y1, k1, e1, l1, m1, r1⟩ := Y9 g1 w1
   obtain ⟨A2, y2, k2, e2, l2, m2, r2⟩ := Y9 g2 w2
   cases e0; cases e1; cases e2
   exact ⟨⟨y0, y1, y2⟩, ⟨l0, l1, l2, m1, m2⟩, _, _, _, rfl, ⟨A0, k0, rfl, r0⟩, ⟨A1, k1, rfl, r1⟩, ⟨A2, k2, rfl, r2⟩⟩
set_option maxRecDepth 100000 in
/-- A slice of cases. -/
theorem rd_cases {m : Nat} {cs : List Value} {y : DataW H × List MemPlace} (h : DataW.trod enc Tryz.prog W base spare held m 22 cs = some y) (hw : qk Tryz.prog 22 y.1) :
  ∃ (A : Option Addr) (xs : List Cs) (c : Nat), cs = [.slice A xs.length c] ∧ xs.length ≤ 17592186044416 ∧ (∀ v ∈ xs, LowC v) ∧ CAt W W.heap.size A xs := by
 obtain ⟨A, xs, c, e, _, _, hb, hA⟩ := qs (α := Cs) (fun cs x => LowC x ∧ ∃ v0 v1 v2, cs = [v0, v1, v2] ∧ CsV W W.heap.size v0 v1 v2 x) Tryz.underlying22 JJ (by decide)
  (fun m cs y h hw => rd_case h hw) h hw
 refine ⟨A, xs, c, e, ?_, ?_, fun h0 => ?_⟩
 · rw [bytesCs] at hb; unfold reachBytes at hb; omega
 · intro v hv
   obtain ⟨i, hi, rfl⟩ := List.getElem_of_mem hv
   obtain ⟨b, off, _, _, hc⟩ := hA (by omega)
   obtain ⟨cs, ⟨h1, _⟩, _⟩ := hc i hi
   exact h1
 · obtain ⟨b, off, e, hlt, hc⟩ := hA h0
   refine ⟨b, off, e, hlt, fun i hi => ?_⟩
   obtain ⟨cs, ⟨_, v0, v1, v2, rfl, h3⟩, h2⟩ := hc i hi
   exact ⟨v0, v1, v2, h2 0 _ rfl, h2 1 _ rfl, h2 2 _ rfl, h3⟩
set_option maxRecDepth 100000 in
/-- A round. -/
theorem rd_round {m : Nat} {cs : List Value} {y : DataW H × List MemPlace} (h : DataW.trod enc Tryz.prog W base spare held m 172 cs = some y) : ∃ x : Rd, cs = x.cells.toList := by
 obtain ⟨xs, n, rfl, rfl, hl, hxl, hf⟩ := DataW.trod_struct Tryz.underlying172 h
 rw [JG] at hl
 have hxl3 : xs.length = 2 := hxl
 match cs, hl with
 | [c0, c1, c2, c3, c4, c5, c6], _ =>
  have f0 := hf 0 _ rfl
  have f1 := hf 1 _ rfl
  match xs, hxl3 with
  | [x0, x1], _ =>
   have g0 : DataW.trod enc Tryz.prog W base spare held n 97 [c0, c1, c2, c3, c4, c5] = some x0 := by simpa [cellsGr] using f0
   have g1 : DataW.trod enc Tryz.prog W base spare held n 3 [c6] = some x1 := by simpa [xJ] using f1
   obtain ⟨i6, e6, _, _⟩ := DataW.trod_int Tryz.underlying3 g1
   obtain ⟨ys, k, rfl, rfl, _, hyl, hg⟩ := DataW.trod_struct Tryz.underlying97 g0
   have hyl2 : ys.length = 2 := hyl
   have q0 := hg 0 _ rfl
   have q1 := hg 1 _ rfl
   match ys, hyl2 with
   | [y0, y1], _ =>
    have r0 : DataW.trod enc Tryz.prog W base spare held k 3 [c0] = some y0 := by simpa [xJ] using q0
    have r1 : DataW.trod enc Tryz.prog W base spare held k 95 [c1, c2, c3, c4, c5] = some y1 := by simpa [cells5] using q1
    obtain ⟨i0, e0, _, _⟩ := DataW.trod_int Tryz.underlying3 r0
    obtain ⟨zs, m, rfl, _, _, hzl, hi⟩ := DataW.trod_array Tryz.underlying95 r1
    have k0 := hi 0 (by decide)
    have k1 := hi 1 (by decide)
    have k2 := hi 2 (by decide)
    have k3 := hi 3 (by decide)
    have k4 := hi 4 (by decide)
    match zs, hzl with
    | [z0, z1, z2, z3, z4], _ =>
     have j0 : DataW.trod enc Tryz.prog W base spare held m 3 [c1] = some z0 := by simpa [xJ] using k0
     have j1 : DataW.trod enc Tryz.prog W base spare held m 3 [c2] = some z1 := by simpa [xJ] using k1
     have j2 : DataW.trod enc Tryz.prog W base spare held m 3 [c3] = some z2 := by simpa [xJ] using k2
     have j3 : DataW.trod enc Tryz.prog W base spare held m 3 [c4] = some z3 := by simpa [xJ] using k3
     have j4 : DataW.trod enc Tryz.prog W base spare held m 3 [c5] = some z4 := by simpa [xJ] using k4
     obtain ⟨a0, b0, _, _⟩ := DataW.trod_int Tryz.underlying3 j0
     obtain ⟨a1, b1, _, _⟩ := DataW.trod_int Tryz.underlying3 j1
     obtain ⟨a2, b2, _, _⟩ := DataW.trod_int Tryz.underlying3 j2
     obtain ⟨a3, b3, _, _⟩ := DataW.trod_int Tryz.underlying3 j3
     obtain ⟨a4, b4, _, _⟩ := DataW.trod_int Tryz.underlying3 j4
     cases e0; cases e6; cases b0; cases b1; cases b2; cases b3; cases b4
     exact ⟨⟨i0, a0, a1, a2, a3, a4, i6⟩, rfl⟩
set_option maxRecDepth 100000 in
/-- A move. -/
theorem rd_move {m : Nat} {cs : List Value} {y : DataW H × List MemPlace} (h : DataW.trod enc Tryz.prog W base spare held m 200 cs = some y) : ∃ x : Mv, cs = x.cells.toList := by
 obtain ⟨xs, n, rfl, rfl, hl, hxl, hf⟩ := DataW.trod_struct Tryz.underlying200 h
 rw [JH] at hl
 have hxl3 : xs.length = 2 := hxl
 match cs, hl with
 | [c0, c1, c2, c3, c4, c5, c6, c7], _ =>
  have f0 := hf 0 _ rfl
  have f1 := hf 1 _ rfl
  match xs, hxl3 with
  | [x0, x1], _ =>
   have g0 : DataW.trod enc Tryz.prog W base spare held n 172 [c0, c1, c2, c3, c4, c5, c6] = some x0 := by simpa [JG] using f0
   have g1 : DataW.trod enc Tryz.prog W base spare held n 3 [c7] = some x1 := by simpa [xJ] using f1
   obtain ⟨r, e0⟩ := rd_round g0
   obtain ⟨i7, e7, _, _⟩ := DataW.trod_int Tryz.underlying3 g1
   cases e7
   refine ⟨⟨r, i7⟩, ?_⟩
   simp only [Rd.cells, List.cons.injEq] at e0
   obtain ⟨rfl, rfl, rfl, rfl, rfl, rfl, rfl, _⟩ := e0
   rfl
set_option maxRecDepth 100000 in
/-- A slice of moves. -/
theorem rd_moves {m : Nat} {cs : List Value} {y : DataW H × List MemPlace} (h : DataW.trod enc Tryz.prog W base spare held m 198 cs = some y) (hw : qk Tryz.prog 198 y.1) :
  ∃ (A : Option Addr) (xs : List Mv) (c : Nat), cs = [.slice A xs.length c] ∧ xs.length ≤ 17592186044416 ∧ MAt W W.heap.size A xs := by
 obtain ⟨A, xs, c, e, _, _, hb, hA⟩ := qs (α := Mv) (fun cs x => cs = x.cells.toList) Tryz.underlying198 JH (by decide) (fun m cs y h _ => rd_move h) h hw
 refine ⟨A, xs, c, e, ?_, fun h0 => ?_⟩
 · rw [bytesMv] at hb; unfold reachBytes at hb; omega
 · obtain ⟨b, off, e, hlt, hc⟩ := hA h0
   refine ⟨b, off, e, hlt, fun i hi k u hk => ?_⟩
   obtain ⟨cs, rfl, h2⟩ := hc i hi
   exact h2 k u (by simpa using hk)
set_option maxRecDepth 100000 in
/-- A slice of slices of moves. -/
theorem rd_states {m : Nat} {cs : List Value} {y : DataW H × List MemPlace} (h : DataW.trod enc Tryz.prog W base spare held m 25 cs = some y) (hw : qk Tryz.prog 25 y.1) :
  ∃ (A : Option Addr) (xs : List (List Mv)) (c : Nat), cs = [.slice A xs.length c] ∧ xs.length ≤ 17592186044416 ∧ (∀ v ∈ xs, v.length ≤ 17592186044416) ∧ SAt W W.heap.size A xs := by
 obtain ⟨A, xs, c, e, _, _, hb, hA⟩ := qs (α := List Mv) (fun cs v => ∃ A c, cs = [.slice A v.length c] ∧ v.length ≤ 17592186044416 ∧ MAt W W.heap.size A v) Tryz.underlying25 cellsMl (by decide)
  (fun m cs y h hw => by obtain ⟨A, xs, c, e, h1, h2⟩ := rd_moves h hw; exact ⟨xs, A, c, e, h1, h2⟩) h hw
 refine ⟨A, xs, c, e, ?_, ?_, fun h0 => ?_⟩
 · rw [bytesMl] at hb; unfold reachBytes at hb; omega
 · intro v hv
   obtain ⟨i, hi, rfl⟩ := List.getElem_of_mem hv
   obtain ⟨b, off, _, _, hc⟩ := hA (by omega)
   obtain ⟨cs, ⟨A, c, _, h1, _⟩, _⟩ := hc i hi
   exact h1
 · obtain ⟨b, off, e, hlt, hc⟩ := hA h0
   refine ⟨b, off, e, hlt, fun i hi => ?_⟩
   obtain ⟨cs, ⟨A, c, rfl, _, h3⟩, h2⟩ := hc i hi
   exact ⟨A, c, by simpa using h2 0 _ rfl, h3⟩
set_option maxRecDepth 100000 in
/-- A problem. -/
theorem rd_prob {m : Nat} {cs : List Value} {y : DataW H × List MemPlace} (h : DataW.trod enc Tryz.prog W base spare held m 29 cs = some y) (hw : qk Tryz.prog 29 y.1) :
  ∃ (p : Pb) (A : Option Addr) (kc : Nat) (SV : Option Addr) (ks : Nat), cs = (p.vs A kc SV ks).toList ∧ YJ p ∧ CAt W W.heap.size A p.t.cases ∧ SAt W W.heap.size SV p.a.sts := by
 obtain ⟨xs, n, rfl, rfl, hl, hxl, hf⟩ := DataW.trod_struct Tryz.underlying29 h
 rw [cellsPb] at hl
 have hxl3 : xs.length = 3 := hxl
 match cs, hl with
 | [c0, c1, c2, c3, c4, c5, c6], _ =>
  have f0 := hf 0 _ rfl
  have f1 := hf 1 _ rfl
  have f2 := hf 2 _ rfl
  match xs, hxl3 with
  | [x0, x1, x2], _ =>
   have g0 : DataW.trod enc Tryz.prog W base spare held n 24 [c0, c1, c2, c3] = some x0 := by simpa [cellsTk] using f0
   have g1 : DataW.trod enc Tryz.prog W base spare held n 27 [c4, c5] = some x1 := by simpa [cellsAd] using f1
   have g2 : DataW.trod enc Tryz.prog W base spare held n 3 [c6] = some x2 := by simpa [xJ] using f2
   have w0 : qk Tryz.prog 24 x0.1 := xB Tryz.underlying29 hw (j := 0) rfl rfl
   have w1 : qk Tryz.prog 27 x1.1 := xB Tryz.underlying29 hw (j := 1) rfl rfl
   obtain ⟨i6, e6, _, _⟩ := DataW.trod_int Tryz.underlying3 g2
   obtain ⟨ys, k, rfl, hx0, _, hyl, hg⟩ := DataW.trod_struct Tryz.underlying24 g0
   rw [hx0] at w0
   have hyl4 : ys.length = 4 := hyl
   have q0 := hg 0 _ rfl
   have q1 := hg 1 _ rfl
   have q2 := hg 2 _ rfl
   have q3 := hg 3 _ rfl
   match ys, hyl4 with
   | [y0, y1, y2, y3], _ =>
    have r0 : DataW.trod enc Tryz.prog W base spare held k 3 [c0] = some y0 := by simpa [xJ] using q0
    have r1 : DataW.trod enc Tryz.prog W base spare held k 3 [c1] = some y1 := by simpa [xJ] using q1
    have r2 : DataW.trod enc Tryz.prog W base spare held k 3 [c2] = some y2 := by simpa [xJ] using q2
    have r3 : DataW.trod enc Tryz.prog W base spare held k 22 [c3] = some y3 := by simpa [cellsCss] using q3
    have v3 : qk Tryz.prog 22 y3.1 := xB Tryz.underlying24 w0 (j := 3) rfl rfl
    obtain ⟨i0, e0, _, _⟩ := DataW.trod_int Tryz.underlying3 r0
    obtain ⟨i1, e1, _, _⟩ := DataW.trod_int Tryz.underlying3 r1
    obtain ⟨i2, e2, _, _⟩ := DataW.trod_int Tryz.underlying3 r2
    obtain ⟨A, us, kc, e3, lu, hu, hA⟩ := rd_cases r3 v3
    obtain ⟨zs, k', hk', hx1, _, hzl, hg1⟩ := DataW.trod_struct Tryz.underlying27 g1
    rw [hx1] at w1
    have hzl2 : zs.length = 2 := hzl
    have s0 := hg1 0 _ rfl
    have s1 := hg1 1 _ rfl
    match zs, hzl2 with
    | [z0, z1], _ =>
     have t0 : DataW.trod enc Tryz.prog W base spare held k' 3 [c4] = some z0 := by simpa [xJ] using s0
     have t1 : DataW.trod enc Tryz.prog W base spare held k' 25 [c5] = some z1 := by simpa [cellsMls] using s1
     have u1 : qk Tryz.prog 25 z1.1 := xB Tryz.underlying27 w1 (j := 1) rfl rfl
     obtain ⟨i4, e4, _, _⟩ := DataW.trod_int Tryz.underlying3 t0
     obtain ⟨SV, ss, ks, e5, ls, hs, hS⟩ := rd_states t1 u1
     cases e0; cases e1; cases e2; cases e3; cases e4; cases e5; cases e6
     exact ⟨⟨⟨i0, i1, i2, us⟩, ⟨i4, ss⟩, i6⟩, A, kc, SV, ks, rfl, ⟨⟨lu, hu⟩, ls, hs⟩, hA, hS⟩
set_option maxRecDepth 100000 in
/-- A problem that is handed over by value. -/
theorem Yh {b0 : Nat} {v : Value} {d : DataW H} {ps : List MemPlace} (hv : Value.okWide Tryz.prog W .any b0 29 v) (h : DataW.Trod enc Tryz.prog W base spare held 29 v d ps) (hw : qk Tryz.prog 29 d) :
  ∃ (p : Pb) (A : Option Addr) (kc : Nat) (SV : Option Addr) (ks : Nat), v = .agg (p.vs A kc SV ks) ∧ YJ p ∧ CAt W W.heap.size A p.t.cases ∧ SAt W W.heap.size SV p.a.sts := by
 obtain ⟨cs, rfl, _⟩ := okWide_struct Tryz.underlying29 hv
 obtain ⟨fuel, hf⟩ := h
 obtain ⟨p, A, kc, SV, ks, e, h1, h2, h3⟩ := rd_prob hf hw
 refine ⟨p, A, kc, SV, ks, ?_, h1, h2, h3⟩
 have e' : cs.toList = (p.vs A kc SV ks).toList := e
 rw [Array.toList_inj.1 e']
end
end
section
open Go.RowKit
structure Kd where
 e : TypeId
 s : TypeId
 size : Nat
 bytes : Nat
 z : Value
structure KdOk (P : Program) (K : Kd) : Prop where
 under : P.underlying K.s = some (.slice K.e)
 info : (P.info? K.e).map (fun i => (i.zero, i.size, i.bytes)) = some (some K.z, K.size, K.bytes)
 zs : K.z.cells.size = K.size
 pos : 0 < K.size
 small : K.bytes ≤ 1024
def Raw (w : World) (A : Option Addr) (n : Nat) (cs : List Value) : Prop := 0 < n → ∃ b off, A = some ⟨b, off, none⟩ ∧ b < w.heap.size ∧ ∀ (j : Nat) (u : Value), cs[j]? = some u → w.cell? ⟨b, off + j, none⟩ = some u
def OwnR (K : Kd) (w : World) (base : Nat) (v : Value) (n : Nat) (cs : List Value) : Prop := w.ownsRow base K.e K.size v n cs
section
variable {P : Program} {K : Kd} {w w' : World} {base : Nat} {v : Value} {n : Nat} {cs : List Value}
theorem OwnR.nil (K : Kd) (w : World) (base : Nat) : OwnR K w base (.slice none 0 0) 0 [] := World.ownsRow_nil w base _ _
theorem OwnR.kept {row : Option Nat} (h : OwnR K w base v n cs) (hg : w.grownBy w' row) (hne : v.ownBlock = none ∨ v.ownBlock ≠ row) : OwnR K w' base v n cs := World.ownsRow.kept h hg hne
theorem OwnR.alloc (h : OwnR K w base v n cs) (o : Obj) : OwnR K (w.alloc o) base v n cs := World.ownsRow.alloc h o
theorem OwnR.lt (h : OwnR K w base v n cs) : ∀ k, v.ownBlock = some k → base ≤ k ∧ k < w.heap.size := World.ownsRow.lt h
theorem OwnR.below {B : Nat} (h : OwnR K w base v n cs) (hb : Below B w w') (hB : w.heap.size ≤ B) : OwnR K w' base v n cs :=
 World.ownsRow.kept (row := none) h ⟨hb.os, hb.tape, hb.output, hb.size, fun k hk _ => hb.block k (by omega)⟩ (by cases v.ownBlock <;> simp)
theorem OwnR.low {base' : Nat} (h : OwnR K w base v n cs) (hb : base' ≤ base) : OwnR K w base' v n cs := by
 refine ⟨h.1, ?_⟩
 rcases h.2 with h2 | ⟨g, cap, cur, hv, hg, r⟩
 · exact Or.inl h2
 · exact Or.inr ⟨g, cap, cur, hv, by omega, r⟩
theorem OwnR.form (h : OwnR K w base v n cs) : ∃ A cap, v = .slice A n cap ∧ n ≤ cap ∧ cap ≤ maxLen ∧ (0 < n → ∃ g, A = some ⟨g, 0, none⟩ ∧ v.ownBlock = some g ∧ g < w.heap.size ∧ ∀ j u, cs[j]? = some u → w.cell? ⟨g, j, none⟩ = some u) := by
 rcases h.2 with ⟨rfl, h0⟩ | ⟨g, cap, cur, rfl, _, hg, hle, hcm, _⟩
 · exact ⟨none, 0, by rw [h0], by omega, by omega, fun hn => by omega⟩
 · refine ⟨_, _, rfl, hle, hcm, fun _ => ⟨g, rfl, rfl, (Array.getElem?_eq_some_iff.1 hg).1, fun j u hu => ?_⟩⟩
   have := World.ownsRow.cells h (g := g) rfl j u hu
   rwa [show (⟨g, 0, none⟩ : Addr).add j = ⟨g, j, none⟩ from by unfold Addr.add; split <;> simp_all] at this
theorem OwnR.ne {b : Nat} (h : OwnR K w base v n cs) (hb : b < base) : v.ownBlock ≠ some b := fun e => by
 have := (h.lt b e).1
 omega
theorem OwnR.raw (h : OwnR K w base v n cs) : ∃ A cap, v = .slice A n cap ∧ n ≤ cap ∧ cap ≤ maxLen ∧ Raw w A n cs := by
 obtain ⟨A, cap, e, h1, h2, h3⟩ := h.form
 refine ⟨A, cap, e, h1, h2, fun h0 => ?_⟩
 obtain ⟨g, hA, _, hg, hc⟩ := h3 h0
 exact ⟨g, 0, hA, hg, fun j u hu => by rw [Nat.zero_add]; exact hc j u hu⟩
theorem yz (ok : KdOk P K) : ∃ i : TypeInfo, P.info? K.e = some i ∧ i.zero = some K.z ∧ i.size = K.size ∧ i.bytes = K.bytes := by
 have h := ok.info
 cases hi : P.info? K.e with
 | none => rw [hi] at h; cases h
 | some i =>
  rw [hi] at h
  simp only [Option.map_some, Option.some.injEq, Prod.mk.injEq] at h
  exact ⟨i, rfl, h.1, h.2.1, h.2.2⟩
theorem kA (ok : KdOk P K) {o : Oper} {a : Act} {KK : Act → World → Prop} {Q : Exit → Act → World → Prop} {W : World} (s x : Operand)
  (ho : o.op = .call { callee := .builtin .append, args := #[s, x], argTypes := #[K.s, K.s] }) (base : Nat) (V : Value) (n : Nat) (cs : List Value) (hs : a.eval s = V) (hown : OwnR K W base V n cs)
  (g : Nat) (new : Array Value) (hx : a.eval x = .slice (some ⟨g, 0, none⟩) 1 1) (hg : W.heap[g]? = some (.cells new K.e (0, 0))) (hn : new.size = K.size) (h1 : ∀ u ∈ new.toList, u.oneCell' = true) (hl : n ≤ 1000000000) (hb : base ≤ W.heap.size) (H : Nat) (hH : W.heap.size = H)
  (h : ∀ g' cap w1, OwnR K w1 base (.slice (some ⟨g', 0, none⟩) (n + 1) cap) (n + 1) (cs ++ new.toList) → W.grownBy w1 V.ownBlock → (V.ownBlock = some g' ∨ g' = H) → g' < w1.heap.size → KK (a.put o.dst (.slice (some ⟨g', 0, none⟩) (n + 1) cap)) w1) : o.wp P a W KK Q := by
 obtain ⟨i0, hi, hz0, hz1, hz2⟩ := yz ok
 refine wp_append_lies W s x K.s ho base K.e i0 K.z K.size K.bytes ok.under hi hz0 hz1 hz2 ok.zs ok.pos V n cs hs hown ⟨g, 0, none⟩ 1 1 new.toList hx (by simp [hn])
  (World.news_of_block hg) h1 (by omega) (by unfold maxLen; omega) ?_ hb H hH h
 have := Nat.mul_le_mul (show n + 1 ≤ 1000000001 by omega) ok.small
 omega
theorem yx (ok : KdOk P K) {ops : Array Oper} {rest : List Oper} {o : Oper} {a : Act} {Q : Exit → Act → World → Prop} {W : World} (hgd : o.guard = none) (s x : Operand)
  (ho : o.op = .call { callee := .builtin .append, args := #[s, x], argTypes := #[K.s, K.s] }) (base : Nat) (V : Value) (n : Nat) (cs : List Value) (hs : a.eval s = V) (hown : OwnR K W base V n cs)
  (g : Nat) (new : Array Value) (hx : a.eval x = .slice (some ⟨g, 0, none⟩) 1 1) (hg : W.heap[g]? = some (.cells new K.e (0, 0))) (hn : new.size = K.size) (h1 : ∀ u ∈ new.toList, u.oneCell' = true) (hl : n ≤ 1000000000) (hb : base ≤ W.heap.size) (H : Nat) (hH : W.heap.size = H)
  (h : ∀ g' cap w1, OwnR K w1 base (.slice (some ⟨g', 0, none⟩) (n + 1) cap) (n + 1) (cs ++ new.toList) → W.grownBy w1 V.ownBlock → (V.ownBlock = some g' ∨ g' = H) → g' < w1.heap.size → wpList P ops Q rest (a.put o.dst (.slice (some ⟨g', 0, none⟩) (n + 1) cap)) w1) : wpList P ops Q (o :: rest) a W :=
 wpList_plain hgd fun _ hK => kA ok s x ho base V n cs hs hown g new hx hg hn h1 hl hb H hH fun g' cap w1 h1 h2 h3 h4 => hK _ _ (h g' cap w1 h1 h2 h3 h4)
theorem JX (ok : KdOk P K) {ops : Array Oper} {o : Oper} {a : Act} {KK : Act → World → Prop} {Q : Exit → Act → World → Prop} {E : Prop} {W : World} (hgd : o.guard = none) (s x : Operand)
  (ho : o.op = .call { callee := .builtin .append, args := #[s, x], argTypes := #[K.s, K.s] }) (base : Nat) (V : Value) (n : Nat) (cs : List Value) (hs : a.eval s = V) (hown : OwnR K W base V n cs)
  (g : Nat) (new : Array Value) (hx : a.eval x = .slice (some ⟨g, 0, none⟩) 1 1) (hg : W.heap[g]? = some (.cells new K.e (0, 0))) (hn : new.size = K.size) (h1 : ∀ u ∈ new.toList, u.oneCell' = true) (hl : n ≤ 1000000000) (hb : base ≤ W.heap.size) (H : Nat) (hH : W.heap.size = H)
  (h : ∀ g' cap w1, OwnR K w1 base (.slice (some ⟨g', 0, none⟩) (n + 1) cap) (n + 1) (cs ++ new.toList) → W.grownBy w1 V.ownBlock → (V.ownBlock = some g' ∨ g' = H) → g' < w1.heap.size → KK (a.put o.dst (.slice (some ⟨g', 0, none⟩) (n + 1) cap)) w1) :
  if Region.wanted o (yielded ops a.tmps) = true then Oper.wp P o a W KK Q else E := by
 have hw : Region.wanted o (yielded ops a.tmps) = true := by simp [Region.wanted, hgd]
 rw [if_pos hw]
 exact kA ok s x ho base V n cs hs hown g new hx hg hn h1 hl hb H hH h
theorem wp_fitR (ok : KdOk P K) {o : Oper} {a : Act} {KK : Act → World → Prop} {Q : Exit → Act → World → Prop} {W : World} (s x : Operand)
  (ho : o.op = .call { callee := .builtin .append, args := #[s, x], argTypes := #[K.s, K.s] }) (base g n cap : Nat) (cs : List Value) (hs : a.eval s = .slice (some ⟨g, 0, none⟩) n cap) (hown : OwnR K W base (.slice (some ⟨g, 0, none⟩) n cap) n cs)
  (h : Nat) (new : Array Value) (hx : a.eval x = .slice (some ⟨h, 0, none⟩) 1 1) (hg : W.heap[h]? = some (.cells new K.e (0, 0))) (hn : new.size = K.size) (h1 : ∀ u ∈ new.toList, u.oneCell' = true) (hle : n + 1 ≤ cap)
  (hK : ∀ w1, OwnR K w1 base (.slice (some ⟨g, 0, none⟩) (n + 1) cap) (n + 1) (cs ++ new.toList) → W.grownBy w1 (some g) → KK (a.put o.dst (.slice (some ⟨g, 0, none⟩) (n + 1) cap)) w1) : o.wp P a W KK Q := by
 obtain ⟨i0, hi, hz0, hz1, hz2⟩ := yz ok
 obtain ⟨w', hrun, r1, r2⟩ := run_append_fits (P := P) W base K.s o.type K.e i0 K.size ok.under hi hz1 g n cap cs hown ⟨h, 0, none⟩ 1 1 new.toList (by simp [hn]) (World.news_of_block hg) h1 hle
 unfold Oper.wp execOp
 simp only [ho, resolve, invoke, builtin, Sem.run_bind, Sem.run_pure, Result.andThen_ok, List.map_toArray, List.map_cons, List.map_nil, hs, hx, hrun]
 exact hK w' r1 r2
theorem vQ (ok : KdOk P K) (A : Option Addr) (n cap c : Nat) (ty : TypeId) (W : World) (hn : n ≤ cap) : (Builtin.append_ #[K.s, K.s] ty #[.slice A n cap, .slice none 0 c]).run P W = .ok (.slice A n cap) W := by
 obtain ⟨i0, hi, hz0, hz1, hz2⟩ := yz ok
 cases A with
 | none => simp [Builtin.append_, run_underlying ok.under, sizeOf, typeInfo, hi, Builtin.lenOf, Builtin.firstCells, hn, Result.andThen]
 | some ad => simp [Builtin.append_, run_underlying ok.under, sizeOf, typeInfo, hi, Builtin.lenOf, Builtin.firstCells, hn, Result.andThen, storeCells]
theorem run_appN (ok : KdOk P K) (W : World) (ty : TypeId) (base : Nat) (v : Value) (n : Nat) (cs : List Value) (hown : OwnR K W base v n cs) (A : Option Addr) (m c : Nat) (news : List Value) (hl : news.length = m * K.size) (hA : Raw W A m news)
  (h1 : ∀ u ∈ news, u.oneCell' = true) (hm : n + m ≤ 1000000000) (hb : base ≤ W.heap.size) :
  ∃ v' w', (Builtin.append_ #[K.s, K.s] ty #[v, .slice A m c]).run P W = .ok v' w' ∧ OwnR K w' base v' (n + m) (cs ++ news) ∧ W.grownBy w' v.ownBlock ∧ (v'.ownBlock = v.ownBlock ∨ v'.ownBlock = some W.heap.size) := by
 obtain ⟨i0, hi, hz0, hz1, hz2⟩ := yz ok
 cases A with
 | none =>
  have hm0 : m = 0 := by
   rcases Nat.eq_zero_or_pos m with h | h
   · exact h
   · obtain ⟨b, off, e, _⟩ := hA h; cases e
  subst hm0
  have hn0 : news = [] := List.eq_nil_of_length_eq_zero (by omega)
  subst hn0
  obtain ⟨A, cap, rfl, hc, _⟩ := hown.form
  exact ⟨_, W, vQ ok A n cap c ty W hc, by simpa using hown, World.grownBy.refl _ _, .inl rfl⟩
 | some ad =>
  have hbb := Nat.mul_le_mul hm ok.small
  obtain ⟨v', w', hr, r1, r2, _, r4⟩ := run_append_own_at (P := P) W base K.s ty K.e i0 K.z K.size K.bytes ok.under hi hz0 hz1 hz2 ok.zs ok.pos v n cs hown ad m c news hl (fun j u hj => by
    have hjl : j < m * K.size := by rw [← hl]; exact (List.getElem?_eq_some_iff.1 hj).1
    have hm0 : 0 < m := by rcases Nat.eq_zero_or_pos m with h | h; (· subst h; omega); (· exact h)
    obtain ⟨b, off, e, _, hc⟩ := hA hm0
    cases e
    rw [show (⟨b, off, none⟩ : Addr).add j = ⟨b, off + j, none⟩ from by unfold Addr.add; split <;> simp_all]
    exact hc j u hj) h1 (by unfold maxLen; omega) (by omega) hb
  exact ⟨v', w', hr, r1, r2, r4⟩
theorem wp_appN (ok : KdOk P K) {o : Oper} {a : Act} {KK : Act → World → Prop} {Q : Exit → Act → World → Prop} {W : World} (s x : Operand)
  (ho : o.op = .call { callee := .builtin .append, args := #[s, x], argTypes := #[K.s, K.s] }) (base : Nat) (v : Value) (n : Nat) (cs : List Value) (hs : a.eval s = v) (hown : OwnR K W base v n cs) (A : Option Addr) (m c : Nat) (news : List Value) (hx : a.eval x = .slice A m c)
  (hl : news.length = m * K.size) (hA : Raw W A m news) (h1 : ∀ u ∈ news, u.oneCell' = true) (hm : n + m ≤ 1000000000) (hb : base ≤ W.heap.size)
  (h : ∀ v' w1, OwnR K w1 base v' (n + m) (cs ++ news) → W.grownBy w1 v.ownBlock → (v'.ownBlock = v.ownBlock ∨ v'.ownBlock = some W.heap.size) → KK (a.put o.dst v') w1) : o.wp P a W KK Q := by
 obtain ⟨v', w', hrun, r1, r2, r3⟩ := run_appN ok W o.type base v n cs hown A m c news hl hA h1 hm hb
 unfold Oper.wp execOp
 simp only [ho, resolve, invoke, builtin, Sem.run_bind, Sem.run_pure, Result.andThen_ok, List.map_toArray, List.map_cons, List.map_nil, hs, hx, hrun]
 exact h v' w' r1 r2 r3
theorem YP (ok : KdOk P K) {ops : Array Oper} {rest : List Oper} {o : Oper} {a : Act} {Q : Exit → Act → World → Prop} {W : World} (hgd : o.guard = none) (s x : Operand)
  (ho : o.op = .call { callee := .builtin .append, args := #[s, x], argTypes := #[K.s, K.s] }) (base : Nat) (v : Value) (n : Nat) (cs : List Value) (hs : a.eval s = v) (hown : OwnR K W base v n cs) (A : Option Addr) (m c : Nat) (news : List Value) (hx : a.eval x = .slice A m c)
  (hl : news.length = m * K.size) (hA : Raw W A m news) (h1 : ∀ u ∈ news, u.oneCell' = true) (hm : n + m ≤ 1000000000) (hb : base ≤ W.heap.size)
  (h : ∀ v' w1, OwnR K w1 base v' (n + m) (cs ++ news) → W.grownBy w1 v.ownBlock → (v'.ownBlock = v.ownBlock ∨ v'.ownBlock = some W.heap.size) → wpList P ops Q rest (a.put o.dst v') w1) : wpList P ops Q (o :: rest) a W :=
 wpList_plain hgd fun _ hK => wp_appN ok s x ho base v n cs hs hown A m c news hx hl hA h1 hm hb fun v' w1 h1 h2 h3 => hK _ _ (h v' w1 h1 h2 h3)
theorem OwnR.of_block {g : Nat} {cur : Array Value} (h : w.heap[g]? = some (.cells cur K.e (0, 0))) (hb : base ≤ g) (hc : cur.size = n * K.size) (hn : n ≤ maxLen) : OwnR K w base (.slice (some ⟨g, 0, none⟩) n n) n cur.toList :=
 ⟨by simpa using hc, .inr ⟨g, n, cur, rfl, hb, h, Nat.le_refl _, hn, hc, by rw [List.take_of_length_le (by simp [hc])]⟩⟩
theorem OwnR.pop {g m cap : Nat} {cs' : List Value} (h : OwnR K w base (.slice (some ⟨g, 0, none⟩) (n + m) cap) (n + m) (cs ++ cs')) (hl : cs.length = n * K.size) : OwnR K w base (.slice (some ⟨g, 0, none⟩) n cap) n cs := by
 refine ⟨hl, .inr ?_⟩
 rcases h.2 with ⟨e, _⟩ | ⟨g', cap', cur, e, hb, hg, hle, hm, hs, ht⟩
 · cases e
 · injection e with e1 e2 e3
   injection e1 with e1
   injection e1 with e1
   subst e1; subst e3
   refine ⟨g, cap, cur, rfl, hb, hg, by omega, hm, hs, ?_⟩
   have h2 := congrArg (List.take (n * K.size)) ht
   rw [List.take_take, List.take_append_of_le_length (by omega), ← hl, List.take_length, Nat.min_eq_left (by rw [hl, Nat.add_mul]; omega)] at h2
   rw [← hl]; exact h2
end
section
variable {S S' : Nat → Prop} {w w' : World} {A : Option Addr}
theorem qt {b o : Nat} {u : Value} (h : KeepB S w w') (hb : S b) (hc : w.cell? ⟨b, o, none⟩ = some u) : w'.cell? ⟨b, o, none⟩ = some u := by
 obtain ⟨ob, ho, _⟩ := cells_of_cell hc
 rw [World.cell?_of_block (h.same b hb (Array.getElem?_eq_some_iff.1 ho).1)]
 exact hc
structure KeepC (S : Nat → Prop) (w w' : World) : Prop where
 size : w.heap.size ≤ w'.heap.size
 cell : ∀ k o v, S k → w.cell? ⟨k, o, none⟩ = some v → w'.cell? ⟨k, o, none⟩ = some v
theorem KeepC.of_cells (S : Nat → Prop) (hs : w.heap.size ≤ w'.heap.size) (h : ∀ (k : Nat) (o : Obj), w.heap[k]? = some o → o.isCells = true → w'.heap[k]? = some o) : KeepC S w w' :=
 ⟨hs, fun k o v _ hc => by
  obtain ⟨ob, ho, hcells⟩ := cells_of_cell hc
  rw [World.cell?_of_block ((h k ob ho hcells).trans ho.symm)]
  exact hc⟩
def IAtS (S : Nat → Prop) (w : World) (A : Option Addr) (xs : List Int) : Prop :=
 0 < xs.length → ∃ b off, A = some ⟨b, off, none⟩ ∧ S b ∧ b < w.heap.size ∧ ∀ (i : Nat) (hi : i < xs.length), w.cell? ⟨b, off + i, none⟩ = some (.int .i64 xs[i])
theorem IAtS.keep {xs : List Int} (h : IAtS S w A xs) (hk : KeepB S w w') : IAtS S w' A xs := fun h0 => by
 obtain ⟨b, off, e, hs, hb, hc⟩ := h h0
 exact ⟨b, off, e, hs, Nat.lt_of_lt_of_le hb hk.size, fun i hi => qt hk hs (hc i hi)⟩
theorem IAtS.keepC {xs : List Int} (h : IAtS S w A xs) (hk : KeepC S w w') : IAtS S w' A xs := fun h0 => by
 obtain ⟨b, off, e, hs, hb, hc⟩ := h h0
 exact ⟨b, off, e, hs, Nat.lt_of_lt_of_le hb hk.size, fun i hi => hk.cell _ _ _ hs (hc i hi)⟩
theorem IAtS.mono {xs : List Int} (h : IAtS S w A xs) (hm : ∀ k, k < w.heap.size → S k → S' k) : IAtS S' w A xs := fun h0 => by
 obtain ⟨b, off, e, hs, hb, hc⟩ := h h0
 exact ⟨b, off, e, hm b hb hs, hb, hc⟩
theorem IAtS.on {xs : List Int} (h : IAtS S w A xs) (hb : Below w.heap.size w w') : IAtS S w' A xs :=
 ((h.mono (S' := fun k => S k ∧ k < w.heap.size) fun _ hk hs => ⟨hs, hk⟩).keep ⟨hb.size, fun k hk _ => hb.block k hk.2⟩).mono fun _ _ hs => hs.1
theorem IAtS.iat {xs : List Int} (h : IAtS S w A xs) : IAt w w.heap.size A xs := fun h0 => by
 obtain ⟨b, off, e, hs, hb, hc⟩ := h h0
 exact ⟨b, off, e, hb, hc⟩
theorem IAtS.of_iat {xs : List Int} {B : Nat} (h : IAt w B A xs) (hB : B ≤ w.heap.size) (hS : ∀ k, k < B → S k) : IAtS S w A xs := fun h0 => by
 obtain ⟨b, off, e, hb, hc⟩ := h h0
 exact ⟨b, off, e, hS b hb, by omega, hc⟩
def RAtS (S : Nat → Prop) (w : World) (A : Option Addr) (rs : List Rd) : Prop :=
 0 < rs.length → ∃ b off, A = some ⟨b, off, none⟩ ∧ S b ∧ b < w.heap.size ∧ ∀ (i : Nat) (hi : i < rs.length) (k : Nat) (u : Value), rs[i].cells[k]? = some u → w.cell? ⟨b, off + i * 7 + k, none⟩ = some u
theorem RAtS.keep {xs : List Rd} (h : RAtS S w A xs) (hk : KeepB S w w') : RAtS S w' A xs := fun h0 => by
 obtain ⟨b, off, e, hs, hb, hc⟩ := h h0
 exact ⟨b, off, e, hs, Nat.lt_of_lt_of_le hb hk.size, fun i hi k u hu => qt hk hs (hc i hi k u hu)⟩
theorem RAtS.keepC {xs : List Rd} (h : RAtS S w A xs) (hk : KeepC S w w') : RAtS S w' A xs := fun h0 => by
 obtain ⟨b, off, e, hs, hb, hc⟩ := h h0
 exact ⟨b, off, e, hs, Nat.lt_of_lt_of_le hb hk.size, fun i hi k u hu => hk.cell _ _ _ hs (hc i hi k u hu)⟩
theorem RAtS.mono {xs : List Rd} (h : RAtS S w A xs) (hm : ∀ k, k < w.heap.size → S k → S' k) : RAtS S' w A xs := fun h0 => by
 obtain ⟨b, off, e, hs, hb, hc⟩ := h h0
 exact ⟨b, off, e, hm b hb hs, hb, hc⟩
theorem RAtS.on {xs : List Rd} (h : RAtS S w A xs) (hb : Below w.heap.size w w') : RAtS S w' A xs :=
 ((h.mono (S' := fun k => S k ∧ k < w.heap.size) fun _ hk hs => ⟨hs, hk⟩).keep ⟨hb.size, fun k hk _ => hb.block k hk.2⟩).mono fun _ _ hs => hs.1
theorem RAtS.rat {xs : List Rd} (h : RAtS S w A xs) : RAt w w.heap.size A xs := fun h0 => by
 obtain ⟨b, off, e, hs, hb, hc⟩ := h h0
 exact ⟨b, off, e, hb, hc⟩
theorem RAtS.nil (S : Nat → Prop) (w : World) (A : Option Addr) : RAtS S w A [] := fun h => absurd h (by simp)
def LAtS (S : Nat → Prop) (w : World) (A : Option Addr) (xss : List (List Int)) : Prop :=
 0 < xss.length → ∃ b off, A = some ⟨b, off, none⟩ ∧ S b ∧ b < w.heap.size ∧ ∀ (i : Nat) (hi : i < xss.length), ∃ A' c, w.cell? ⟨b, off + i, none⟩ = some (.slice A' xss[i].length c) ∧ IAtS S w A' xss[i]
theorem LAtS.keep {xs : List (List Int)} (h : LAtS S w A xs) (hk : KeepB S w w') : LAtS S w' A xs := fun h0 => by
 obtain ⟨b, off, e, hs, hb, hc⟩ := h h0
 refine ⟨b, off, e, hs, Nat.lt_of_lt_of_le hb hk.size, fun i hi => ?_⟩
 obtain ⟨A', c, h1, h2⟩ := hc i hi
 exact ⟨A', c, qt hk hs h1, h2.keep hk⟩
theorem LAtS.keepC {xs : List (List Int)} (h : LAtS S w A xs) (hk : KeepC S w w') : LAtS S w' A xs := fun h0 => by
 obtain ⟨b, off, e, hs, hb, hc⟩ := h h0
 refine ⟨b, off, e, hs, Nat.lt_of_lt_of_le hb hk.size, fun i hi => ?_⟩
 obtain ⟨A', c, h1, h2⟩ := hc i hi
 exact ⟨A', c, hk.cell _ _ _ hs h1, h2.keepC hk⟩
theorem LAtS.mono {xs : List (List Int)} (h : LAtS S w A xs) (hm : ∀ k, k < w.heap.size → S k → S' k) : LAtS S' w A xs := fun h0 => by
 obtain ⟨b, off, e, hs, hb, hc⟩ := h h0
 refine ⟨b, off, e, hm b hb hs, hb, fun i hi => ?_⟩
 obtain ⟨A', c, h1, h2⟩ := hc i hi
 exact ⟨A', c, h1, h2.mono hm⟩
theorem LAtS.on {xs : List (List Int)} (h : LAtS S w A xs) (hb : Below w.heap.size w w') : LAtS S w' A xs :=
 ((h.mono (S' := fun k => S k ∧ k < w.heap.size) fun _ hk hs => ⟨hs, hk⟩).keep ⟨hb.size, fun k hk _ => hb.block k hk.2⟩).mono fun _ _ hs => hs.1
theorem LAtS.lat {xs : List (List Int)} (h : LAtS S w A xs) : LAt w w.heap.size A xs := fun h0 => by
 obtain ⟨b, off, e, hs, hb, hc⟩ := h h0
 refine ⟨b, off, e, hb, fun i hi => ?_⟩
 obtain ⟨A', c, h1, h2⟩ := hc i hi
 exact ⟨A', c, h1, h2.iat⟩
theorem LAtS.of_lat {xs : List (List Int)} {B : Nat} (h : LAt w B A xs) (hB : B ≤ w.heap.size) (hS : ∀ k, k < B → S k) : LAtS S w A xs := fun h0 => by
 obtain ⟨b, off, e, hb, hc⟩ := h h0
 refine ⟨b, off, e, hS b hb, by omega, fun i hi => ?_⟩
 obtain ⟨A', c, h1, h2⟩ := hc i hi
 exact ⟨A', c, h1, IAtS.of_iat h2 hB hS⟩
theorem LAtS.nil (S : Nat → Prop) (w : World) (A : Option Addr) : LAtS S w A [] := fun h => absurd h (by simp)
def MAtS (S : Nat → Prop) (w : World) (A : Option Addr) (ms : List Mv) : Prop :=
 0 < ms.length → ∃ b off, A = some ⟨b, off, none⟩ ∧ S b ∧ b < w.heap.size ∧ ∀ (i : Nat) (hi : i < ms.length) (k : Nat) (u : Value), ms[i].cells[k]? = some u → w.cell? ⟨b, off + i * 8 + k, none⟩ = some u
theorem MAtS.keep {xs : List Mv} (h : MAtS S w A xs) (hk : KeepB S w w') : MAtS S w' A xs := fun h0 => by
 obtain ⟨b, off, e, hs, hb, hc⟩ := h h0
 exact ⟨b, off, e, hs, Nat.lt_of_lt_of_le hb hk.size, fun i hi k u hu => qt hk hs (hc i hi k u hu)⟩
theorem MAtS.keepC {xs : List Mv} (h : MAtS S w A xs) (hk : KeepC S w w') : MAtS S w' A xs := fun h0 => by
 obtain ⟨b, off, e, hs, hb, hc⟩ := h h0
 exact ⟨b, off, e, hs, Nat.lt_of_lt_of_le hb hk.size, fun i hi k u hu => hk.cell _ _ _ hs (hc i hi k u hu)⟩
theorem MAtS.mono {xs : List Mv} (h : MAtS S w A xs) (hm : ∀ k, k < w.heap.size → S k → S' k) : MAtS S' w A xs := fun h0 => by
 obtain ⟨b, off, e, hs, hb, hc⟩ := h h0
 exact ⟨b, off, e, hm b hb hs, hb, hc⟩
theorem MAtS.mat {xs : List Mv} (h : MAtS S w A xs) : MAt w w.heap.size A xs := fun h0 => by
 obtain ⟨b, off, e, hs, hb, hc⟩ := h h0
 exact ⟨b, off, e, hb, hc⟩
theorem MAtS.of_mat {xs : List Mv} {B : Nat} (h : MAt w B A xs) (hB : B ≤ w.heap.size) (hS : ∀ k, k < B → S k) : MAtS S w A xs := fun h0 => by
 obtain ⟨b, off, e, hb, hc⟩ := h h0
 exact ⟨b, off, e, hS b hb, by omega, hc⟩
end
structure Ct (α : Type) where
 K : Kd
 lies : (Nat → Prop) → World → List Value → α → Prop
structure CtOk {α : Type} (C : Ct α) : Prop where
 len : ∀ {S w cs x}, C.lies S w cs x → cs.length = C.K.size
 one : ∀ {S w cs x}, C.lies S w cs x → ∀ u ∈ cs, u.oneCell' = true
 keep : ∀ {S w w' cs x}, C.lies S w cs x → KeepB S w w' → C.lies S w' cs x
 keepC : ∀ {S w w' cs x}, C.lies S w cs x → KeepC S w w' → C.lies S w' cs x
 mono : ∀ {S S' w cs x}, C.lies S w cs x → (∀ k, k < w.heap.size → S k → S' k) → C.lies S' w cs x
def OwnX {α : Type} (C : Ct α) (S : Nat → Prop) (w : World) (base : Nat) (v : Value) (xs : List α) : Prop :=
 ∃ css : List (List Value), css.length = xs.length ∧ OwnR C.K w base v xs.length css.flatten ∧ ∀ (i : Nat) (h1 : i < css.length) (h2 : i < xs.length), C.lies (fun k => S k ∧ v.ownBlock ≠ some k) w css[i] xs[i]
theorem ws {s : Nat} : ∀ (css : List (List Value)) (_ : ∀ c ∈ css, c.length = s) (i : Nat) (hi : i < css.length) (k : Nat), k < s → css.flatten[i * s + k]? = css[i][k]?
 | c :: css, h, 0, hi, k, hk => by
  have := h c (by simp)
  rw [List.flatten_cons, List.getElem?_append_left (by omega)]
  simp
 | c :: css, h, i + 1, hi, k, hk => by
  have hc := h c (by simp)
  have := ws css (fun d hd => h d (by simp [hd])) i (by simpa using hi) k hk
  rw [List.flatten_cons, List.getElem?_append_right (by rw [hc, Nat.add_mul]; omega), hc, show (i + 1) * s + k - s = i * s + k by rw [Nat.add_mul]; omega, this]
  rfl
section
variable {α : Type} {C : Ct α} {S S' : Nat → Prop} {w w' : World} {base : Nat} {v : Value} {xs : List α}
theorem OwnX.nil (C : Ct α) (S : Nat → Prop) (w : World) (base : Nat) : OwnX C S w base (.slice none 0 0) [] := ⟨[], rfl, OwnR.nil _ _ _, fun i h1 _ => absurd h1 (by simp)⟩
theorem OwnX.lt (h : OwnX C S w base v xs) : ∀ k, v.ownBlock = some k → base ≤ k ∧ k < w.heap.size := by
 obtain ⟨css, _, h2, _⟩ := h
 exact h2.lt
theorem OwnX.ne {b : Nat} (h : OwnX C S w base v xs) (hb : b < base) : v.ownBlock ≠ some b := fun e => by
 have := (h.lt b e).1
 omega
theorem OwnX.kept (ok : CtOk C) {row : Option Nat} (h : OwnX C S w base v xs) (hg : w.grownBy w' row) (hne : v.ownBlock = none ∨ v.ownBlock ≠ row) (hS : ∀ k, row = some k → ¬ S k ∨ v.ownBlock = some k) : OwnX C S w' base v xs := by
 obtain ⟨css, hl, h2, h3⟩ := h
 refine ⟨css, hl, h2.kept hg hne, fun i i1 i2 => ok.keep (h3 i i1 i2) (KeepB.of_grown hg fun k hk hs => ?_)⟩
 rcases hS k hk with h | h
 · exact h hs.1
 · exact hs.2 h
theorem OwnX.keep (ok : CtOk C) (h : OwnX C S w base v xs) (hk : KeepB S w w') (hv : ∀ k, v.ownBlock = some k → w'.heap[k]? = w.heap[k]?) : OwnX C S w' base v xs := by
 obtain ⟨css, hl, h2, h3⟩ := h
 refine ⟨css, hl, ?_, fun i i1 i2 => ok.keep (h3 i i1 i2) (hk.mono fun k hk => hk.1)⟩
 refine ⟨h2.1, ?_⟩
 rcases h2.2 with hn | ⟨g, cap, cur, hv', hb, hg, rest⟩
 · exact .inl hn
 · exact .inr ⟨g, cap, cur, hv', hb, (hv g (by rw [hv']; rfl)).trans hg, rest⟩
theorem OwnX.turn (ok : CtOk C) (h : OwnX C S w base v xs) (hs : w.heap.size ≤ w'.heap.size) (hc : ∀ (k : Nat) (o : Obj), w.heap[k]? = some o → o.isCells = true → w'.heap[k]? = some o) : OwnX C S w' base v xs := by
 obtain ⟨css, hl, h2, h3⟩ := h
 refine ⟨css, hl, ?_, fun i i1 i2 => ok.keepC (h3 i i1 i2) (KeepC.of_cells _ hs hc)⟩
 refine ⟨h2.1, ?_⟩
 rcases h2.2 with hn | ⟨g, cap, cur, hv', hb, hg, rest⟩
 · exact .inl hn
 · exact .inr ⟨g, cap, cur, hv', hb, hc g _ hg rfl, rest⟩
theorem OwnX.below (ok : CtOk C) {B : Nat} (h : OwnX C S w base v xs) (hb : Below B w w') (hB : w.heap.size ≤ B) : OwnX C S w' base v xs :=
 h.keep ok ⟨hb.size, fun k _ hk => hb.block k (by omega)⟩ (fun k hk => hb.block k (by have := (h.lt k hk).2; omega))
theorem OwnX.mono (ok : CtOk C) (h : OwnX C S w base v xs) (hm : ∀ k, k < w.heap.size → S k → S' k) : OwnX C S' w base v xs := by
 obtain ⟨css, hl, h2, h3⟩ := h
 exact ⟨css, hl, h2, fun i i1 i2 => ok.mono (h3 i i1 i2) fun k hk hs => ⟨hm k hk hs.1, hs.2⟩⟩
theorem OwnX.low {base' : Nat} (h : OwnX C S w base v xs) (hb : base' ≤ base) : OwnX C S w base' v xs := by
 obtain ⟨css, hl, h2, h3⟩ := h
 exact ⟨css, hl, h2.low hb, h3⟩
theorem OwnX.app (ok : CtOk C) {g' cap : Nat} {css : List (List Value)} {x : α} {cs : List Value} (hl : css.length = xs.length) (h3 : ∀ (i : Nat) (h1 : i < css.length) (h2 : i < xs.length), C.lies (fun k => S k ∧ v.ownBlock ≠ some k) w css[i] xs[i])
  (hx : C.lies (fun k => S k ∧ v.ownBlock ≠ some k) w cs x) (hr : OwnR C.K w' base (.slice (some ⟨g', 0, none⟩) (xs.length + 1) cap) (xs.length + 1) (css.flatten ++ cs)) (hg : w.grownBy w' v.ownBlock) (hat : v.ownBlock = some g' ∨ g' = w.heap.size) :
  OwnX C S w' base (.slice (some ⟨g', 0, none⟩) (xs.length + 1) cap) (xs ++ [x]) := by
 have go : ∀ {cs x}, C.lies (fun k => S k ∧ v.ownBlock ≠ some k) w cs x → C.lies (fun k => S k ∧ (Value.slice (some ⟨g', 0, none⟩) (xs.length + 1) cap).ownBlock ≠ some k) w' cs x := fun h => by
  have h1 := ok.mono (S' := fun k => S k ∧ v.ownBlock ≠ some k ∧ g' ≠ k) h fun k hk hs => ⟨hs.1, hs.2, by
   rcases hat with e | e
   · rintro rfl; exact hs.2 e
   · omega⟩
  have h2 := ok.keep h1 (KeepB.of_grown hg fun k hk hs => hs.2.1 hk)
  exact ok.mono h2 fun k _ hs => ⟨hs.1, fun e => hs.2.2 (by simpa [Value.ownBlock] using e)⟩
 refine ⟨css ++ [cs], by simp [hl], by simpa using hr, fun i i1 i2 => ?_⟩
 by_cases hi : i < css.length
 · have h2 : i < xs.length := by omega
   rw [List.getElem_append_left hi, List.getElem_append_left h2]
   exact go (h3 i hi h2)
 · have e1 : i = css.length := by simp at i1; omega
   subst e1
   rw [List.getElem_append_right (Nat.le_refl _), List.getElem_append_right (by omega)]
   simpa [hl] using go hx
theorem OwnX.form (ok : CtOk C) (h : OwnX C S w base v xs) : ∃ A cap, v = .slice A xs.length cap ∧ xs.length ≤ cap ∧ cap ≤ maxLen ∧ (0 < xs.length → ∃ g, A = some ⟨g, 0, none⟩ ∧ base ≤ g ∧ g < w.heap.size ∧
  ∀ (i : Nat) (h2 : i < xs.length), ∃ cs, C.lies (fun k => S k ∧ k ≠ g) w cs xs[i] ∧ ∀ j u, cs[j]? = some u → w.cell? ⟨g, i * C.K.size + j, none⟩ = some u) := by
 obtain ⟨css, hl, h2, h3⟩ := h
 have hlt := h2.lt
 obtain ⟨A, cap, rfl, hc, hm, hr⟩ := h2.form
 refine ⟨A, cap, rfl, hc, hm, fun h0 => ?_⟩
 obtain ⟨g, rfl, hg, hgl, hcl⟩ := hr h0
 refine ⟨g, rfl, (hlt g hg).1, hgl, fun i hi => ?_⟩
 have hic : i < css.length := by omega
 refine ⟨css[i], ok.mono (h3 i hic hi) fun k _ hs => ⟨hs.1, fun e => hs.2 (by rw [hg, e])⟩, fun j u hu => ?_⟩
 have hcs : ∀ c ∈ css, c.length = C.K.size := fun c hc => by
  obtain ⟨m, hm, rfl⟩ := List.getElem_of_mem hc
  exact ok.len (h3 m hm (by omega))
 have hjl : j < C.K.size := by
  have := (List.getElem?_eq_some_iff.1 hu).1
  rw [hcs _ (List.getElem_mem hic)] at this
  exact this
 exact hcl _ u (by rw [ws css hcs i hic j hjl]; exact hu)
end
end
section
open Go.RowKit
def Own (w : World) (base : Nat) (v : Value) (xs : List Int) : Prop := w.ownsRow base 3 1 v xs.length (xs.map (Value.int .i64))
theorem Own.nil (w : World) (base : Nat) : Own w base (.slice none 0 0) [] := World.ownsRow_nil w base _ 1
theorem Own.kept {w w' : World} {base : Nat} {v : Value} {xs : List Int} {row : Option Nat} (h : Own w base v xs) (hg : w.grownBy w' row) (hne : v.ownBlock = none ∨ v.ownBlock ≠ row) : Own w' base v xs := World.ownsRow.kept h hg hne
theorem Own.alloc {w : World} {base : Nat} {v : Value} {xs : List Int} (h : Own w base v xs) (o : Obj) : Own (w.alloc o) base v xs := World.ownsRow.alloc h o
theorem Own.below {w w' : World} {base B : Nat} {v : Value} {xs : List Int} (h : Own w base v xs) (hb : Below B w w') (hB : w.heap.size ≤ B) : Own w' base v xs :=
 World.ownsRow.kept (row := none) h ⟨hb.os, hb.tape, hb.output, hb.size, fun k hk _ => hb.block k (by omega)⟩ (by cases v.ownBlock <;> simp)
theorem Own.shut {w w' : World} {base B : Nat} {v : Value} {xs : List Int} (h : Own w base v xs) (hs : Shut B w w') : Own w' base v xs := hs.own h
theorem Own.form {w : World} {base : Nat} {v : Value} {xs : List Int} (h : Own w base v xs) : ∃ A cap, v = .slice A xs.length cap ∧ xs.length ≤ cap ∧ cap ≤ maxLen ∧ IAt w w.heap.size A xs := by
 rcases h.2 with ⟨rfl, h0⟩ | ⟨g, cap, cur, rfl, _, _, hle, hcm, _⟩
 · have : xs = [] := List.eq_nil_of_length_eq_zero h0
   subst this
   exact ⟨none, 0, rfl, Nat.le_refl _, Nat.zero_le _, IAt.nil _ _ _⟩
 · exact ⟨_, _, rfl, hle, hcm, IAt.of_own h⟩
theorem Own.low {w : World} {base base' : Nat} {v : Value} {xs : List Int} (h : Own w base v xs) (hb : base' ≤ base) : Own w base' v xs := by
 refine ⟨h.1, ?_⟩
 rcases h.2 with h2 | ⟨g, cap, cur, hv, hg, r⟩
 · exact Or.inl h2
 · exact Or.inr ⟨g, cap, cur, hv, by omega, r⟩
theorem Own.lt {w : World} {base : Nat} {v : Value} {xs : List Int} (h : Own w base v xs) : ∀ k, v.ownBlock = some k → base ≤ k ∧ k < w.heap.size := World.ownsRow.lt h
theorem gI : (Tryz.prog.info? 3).map (fun i => (i.zero, i.size, i.bytes)) = some (some (.int .i64 0), 1, 8) := by kernel_rfl
theorem yH {w w' : World} {o : Obj} {row : Option Nat} (h : (w.alloc o).grownBy w' row) : w.grownBy w' row :=
 ⟨h.os, h.tape, h.output, Nat.le_trans (by simp) h.size, fun k hk hne => (h.block k (by simp; omega) hne).trans (Below.heap_alloc w o k hk)⟩
theorem kV {ops : Array Oper} {rest : List Oper} {o : Oper} {a : Act} {Q : Exit → Act → World → Prop} {W : World} (hgd : o.guard = none) (s x : Operand)
  (hop : o.op = .call { callee := .builtin .append, args := #[s, x], argTypes := #[38, 38] }) (base : Nat) (v : Value) (xs : List Int) (u : Int) (hs : a.eval s = v) (hown : Own W base v xs)
  (hx : a.eval x = .slice (some ⟨W.heap.size, 0, none⟩) 1 1) (hlen : xs.length < 8796093022208) (hb : base ≤ W.heap.size)
  (h : ∀ v' w1, Own w1 base v' (xs ++ [u]) → W.grownBy w1 v.ownBlock → Below base W w1 → wpList Tryz.prog ops Q rest (a.put o.dst v') w1) :
  wpList Tryz.prog ops Q (o :: rest) a (W.alloc (.cells #[.int .i64 u] 3)) := by
 obtain ⟨i0, hi, hz0, hz1, hz2⟩ := info_parts gI
 refine wpList_append_own _ hgd s x 38 hop base 3 i0 (.int .i64 0) 1 8 Tryz.underlying38 hi hz0 hz1 hz2 rfl (by decide) v xs.length _ hs (World.ownsRow.alloc hown _) ⟨W.heap.size, 0, none⟩ 1 1 [.int .i64 u] hx rfl (cell_one_new _ _ _)
  (by simp [Value.oneCell']) (by unfold maxLen; omega) (by omega) (by simp; omega) ?_
 intro v' w1 hown1 hgrow _
 have hg := yH hgrow
 refine h v' w1 ?_ hg ((Below.refl base W).grown hg hb fun k hk => (hown.lt k hk).1)
 unfold Own
 rw [List.length_append, List.map_append]
 exact hown1
theorem jG {F : Fence} {n : Nat} {ops : Array Oper} {rest : List Oper} {o : Oper} {a : Act} {Q : Exit → Act → World → Prop} {W : World} (hgd : o.guard = none) (s x : Operand)
  (hop : o.op = .call { callee := .builtin .append, args := #[s, x], argTypes := #[38, 38] }) (base : Nat) (v : Value) (xs : List Int) (u : Int) (hs : a.eval s = v) (hown : Own W base v xs)
  (hx : a.eval x = .slice (some ⟨W.heap.size, 0, none⟩) 1 1) (hlen : xs.length < 8796093022208) (hb : base ≤ W.heap.size)
  (h : ∀ v' w1, Own w1 base v' (xs ++ [u]) → W.grownBy w1 v.ownBlock → Below base W w1 → wpListIn F n Tryz.prog ops Q rest (a.put o.dst v') w1) :
  wpListIn F n Tryz.prog ops Q (o :: rest) a (W.alloc (.cells #[.int .i64 u] 3)) := by
 obtain ⟨i0, hi, hz0, hz1, hz2⟩ := info_parts gI
 refine wpListIn_append_own _ hgd s x 38 hop base 3 i0 (.int .i64 0) 1 8 Tryz.underlying38 hi hz0 hz1 hz2 rfl (by decide) v xs.length _ hs (World.ownsRow.alloc hown _) ⟨W.heap.size, 0, none⟩ 1 1 [.int .i64 u] hx rfl (cell_one_new _ _ _)
  (by simp [Value.oneCell']) (by unfold maxLen; omega) (by omega) (by simp; omega) ?_
 intro v' w1 hown1 hgrow _
 have hg := yH hgrow
 refine h v' w1 ?_ hg ((Below.refl base W).grown hg hb fun k hk => (hown.lt k hk).1)
 unfold Own
 rw [List.length_append, List.map_append]
 exact hown1
theorem IAt.up {w w' : World} {A : Option Addr} {xs : List Int} (h : IAt w w.heap.size A xs) (hb : Below w.heap.size w w') : IAt w' w'.heap.size A xs := (h.keep hb).more hb.size
end
section
open Go.RowKit
def RowAt (w : World) (g : Nat) (xs : List Int) : Prop := w.heap[g]? = some (.cells (xs.map (Value.int .i64)).toArray 3 (0, 0))
theorem RowAt.cell {w : World} {g : Nat} {xs : List Int} (h : RowAt w g xs) (k : Nat) (hk : k < xs.length) : w.cell? ⟨g, k, none⟩ = some (.int .i64 xs[k]) := za h k (by simp [hk])
theorem RowAt.froz {w : World} {g : Nat} {xs : List Int} (h : RowAt w g xs) (k : Nat) : w.frozen? ⟨g, k, none⟩ = false := zb h k
theorem RowAt.lt {w : World} {g : Nat} {xs : List Int} (h : RowAt w g xs) : g < w.heap.size := zd h
theorem RowAt.set {w : World} {g : Nat} {xs : List Int} (h : RowAt w g xs) (k : Nat) (u : Int) : RowAt (w.setCell ⟨g, k, none⟩ (.int .i64 u)) g (xs.set k u) := by
 unfold RowAt at *
 rw [World.setCell, Array.getElem?_modify, if_pos rfl, h]
 simp [List.map_set]
theorem zi (w : World) (c1 : Array Value) (t1 : TypeId) : ∃ W0, w.alloc (.cells c1 t1) = W0 ∧ W0.heap[w.heap.size]? = some (.cells c1 t1 (0, 0)) ∧ W0.heap.size = w.heap.size + 1 ∧ Below w.heap.size w W0 :=
 ⟨_, rfl, zh _ _, by simp, zI w _⟩
theorem yc (w : World) (g k : Nat) (v' : Value) : w.grownBy (w.setCell ⟨g, k, none⟩ v') (some g) :=
 ⟨rfl, rfl, rfl, by simp [World.setCell], fun j _ hj => Below.heap_setCell w ⟨g, k, none⟩ v' j (fun e => hj (by rw [e]))⟩
end
section
open Go.RowKit
def kRd : Kd := ⟨172, 91, 7, 56, .agg #[.int .i64 0, .int .i64 0, .int .i64 0, .int .i64 0, .int .i64 0, .int .i64 0, .int .i64 0]⟩
theorem Yu : KdOk Tryz.prog kRd := ⟨Tryz.underlying91, by kernel_rfl, by rfl, by decide, by decide⟩
def kMv : Kd := ⟨200, 198, 8, 64, .agg #[.int .i64 0, .int .i64 0, .int .i64 0, .int .i64 0, .int .i64 0, .int .i64 0, .int .i64 0, .int .i64 0]⟩
theorem kMv_ok : KdOk Tryz.prog kMv := ⟨Tryz.underlying198, by kernel_rfl, by rfl, by decide, by decide⟩
def kWd : Kd := ⟨91, 209, 1, 24, .slice none 0 0⟩
theorem QM : KdOk Tryz.prog kWd := ⟨Tryz.underlying209, by kernel_rfl, by rfl, by decide, by decide⟩
def kIs : Kd := ⟨38, 92, 1, 24, .slice none 0 0⟩
theorem Yv : KdOk Tryz.prog kIs := ⟨Tryz.underlying92, by kernel_rfl, by rfl, by decide, by decide⟩
def kMl : Kd := ⟨198, 25, 1, 24, .slice none 0 0⟩
theorem kMl_ok : KdOk Tryz.prog kMl := ⟨Tryz.underlying25, by kernel_rfl, by rfl, by decide, by decide⟩
def kCs : Kd := ⟨168, 22, 3, 72, .agg #[.slice none 0 0, .slice none 0 0, .slice none 0 0]⟩
theorem kCs_ok : KdOk Tryz.prog kCs := ⟨Tryz.underlying22, by kernel_rfl, by rfl, by decide, by decide⟩
def kXn : Kd := ⟨94, 33, 3, 56, .agg #[.int .i64 0, .slice none 0 0, .slice none 0 0]⟩
theorem kXn_ok : KdOk Tryz.prog kXn := ⟨Tryz.underlying33, by kernel_rfl, by rfl, by decide, by decide⟩
def kIn : Kd := ⟨3, 38, 1, 8, .int .i64 0⟩
theorem gH : KdOk Tryz.prog kIn := ⟨Tryz.underlying38, by kernel_rfl, by rfl, by decide, by decide⟩
def kVw : Kd := ⟨224, 30, 8, 64, .agg #[.int .i64 0, .int .i64 0, .int .i64 0, .int .i64 0, .int .i64 0, .int .i64 0, .int .i64 0, .int .i64 0]⟩
theorem kVw_ok : KdOk Tryz.prog kVw := ⟨Tryz.underlying30, by kernel_rfl, by rfl, by decide, by decide⟩
def RetR (K : Kd) (n : Nat) (cs : List Value) (w : World) (e : Ending) (w' : World) : Prop := ∃ v, e = .returned v ∧ OwnR K w' w.heap.size v n cs ∧ Below w.heap.size w w'
set_option maxRecDepth 100000 in
theorem ZV (A : Option Addr) (n cap : Nat) (cs : List Value) (w : World) (hl : cs.length = n * 7) (hA : Raw w A n cs) (h1 : ∀ u ∈ cs, u.oneCell' = true) (hn : n ≤ 1000000) :
  Calls Tryz.prog 138 #[.slice A n cap] w (RetR kRd n cs w) := by
 have HT := zH hA
 have H1 := zH h1
 have HL := zH hl
 clear hA h1 hl
 have q : ∀ (w : World) (a : Option Addr) (n c n' c' : Nat), (binOp .eql 91 (.slice a n c) (.slice none n' c')).run Tryz.prog w = .ok (.bool a.isNone) w := fun w a n c n' c' => Lib.run_eql_slice_nil w _ _ a n c n' c' Tryz.underlying91
 obtain ⟨i0, hi, hz0, hz1, hz2⟩ := yz Yu
 cases A with
 | none =>
  have hvs : n = 0 := by
   rcases Nat.eq_zero_or_pos n with h | h
   · exact h
   · obtain ⟨b, off, e, _⟩ := HT.out h; cases e
  subst hvs
  have hcs : cs = [] := List.eq_nil_of_length_eq_zero (by have := HL.out; omega)
  subst hcs
  go_enter Tryz.func138, Tryz.ntmps138
  go_wp2
  go_ret
  exact ⟨_, rfl, OwnR.nil _ _ _, Below.refl _ _⟩
 | some ad =>
  have HC : Hid (∀ (j : Nat) (u : Value), cs[j]? = some u → (w.alloc (.cells #[] 172)).cell? (ad.add j) = some u) := fun j u hj => by
   have hjl : j < n * 7 := by rw [← HL.out]; exact (List.getElem?_eq_some_iff.1 hj).1
   obtain ⟨b, off, e, hlt, hc⟩ := HT.out (by omega)
   cases e
   rw [Addr.add_lit]
   exact Lib.cell?_alloc_some _ (hc j u hj)
  go_enter Tryz.func138, Tryz.ntmps138
  go_wp2_with (at_builtin; refine wpList_append_own _ rfl _ _ 91 rfl w.heap.size 172 i0 _ 7 56 Tryz.underlying91 hi hz0 hz1 hz2 rfl (by decide) _ _ _ rfl (World.ownsRow_made w #[] 0 (Nat.le_refl _) (Nat.zero_le _) rfl) ad n cap cs rfl HL.out HC.out H1.out ?qc4 ?qc5 ?qc6 ?_)
  case qc4 => unfold maxLen; omega
  case qc5 => omega
  case qc6 => simp
  intro v' w1 hown hgrow hnil
  go_wp2
  go_ret
  refine ⟨v', rfl, hown, ?_⟩
  exact ((Below.refl _ w).alloc (Nat.le_refl _) _).grown hgrow (by simp) (by intro k hk; simp [Value.ownBlock] at hk; omega)
set_option maxRecDepth 100000 in
theorem clone_kCs (A : Option Addr) (n cap : Nat) (cs : List Value) (w : World) (hl : cs.length = n * 3) (hA : Raw w A n cs) (h1 : ∀ u ∈ cs, u.oneCell' = true) (hn : n ≤ 1000000) :
  Calls Tryz.prog 168 #[.slice A n cap] w (RetR kCs n cs w) := by
 have HT := zH hA
 have H1 := zH h1
 have HL := zH hl
 clear hA h1 hl
 have q : ∀ (w : World) (a : Option Addr) (n c n' c' : Nat), (binOp .eql 22 (.slice a n c) (.slice none n' c')).run Tryz.prog w = .ok (.bool a.isNone) w := fun w a n c n' c' => Lib.run_eql_slice_nil w _ _ a n c n' c' Tryz.underlying22
 obtain ⟨i0, hi, hz0, hz1, hz2⟩ := yz kCs_ok
 cases A with
 | none =>
  have hvs : n = 0 := by
   rcases Nat.eq_zero_or_pos n with h | h
   · exact h
   · obtain ⟨b, off, e, _⟩ := HT.out h; cases e
  subst hvs
  have hcs : cs = [] := List.eq_nil_of_length_eq_zero (by have := HL.out; omega)
  subst hcs
  go_enter Tryz.func168, Tryz.ntmps168
  go_wp2
  go_ret
  exact ⟨_, rfl, OwnR.nil _ _ _, Below.refl _ _⟩
 | some ad =>
  have HC : Hid (∀ (j : Nat) (u : Value), cs[j]? = some u → (w.alloc (.cells #[] 168)).cell? (ad.add j) = some u) := fun j u hj => by
   have hjl : j < n * 3 := by rw [← HL.out]; exact (List.getElem?_eq_some_iff.1 hj).1
   obtain ⟨b, off, e, hlt, hc⟩ := HT.out (by omega)
   cases e
   rw [Addr.add_lit]
   exact Lib.cell?_alloc_some _ (hc j u hj)
  go_enter Tryz.func168, Tryz.ntmps168
  go_wp2_with (at_builtin; refine wpList_append_own _ rfl _ _ 22 rfl w.heap.size 168 i0 _ 3 72 Tryz.underlying22 hi hz0 hz1 hz2 rfl (by decide) _ _ _ rfl (World.ownsRow_made w #[] 0 (Nat.le_refl _) (Nat.zero_le _) rfl) ad n cap cs rfl HL.out HC.out H1.out ?qc4 ?qc5 ?qc6 ?_)
  case qc4 => unfold maxLen; omega
  case qc5 => omega
  case qc6 => simp
  intro v' w1 hown hgrow hnil
  go_wp2
  go_ret
  refine ⟨v', rfl, hown, ?_⟩
  exact ((Below.refl _ w).alloc (Nat.le_refl _) _).grown hgrow (by simp) (by intro k hk; simp [Value.ownBlock] at hk; omega)
set_option maxRecDepth 100000 in
theorem clone_kMv (A : Option Addr) (n cap : Nat) (cs : List Value) (w : World) (hl : cs.length = n * 8) (hA : Raw w A n cs) (h1 : ∀ u ∈ cs, u.oneCell' = true) (hn : n ≤ 1000000) :
  Calls Tryz.prog 171 #[.slice A n cap] w (RetR kMv n cs w) := by
 have HT := zH hA
 have H1 := zH h1
 have HL := zH hl
 clear hA h1 hl
 have q : ∀ (w : World) (a : Option Addr) (n c n' c' : Nat), (binOp .eql 198 (.slice a n c) (.slice none n' c')).run Tryz.prog w = .ok (.bool a.isNone) w := fun w a n c n' c' => Lib.run_eql_slice_nil w _ _ a n c n' c' Tryz.underlying198
 obtain ⟨i0, hi, hz0, hz1, hz2⟩ := yz kMv_ok
 cases A with
 | none =>
  have hvs : n = 0 := by
   rcases Nat.eq_zero_or_pos n with h | h
   · exact h
   · obtain ⟨b, off, e, _⟩ := HT.out h; cases e
  subst hvs
  have hcs : cs = [] := List.eq_nil_of_length_eq_zero (by have := HL.out; omega)
  subst hcs
  go_enter Tryz.func171, Tryz.ntmps171
  go_wp2
  go_ret
  exact ⟨_, rfl, OwnR.nil _ _ _, Below.refl _ _⟩
 | some ad =>
  have HC : Hid (∀ (j : Nat) (u : Value), cs[j]? = some u → (w.alloc (.cells #[] 200)).cell? (ad.add j) = some u) := fun j u hj => by
   have hjl : j < n * 8 := by rw [← HL.out]; exact (List.getElem?_eq_some_iff.1 hj).1
   obtain ⟨b, off, e, hlt, hc⟩ := HT.out (by omega)
   cases e
   rw [Addr.add_lit]
   exact Lib.cell?_alloc_some _ (hc j u hj)
  go_enter Tryz.func171, Tryz.ntmps171
  go_wp2_with (at_builtin; refine wpList_append_own _ rfl _ _ 198 rfl w.heap.size 200 i0 _ 8 64 Tryz.underlying198 hi hz0 hz1 hz2 rfl (by decide) _ _ _ rfl (World.ownsRow_made w #[] 0 (Nat.le_refl _) (Nat.zero_le _) rfl) ad n cap cs rfl HL.out HC.out H1.out ?qc4 ?qc5 ?qc6 ?_)
  case qc4 => unfold maxLen; omega
  case qc5 => omega
  case qc6 => simp
  intro v' w1 hown hgrow hnil
  go_wp2
  go_ret
  refine ⟨v', rfl, hown, ?_⟩
  exact ((Below.refl _ w).alloc (Nat.le_refl _) _).grown hgrow (by simp) (by intro k hk; simp [Value.ownBlock] at hk; omega)
set_option maxRecDepth 100000 in
theorem clone_kMl (A : Option Addr) (n cap : Nat) (cs : List Value) (w : World) (hl : cs.length = n * 1) (hA : Raw w A n cs) (h1 : ∀ u ∈ cs, u.oneCell' = true) (hn : n ≤ 1000000) :
  Calls Tryz.prog 170 #[.slice A n cap] w (RetR kMl n cs w) := by
 have HT := zH hA
 have H1 := zH h1
 have HL := zH hl
 clear hA h1 hl
 have q : ∀ (w : World) (a : Option Addr) (n c n' c' : Nat), (binOp .eql 25 (.slice a n c) (.slice none n' c')).run Tryz.prog w = .ok (.bool a.isNone) w := fun w a n c n' c' => Lib.run_eql_slice_nil w _ _ a n c n' c' Tryz.underlying25
 obtain ⟨i0, hi, hz0, hz1, hz2⟩ := yz kMl_ok
 cases A with
 | none =>
  have hvs : n = 0 := by
   rcases Nat.eq_zero_or_pos n with h | h
   · exact h
   · obtain ⟨b, off, e, _⟩ := HT.out h; cases e
  subst hvs
  have hcs : cs = [] := List.eq_nil_of_length_eq_zero (by have := HL.out; omega)
  subst hcs
  go_enter Tryz.func170, Tryz.ntmps170
  go_wp2
  go_ret
  exact ⟨_, rfl, OwnR.nil _ _ _, Below.refl _ _⟩
 | some ad =>
  have HC : Hid (∀ (j : Nat) (u : Value), cs[j]? = some u → (w.alloc (.cells #[] 198)).cell? (ad.add j) = some u) := fun j u hj => by
   have hjl : j < n * 1 := by rw [← HL.out]; exact (List.getElem?_eq_some_iff.1 hj).1
   obtain ⟨b, off, e, hlt, hc⟩ := HT.out (by omega)
   cases e
   rw [Addr.add_lit]
   exact Lib.cell?_alloc_some _ (hc j u hj)
  go_enter Tryz.func170, Tryz.ntmps170
  go_wp2_with (at_builtin; refine wpList_append_own _ rfl _ _ 25 rfl w.heap.size 198 i0 _ 1 24 Tryz.underlying25 hi hz0 hz1 hz2 rfl (by decide) _ _ _ rfl (World.ownsRow_made w #[] 0 (Nat.le_refl _) (Nat.zero_le _) rfl) ad n cap cs rfl HL.out HC.out H1.out ?qc4 ?qc5 ?qc6 ?_)
  case qc4 => unfold maxLen; omega
  case qc5 => omega
  case qc6 => simp
  intro v' w1 hown hgrow hnil
  go_wp2
  go_ret
  refine ⟨v', rfl, hown, ?_⟩
  exact ((Below.refl _ w).alloc (Nat.le_refl _) _).grown hgrow (by simp) (by intro k hk; simp [Value.ownBlock] at hk; omega)
set_option maxRecDepth 100000 in
theorem ZW (A : Option Addr) (n cap : Nat) (cs : List Value) (w : World) (hl : cs.length = n * 1) (hA : Raw w A n cs) (h1 : ∀ u ∈ cs, u.oneCell' = true) (hn : n ≤ 1000000) :
  Calls Tryz.prog 129 #[.slice A n cap] w (RetR kIn n cs w) := by
 have HT := zH hA
 have H1 := zH h1
 have HL := zH hl
 clear hA h1 hl
 have q : ∀ (w : World) (a : Option Addr) (n c n' c' : Nat), (binOp .eql 38 (.slice a n c) (.slice none n' c')).run Tryz.prog w = .ok (.bool a.isNone) w := fun w a n c n' c' => Lib.run_eql_slice_nil w _ _ a n c n' c' Tryz.underlying38
 obtain ⟨i0, hi, hz0, hz1, hz2⟩ := yz gH
 cases A with
 | none =>
  have hvs : n = 0 := by
   rcases Nat.eq_zero_or_pos n with h | h
   · exact h
   · obtain ⟨b, off, e, _⟩ := HT.out h; cases e
  subst hvs
  have hcs : cs = [] := List.eq_nil_of_length_eq_zero (by have := HL.out; omega)
  subst hcs
  go_enter Tryz.func129, Tryz.ntmps129
  go_wp2
  go_ret
  exact ⟨_, rfl, OwnR.nil _ _ _, Below.refl _ _⟩
 | some ad =>
  have HC : Hid (∀ (j : Nat) (u : Value), cs[j]? = some u → (w.alloc (.cells #[] 3)).cell? (ad.add j) = some u) := fun j u hj => by
   have hjl : j < n * 1 := by rw [← HL.out]; exact (List.getElem?_eq_some_iff.1 hj).1
   obtain ⟨b, off, e, hlt, hc⟩ := HT.out (by omega)
   cases e
   rw [Addr.add_lit]
   exact Lib.cell?_alloc_some _ (hc j u hj)
  go_enter Tryz.func129, Tryz.ntmps129
  go_wp2_with (at_builtin; refine wpList_append_own _ rfl _ _ 38 rfl w.heap.size 3 i0 _ 1 8 Tryz.underlying38 hi hz0 hz1 hz2 rfl (by decide) _ _ _ rfl (World.ownsRow_made w #[] 0 (Nat.le_refl _) (Nat.zero_le _) rfl) ad n cap cs rfl HL.out HC.out H1.out ?qc4 ?qc5 ?qc6 ?_)
  case qc4 => unfold maxLen; omega
  case qc5 => omega
  case qc6 => simp
  intro v' w1 hown hgrow hnil
  go_wp2
  go_ret
  refine ⟨v', rfl, hown, ?_⟩
  exact ((Below.refl _ w).alloc (Nat.le_refl _) _).grown hgrow (by simp) (by intro k hk; simp [Value.ownBlock] at hk; omega)
end
end Go.Proofs.YtdkmpccfnnpnbaaGreat
