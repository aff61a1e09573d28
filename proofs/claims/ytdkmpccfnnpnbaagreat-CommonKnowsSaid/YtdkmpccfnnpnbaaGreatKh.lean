/- Parts KnwA RepB KnwB KnwC KnwQ KnwD KnwE KnwF RfuP LwRf LwKn. -/
import Derived.Test.YtdkmpccfnnpnbaaGreatProg
import Derived.Test.YtdkmpccfnnpnbaaGreatKg
import Derived.Test.YtdkmpccfnnpnbaaGreatKe
import Derived.Carry
import Derived.Test.YtdkmpccfnnpnbaaGreatKf
import Derived.Test.YtdkmpccfnnpnbaaGreatKb

namespace Go.Proofs.YtdkmpccfnnpnbaaGreat
set_option maxHeartbeats 4000000
section
open Go.RowKit Go.Shelf
attribute [local go_sem] Oper.semAt_some
def uv (xs : List Bool) (w : World) (e : Ending) (w' : World) : Prop := ∃ g : Nat, e = .returned (.slice (some ⟨g, 0, none⟩) xs.length xs.length) ∧ w.heap.size ≤ g ∧ BRow w' g xs ∧ Below w.heap.size w w'
set_option maxRecDepth 100000 in
theorem uj (A B : Option Addr) (ca cb n : Nat) (hn : n ≤ 100000) (a b : List Bool) (ha : a.length = n) (hb : b.length = n) (w : World) (hA : BAt w w.heap.size A a) (hB : BAt w w.heap.size B b) :
  Calls Tryz.prog 120 #[.slice A n ca, .slice B n cb] w (uv (js n a b) w) := by
 have HA := zH hA
 have HB := zH hB
 have HLa := zH ha
 have HLb := zH hb
 have hmk := kG n hn
 obtain ⟨rs, hrs⟩ : ∃ rs, js n a b = rs := ⟨_, rfl⟩
 have hrl : rs.length = n := by rw [← hrs]; exact xM _ _ _
 have HRL := zH hrl
 have HAT : Hid (∀ k (h : k < n), rs[k]'(by rw [HRL.out]; exact h) = (a[k]'(by rw [HLa.out]; exact h) && b[k]'(by rw [HLb.out]; exact h))) := fun k h => by
  subst hrs
  rw [YI h, yh (by omega), yh (by omega)]
 unfold uv
 rw [hrs, hrl]
 clear hA hB ha hb hrs
 go_enter Tryz.func120, Tryz.ntmps120
 go_upto_region 2 with fail
 obtain ⟨w3, hw3, d3, hs3, hB3⟩ := zi w (qM (List.replicate n false)) 4
 rw [hw3]
 have HA3 := zH (HA.out.keep hB3)
 have HB3 := zH (HB.out.keep hB3)
 have HW3 := zH hB3
 have HZ0 : Hid (BRow w3 w.heap.size (qj rs 0)) := by rw [ul, HRL.out]; exact d3
 clear hw3 d3 hB3 hmk HA HB hrl
 go_wp2_with fail
 go_loopw [12] (fun i wr => ∃ k : Nat, k ≤ n ∧ i = .int .i64 (k : Int) ∧ Hid (BRow wr w.heap.size (qj rs k)) ∧ Hid (Below w.heap.size w3 wr)) (fun i _ => n - (intOf i).toNat)
 case atStart => exact ⟨0, by omega, rfl, HZ0, Below.refl _ _⟩
 case round =>
  obtain ⟨k, hk, rfl, hbr, hbw⟩ := hrel
  clear HZ0
  by_cases hlt : k < n
  · obtain ⟨b1, o1, rfl, hb1, z0⟩ := (HA3.out.keep hbw.out).at_ k (by rw [HLa.out]; exact hlt)
    obtain ⟨b2, o2, rfl, hb2, z1⟩ := (HB3.out.keep hbw.out).at_ k (by rw [HLb.out]; exact hlt)
    have hat := HAT.out k hlt
    obtain ⟨x, hx⟩ : ∃ x, a[k]'(by rw [HLa.out]; exact hlt) = x := ⟨_, rfl⟩
    obtain ⟨y, hy⟩ : ∃ y, b[k]'(by rw [HLb.out]; exact hlt) = y := ⟨_, rfl⟩
    rw [hx] at z0 hat
    rw [hy] at z1 hat
    have hkb : k < rs.length := by rw [HRL.out]; exact hlt
    have hml := gR rs (Nat.le_of_lt hkb)
    have y0 := za hbr.out k (vK (qj rs k) k (by omega))
    have f0 := zb hbr.out k
    have HNEW : Hid (BRow (wr.setCell ⟨w.heap.size, k, none⟩ (.bool (x && y))) w.heap.size (qj rs (k + 1))) := by
     rw [← hat, ← gQ rs hkb]
     show _ = _
     rw [heap_setCell_same wr _ k _ _ _ hbr.out, ut]
    have HBN := zH (hbw.out.setCell (p := ⟨w.heap.size, k, none⟩) (by show w.heap.size ≤ w.heap.size; omega) (.bool (x && y)))
    obtain ⟨u, hu⟩ : ∃ u, (qj rs k)[k]'(by omega) = u := ⟨_, rfl⟩
    rw [hu] at y0
    have hk0 : (0 : Int) ≤ (k : Int) := by omega
    have hk1 : (k : Int) < (n : Int) := by omega
    have hl3 := zd hbr.out
    clear hx hy hat hkb hml hbr hbw hu
    cases x with
    | false =>
     go_wp2_with fail
     go_roundw
     case rel => exact ⟨k + 1, by omega, by go_num, HNEW, HBN⟩
     case measure => simp [intOf]; omega
    | true =>
     go_wp2_with fail
     go_roundw
     case rel => exact ⟨k + 1, by omega, by go_num, HNEW, HBN⟩
     case measure => simp [intOf]; omega
  · obtain rfl : n = k := by omega
    have HE : Hid (BRow wr w.heap.size rs) := by have := hbr.out; rwa [show qj rs n = rs by rw [← HRL.out]; exact gS rs] at this
    have HBE := zH (HW3.out.trans hbw.out)
    clear hbr hbw HA3 HB3 HAT
    go_wp2_with fail
    go_ret
    exact ⟨w.heap.size, rfl, Nat.le_refl _, HE.out, HBE.out⟩
set_option maxRecDepth 100000 in
theorem Xu (A B : Option Addr) (ca cb n : Nat) (hn : n ≤ 100000) (ls : List Int) (set : List Bool) (ha : ls.length = n) (hb : set.length = n) (w : World) (hA : IAt w w.heap.size A ls) (hB : BAt w w.heap.size B set) :
  Calls Tryz.prog 197 #[.slice A n ca, .slice B n cb] w (uv (wg n ls set) w) := by
 have HA := zH hA
 have HB := zH hB
 have HLa := zH ha
 have HLb := zH hb
 have hmk := kG n hn
 have hmm := @run_makeMap Tryz.prog
 have hz : ∀ W : World, (zeroValue 4).run Tryz.prog W = .ok (.bool false) W := fun W => by kernel_rfl
 have ht : Tryz.prog.underlying 289 = some (.map 3 4) := Tryz.underlying289
 have HZ := zH hz
 have HT := zH ht
 obtain ⟨rs, hrs⟩ : ∃ rs, wg n ls set = rs := ⟨_, rfl⟩
 have hrl : rs.length = n := by rw [← hrs]; exact qC _ _ _
 have HRL := zH hrl
 have HAT : Hid (∀ k (h : k < n), rs[k]'(by rw [HRL.out]; exact h) = (jF ls set n (ls[k]'(by rw [HLa.out]; exact h))).isNone) := fun k h => by
  subst hrs
  rw [insL_brk h, zF (by rw [HLa.out]; exact h)]
 unfold uv
 rw [hrs, hrl]
 clear hA hB ha hb hrs hz ht
 go_enter Tryz.func197, Tryz.ntmps197
 go_upto_region 2 with fail
 obtain ⟨w1, h1⟩ : ∃ w1, w.alloc (.map #[] 0) = w1 := ⟨_, rfl⟩
 have m1 : MapOf (Value.int .i64) w1 w.heap.size 0 (fun _ => none) := by rw [← h1]; exact MapOf.made w
 have z1 : Below w.heap.size w w1 := by rw [← h1]; exact zI _ _
 have hl1 : w.heap.size < w1.heap.size := by rw [← h1]; simp
 rw [h1]
 have HM1 : Hid (MapOf (Value.int .i64) w1 w.heap.size 0 (jF ls set 0)) := m1
 have HB1 := zH z1
 have HA1 := zH (HA.out.keep z1)
 have HS1 := zH (HB.out.keep z1)
 clear h1 m1 z1 hmm HA HB hrl
 go_wp2_with fail
 go_loopw [14] (fun i wr => ∃ k m : Nat, k ≤ n ∧ i = .int .i64 (k : Int) ∧ Hid (MapOf (Value.int .i64) wr w.heap.size m (jF ls set k)) ∧ Hid (Below w.heap.size w1 wr)) (fun i _ => n - (intOf i).toNat)
 case atStart => exact ⟨0, 0, by omega, rfl, HM1, Below.refl _ _⟩
 case round =>
  obtain ⟨k, m, hk, rfl, hm, hbw⟩ := hrel
  clear HM1
  by_cases hlt : k < n
  · obtain ⟨b1, o1, rfl, hb1, z0⟩ := (HA1.out.keep hbw.out).at_ k (by rw [HLa.out]; exact hlt)
    obtain ⟨b2, o2, rfl, hb2, z1⟩ := (HS1.out.keep hbw.out).at_ k (by rw [HLb.out]; exact hlt)
    have hga : ls.getD k 0 = ls[k]'(by rw [HLa.out]; exact hlt) := zF (by rw [HLa.out]; exact hlt) 0
    have hgb : set.getD k false = set[k]'(by rw [HLb.out]; exact hlt) := yh (by rw [HLb.out]; exact hlt) false
    obtain ⟨x, hx⟩ : ∃ x, ls[k]'(by rw [HLa.out]; exact hlt) = x := ⟨_, rfl⟩
    obtain ⟨y, hy⟩ : ∃ y, set[k]'(by rw [HLb.out]; exact hlt) = y := ⟨_, rfl⟩
    rw [hx] at z0 hga
    rw [hy] at z1 hgb
    have hk0 : (0 : Int) ≤ (k : Int) := by omega
    have hk1 : (k : Int) < (n : Int) := by omega
    have hG : jF ls set (k + 1) = if y then jF ls set k else qe (jF ls set k) x (.bool true) := by rw [jF, hga, hgb]
    cases y with
    | true =>
     have hm2 : Hid (MapOf (Value.int .i64) wr w.heap.size m (jF ls set (k + 1))) := by rw [hG, if_pos rfl]; exact hm
     clear hx hy hga hgb hG hm
     go_wp2_with fail
     go_roundw
     case rel => exact ⟨k + 1, m, by omega, by go_num, hm2, hbw⟩
     case measure => simp [intOf]; omega
    | false =>
     obtain ⟨W5, hrun, hm5, hg5⟩ := hm.out.put qo HT.out x (.bool true)
     have hm2 : Hid (MapOf (Value.int .i64) W5 w.heap.size (m + 1) (jF ls set (k + 1))) := by rw [hG, if_neg (by simp)]; exact hm5
     have HB5 : Hid (Below w.heap.size w1 W5) := hbw.out.grown hg5 (by have := hbw.out.size; omega) (fun r e => by cases e; omega)
     clear hx hy hga hgb hG hm hm5 hg5 hbw
     go_wp2_with fail
     go_roundw
     case rel => exact ⟨k + 1, m + 1, by omega, by go_num, hm2, HB5⟩
     case measure => simp [intOf]; omega
  · obtain rfl : n = k := by omega
    have hsr := hbw.out.size
    obtain ⟨wE, rfl⟩ : ∃ x, x = wr := ⟨_, rfl⟩
    go_upto_region 9 with fail
    obtain ⟨w3, hw3, d3, hs3, hB3⟩ := zi wE (qM (List.replicate n false)) 4
    rw [hw3]
    have HA3 := zH ((HA1.out.keep hbw.out).keep (hB3.mono (by omega)))
    have HM3 := zH (hm.out.same (hB3.block _ (by omega)))
    have HW3 := zH (HB1.out.trans (hbw.out.trans (hB3.mono (by omega))))
    have HZ0 : Hid (BRow w3 wE.heap.size (qj rs 0)) := by rw [ul, HRL.out]; exact d3
    have hwE : w.heap.size < wE.heap.size := by omega
    clear hw3 d3 hB3 hmk HA1 HS1 hm hbw hsr
    go_wp2_with fail
    go_loopw [32] (fun i wr => ∃ k : Nat, k ≤ n ∧ i = .int .i64 (k : Int) ∧ Hid (BRow wr wE.heap.size (qj rs k)) ∧ Hid (Below wE.heap.size w3 wr)) (fun i _ => n - (intOf i).toNat)
    case atStart => exact ⟨0, by omega, rfl, HZ0, Below.refl _ _⟩
    case round =>
     obtain ⟨k, hk, rfl, hbr, hbw⟩ := hrel
     clear HZ0
     by_cases hlt : k < n
     · obtain ⟨b1, o1, rfl, hb1, z0⟩ := (HA3.out.keep (hbw.out.mono (by omega))).at_ k (by rw [HLa.out]; exact hlt)
       have hat := HAT.out k hlt
       obtain ⟨x, hx⟩ : ∃ x, ls[k]'(by rw [HLa.out]; exact hlt) = x := ⟨_, rfl⟩
       rw [hx] at z0 hat
       have hm := HM3.out.same (hbw.out.block _ hwE)
       have hlk := hm.look qo HT.out (HZ.out wr) x
       have hres : ∃ y : Bool, (jF ls set n x).getD (.bool false) = .bool y ∧ rs[k]'(by rw [HRL.out]; exact hlt) = !y := by
        rcases kN ls set x n with ⟨h1, _⟩ | ⟨h1, _⟩
        · exact ⟨true, by rw [h1]; rfl, by rw [hat, h1]; rfl⟩
        · exact ⟨false, by rw [h1]; rfl, by rw [hat, h1]; rfl⟩
       obtain ⟨y, hy1, hy2⟩ := hres
       rw [hy1] at hlk
       have hkb : k < rs.length := by rw [HRL.out]; exact hlt
       have hml := gR rs (Nat.le_of_lt hkb)
       have y0 := za hbr.out k (vK (qj rs k) k (by omega))
       have f0 := zb hbr.out k
       have HNEW : Hid (BRow (wr.setCell ⟨wE.heap.size, k, none⟩ (.bool (!y))) wE.heap.size (qj rs (k + 1))) := by
        rw [← hy2, ← gQ rs hkb]
        show _ = _
        rw [heap_setCell_same wr _ k _ _ _ hbr.out, ut]
       have HBN := zH (hbw.out.setCell (p := ⟨wE.heap.size, k, none⟩) (by show wE.heap.size ≤ wE.heap.size; omega) (.bool (!y)))
       obtain ⟨u, hu⟩ : ∃ u, (qj rs k)[k]'(by omega) = u := ⟨_, rfl⟩
       rw [hu] at y0
       have hk0 : (0 : Int) ≤ (k : Int) := by omega
       have hk1 : (k : Int) < (n : Int) := by omega
       have hl3 := zd hbr.out
       clear hx hat hkb hml hbr hbw hu hm hy1 hy2
       go_wp2_with fail
       go_roundw
       case rel => exact ⟨k + 1, by omega, by go_num, HNEW, HBN⟩
       case measure => simp [intOf]; omega
     · obtain rfl : n = k := by omega
       have HE : Hid (BRow wr wE.heap.size rs) := by have := hbr.out; rwa [show qj rs n = rs by rw [← HRL.out]; exact gS rs] at this
       have HBE := zH (HW3.out.trans (hbw.out.mono (by omega)))
       clear hbr hbw HA3 HAT HM3
       go_wp2_with fail
       go_ret
       exact ⟨wE.heap.size, rfl, by omega, HE.out, HBE.out⟩
end
section
open Go.RowKit
theorem wQ : (Tryz.prog.info? 4).map (·.size) = some 1 := by kernel_rfl
set_option maxRecDepth 100000 in
theorem Y5 (n b : Nat) (h1 : 1 ≤ n) (h5 : n ≤ 100000) (u : Bool) (w : World) (hb : w.heap[b]? = some (.cells #[.bool u] 4 (0, 0))) :
  Calls Tryz.prog 194 #[.slice (some ⟨b, 0, none⟩) 1 1, .int .i64 n] w fun e w' => ∃ g, e = .returned (.slice (some ⟨g, 0, none⟩) n n) ∧ w.heap.size ≤ g ∧ BRow w' g (List.replicate n u) ∧ Below w.heap.size w w' := by
 have hmk := kG n h5
 obtain ⟨ar, har⟩ : ∃ ar : List Value, (List.replicate n false).map Value.bool = ar := ⟨_, rfl⟩
 unfold qM at hmk
 rw [har] at hmk
 have hal : ar.length = n := by rw [← har]; simp
 have hc := za hb 0 rfl
 have hbl := zd hb
 have hm := Tryz.bits_Mul 1 n (by omega) (by omega) w
 have e1 : (1 * n / 18446744073709551616 : Nat) = 0 := by omega
 have e2 : (1 * n % 18446744073709551616 : Nat) = n := by omega
 rw [e1, e2] at hm
 have hn0 : ¬ (n : Int) < 0 := by omega
 clear har e1 e2
 go_enter Tryz.func194, Tryz.ntmps194
 go_wp2_with fail
 refine hm.mono ?_
 rintro e w1 ⟨rfl, hw1⟩
 obtain rfl := hw1
 clear hm
 obtain ⟨W0, hW0, b0, hsz, hB0⟩ := zi w1 ar.toArray 4
 have hx : W0.cell? ⟨b, 0, none⟩ = some (.bool u) := (hB0.cell (p := ⟨b, 0, none⟩) hbl).trans hc
 have BB := zH hB0
 have BX := zH b0
 have HX := zH hx
 clear hc hB0 b0 hx hb
 go_wp2_with ((refine wpList_copy_splice rfl (.tmp 31) (.tmp 32) 46 46 rfl 4 Tryz.underlying46 wQ (some ⟨w1.heap.size, 0, none⟩) (some ⟨b, 0, none⟩) n n 1 1 rfl rfl w1.heap.size 0 ar 4 BX.out [.bool u] (by simp [Nat.min_def]; omega) (fun _ => ⟨rfl, _, rfl, Yk HX.out⟩) (by simp; omega) (by simp [Value.oneCell']) w1.heap.size w1 BB.out (Nat.le_refl _) ?_); intro w2 hr2 hb2)
 obtain ⟨g, hg⟩ : ∃ g, w1.heap.size = g := ⟨_, rfl⟩
 have s1 := xT (cur := ar) (x := .bool u) (k := 0) (m := 1) (n := n) hal (by simp) (by omega)
 have S1 := zH s1
 have HGG := zH hg
 rw [hg] at hr2 hb2 ⊢
 clear s1 BX HX BB hW0 hsz hmk hg
 go_loopw [8] (fun l wr => ∃ (k : Nat) (cur : List Value), 1 ≤ k ∧ k ≤ n ∧ l = .int .i64 k ∧ Hid (cur.length = n) ∧ Hid (cur.take k = List.replicate k (.bool u)) ∧ Hid (wr.heap[g]? = some (.cells cur.toArray 4 (0, 0))) ∧ Below g w1 wr) (fun l _ => n - (intOf l).toNat)
 case atStart => exact ⟨1, splice ar 0 [.bool u], by omega, h1, rfl, S1.out.2, S1.out.1, hr2, hb2⟩
 case round =>
  obtain ⟨k, cur, hk1, hkn, rfl, hcl, hct, hcell, hbl2⟩ := hrel
  by_cases hlt : k < n
  · clear S1 hr2 hb2
    have hk0 : (0 : Int) ≤ (k : Int) := by omega
    have hk2 : (k : Int) ≤ (n : Int) := by omega
    have hne : ¬ n = k := by omega
    have hne' : ¬ k = n := by omega
    go_upto_region 9 with fail
    obtain ⟨d, hd⟩ : ∃ d, n - k = d := ⟨_, rfl⟩
    obtain ⟨m, hm⟩ : ∃ m, Nat.min k d = m := ⟨_, rfl⟩
    have hm0 : min k d = m := hm
    have hm1 : 1 ≤ m := by omega
    have hm2 : k + m ≤ n := by omega
    have hm3 : m ≤ k := by omega
    clear hm0
    have hsrc : ∀ j v, (List.replicate m (Value.bool u))[j]? = some v → wr.cell? ((⟨g, 0, none⟩ : Addr).add j) = some v := by
     intro j v hj
     have hjm : j < m := by have := (List.getElem?_eq_some_iff.1 hj).1; simpa using this
     rw [List.getElem?_replicate, if_pos hjm] at hj
     cases hj
     rw [Addr.add_lit, Nat.zero_add]
     refine za hcell.out j ?_
     rw [List.getElem?_toArray]
     have h2 := congrArg (fun l => l[j]?) hct.out
     simp only [List.getElem?_take, List.getElem?_replicate] at h2
     rwa [if_pos (by omega), if_pos (by omega)] at h2
    have SP := zH (xT (cur := cur) (x := Value.bool u) (k := k) (m := m) (n := n) hcl.out hct.out hm2)
    have HSRC := zH hsrc
    have HM := zH hm
    have HBL2 := zH hbl2
    have hs1 : IntKind.i64.wrap ((k : Int) + (m : Int)) = (k : Int) + (m : Int) := IntWalk.i64_in _ (by omega)
    have HS1 := zH hs1
    clear hsrc hm hbl2 hs1
    go_region_law ((refine step_copy_splice (by rfl) (.tmp 41) (.tmp 44) 46 46 (by rfl) 4 Tryz.underlying46 wQ (some ⟨g, k, none⟩) (some ⟨g, 0, none⟩) d d k n (by simp [go_sem]) (by simp [go_sem]) g k cur 4 hcell.out (List.replicate m (.bool u)) (by rw [List.length_replicate]; exact HM.out.symm) (fun _ => ⟨rfl, _, rfl, HSRC.out⟩) (by rw [List.length_replicate, hcl.out]; exact hm2) (by intro v hv; rw [List.eq_of_mem_replicate hv]; rfl) g w1 HBL2.out.drew (Nat.le_refl _) ?_; intro w3 hr3 hb3; rw [List.length_replicate]))
    all_goals
     rw [HS1.out]
     go_wp2_with fail
     go_frame
     go_roundw
     case rel =>
      (repeat apply Exists.intro)
      exact ⟨⟨k + m, splice cur k (List.replicate m (.bool u)), by omega, by omega, rfl, SP.out.2, SP.out.1, hr3, hb3⟩, by first | rfl | (go_frame; rfl) | (simp [Act.put]; done)⟩
     case measure => simp [intOf]; omega
  · obtain rfl : k = n := by omega
    go_wp2_with fail
    go_ret
    refine ⟨g, rfl, by have := HGG.out; omega, ?_, by have := HGG.out; rw [this]; exact hbl2⟩
    unfold BRow qM
    have e := hct.out
    rw [List.take_of_length_le (by have := hcl.out; omega)] at e
    rw [hcell.out, e]; simp
set_option maxRecDepth 100000 in
theorem clone_kBl (A : Option Addr) (n cap : Nat) (cs : List Value) (w : World) (hl : cs.length = n * 1) (hA : Raw w A n cs) (h1 : ∀ u ∈ cs, u.oneCell' = true) (hn : n ≤ 1000000) :
  Calls Tryz.prog 119 #[.slice A n cap] w (RetR kBl n cs w) := by
 have HT := zH hA
 have H1 := zH h1
 have HL := zH hl
 clear hA h1 hl
 have q : ∀ (w : World) (a : Option Addr) (n c n' c' : Nat), (binOp .eql 46 (.slice a n c) (.slice none n' c')).run Tryz.prog w = .ok (.bool a.isNone) w := fun w a n c n' c' => Lib.run_eql_slice_nil w _ _ a n c n' c' Tryz.underlying46
 obtain ⟨i0, hi, hz0, hz1, hz2⟩ := yz kBl_ok
 cases A with
 | none =>
  have hvs : n = 0 := by
   rcases Nat.eq_zero_or_pos n with h | h
   · exact h
   · obtain ⟨b, off, e, _⟩ := HT.out h; cases e
  subst hvs
  have hcs : cs = [] := List.eq_nil_of_length_eq_zero (by have := HL.out; omega)
  subst hcs
  go_enter Tryz.func119, Tryz.ntmps119
  go_wp2
  go_ret
  exact ⟨_, rfl, OwnR.nil _ _ _, Below.refl _ _⟩
 | some ad =>
  have HC : Hid (∀ (j : Nat) (u : Value), cs[j]? = some u → (w.alloc (.cells #[] 4)).cell? (ad.add j) = some u) := fun j u hj => by
   have hjl : j < n * 1 := by rw [← HL.out]; exact (List.getElem?_eq_some_iff.1 hj).1
   obtain ⟨b, off, e, hlt, hc⟩ := HT.out (by omega)
   cases e
   rw [Addr.add_lit]
   exact Lib.cell?_alloc_some _ (hc j u hj)
  go_enter Tryz.func119, Tryz.ntmps119
  go_wp2_with (at_builtin; refine wpList_append_own _ rfl _ _ 46 rfl w.heap.size 4 i0 _ 1 1 Tryz.underlying46 hi hz0 hz1 hz2 rfl (by decide) _ _ _ rfl (World.ownsRow_made w #[] 0 (Nat.le_refl _) (Nat.zero_le _) rfl) ad n cap cs rfl HL.out HC.out H1.out ?qc4 ?qc5 ?qc6 ?_)
  case qc4 => unfold maxLen; omega
  case qc5 => omega
  case qc6 => simp
  intro v' w1 hown hgrow hnil
  go_wp2
  go_ret
  refine ⟨v', rfl, hown, ?_⟩
  exact ((Below.refl _ w).alloc (Nat.le_refl _) _).grown hgrow (by simp) (by intro k hk; simp [Value.ownBlock] at hk; omega)
end
section
open Go.RowKit Go.Shelf
attribute [local go_sem] Oper.semAt_some
structure KwAt (w : World) (B bw n N : Nat) (cls : Nat → List Int) : Prop where
 lt : bw < B
 size : w.cell? ⟨bw, 10, none⟩ = some (.int .i64 (n : Int))
 rows : ∃ b off cC, w.cell? ⟨bw, 11, none⟩ = some (.slice (some ⟨b, off, none⟩) N cC) ∧ b < B ∧ ∀ q, q < N → ∃ A c, w.cell? ⟨b, off + q, none⟩ = some (.slice A n c) ∧ IAt w B A (cls q)
 len : ∀ q, (cls q).length = n
theorem KwAt.keep {w w' : World} {B bw n N : Nat} {cls : Nat → List Int} (h : KwAt w B bw n N cls) (hb : Below B w w') : KwAt w' B bw n N cls := by
 obtain ⟨b, off, cC, h1, h2, h3⟩ := h.rows
 refine ⟨h.lt, (hb.cell (p := ⟨bw, 10, none⟩) h.lt).trans h.size, ⟨b, off, cC, (hb.cell (p := ⟨bw, 11, none⟩) h.lt).trans h1, h2, fun q hq => ?_⟩, h.len⟩
 obtain ⟨A, c, h4, h5⟩ := h3 q hq
 exact ⟨A, c, (hb.cell (p := ⟨b, off + q, none⟩) h2).trans h4, h5.keep hb⟩
theorem KwAt.more {w : World} {B B' bw n N : Nat} {cls : Nat → List Int} (h : KwAt w B bw n N cls) (hB : B ≤ B') : KwAt w B' bw n N cls := by
 obtain ⟨b, off, cC, h1, h2, h3⟩ := h.rows
 refine ⟨by have := h.lt; omega, h.size, ⟨b, off, cC, h1, by omega, fun q hq => ?_⟩, h.len⟩
 obtain ⟨A, c, h4, h5⟩ := h3 q hq
 exact ⟨A, c, h4, h5.more hB⟩
set_option maxRecDepth 100000 in
theorem Xw (bw n N : Nat) (cls : Nat → List Int) (h1 : 1 ≤ n) (hn : n ≤ 100000) (w : World) (hK : KwAt w w.heap.size bw n N cls) :
  Calls Tryz.prog 154 #[.pointer (some ⟨bw, 0, none⟩)] w (uv (List.replicate n true) w) := by
 obtain ⟨w1, hw1, d1, hs1, hB⟩ := zi w #[.bool true] 4
 have HC := zH (Y5 n w.heap.size h1 hn true w1 d1)
 have z0 := hK.size
 have z1 := (hK.keep hB).size
 have hl := hK.lt
 have HW1 := zH hw1
 have HB := zH hB
 unfold uv
 rw [List.length_replicate]
 clear hw1 d1 hB hK
 go_enter Tryz.func154, Tryz.ntmps154
 go_wp2_with fail
 rw [HW1.out]
 refine HC.out.mono ?_
 rintro e w2 ⟨g, rfl, hg, hr, hb2⟩
 have HR := zH hr
 have HB2 := zH (HB.out.trans (hb2.mono (by omega)))
 clear hr hb2 HC HW1 HB z0 z1
 go_wp2_with fail
 go_ret
 exact ⟨g, rfl, by omega, HR.out, HB2.out⟩
set_option maxRecDepth 100000 in
theorem QK (bw n N : Nat) (cls : Nat → List Int) (hn : n ≤ 100000) (q : Nat) (hq : q < N) (B : Option Addr) (cb : Nat) (set : List Bool) (hb : set.length = n) (w : World) (hK : KwAt w w.heap.size bw n N cls) (hB : BAt w w.heap.size B set) :
  Calls Tryz.prog 156 #[.pointer (some ⟨bw, 0, none⟩), .int .i64 (q : Int), .slice B n cb] w (uv (wg n (cls q) set) w) := by
 obtain ⟨b, off, cC, z1, hb2, hr⟩ := hK.rows
 obtain ⟨A, c, z2, hI⟩ := hr q hq
 have HC := zH (Xu A B c cb n hn (cls q) set (hK.len q) hb w hI hB)
 have hl := hK.lt
 have hq0 : (0 : Int) ≤ (q : Int) := by omega
 have hq1 : (q : Int) < (N : Int) := by omega
 unfold uv at HC ⊢
 rw [qC] at HC ⊢
 clear hr hI hK hB hb
 go_enter Tryz.func156, Tryz.ntmps156
 go_wp2_with fail
 refine HC.out.mono ?_
 rintro e w2 ⟨g, rfl, hg, hr2, hb3⟩
 have HR := zH hr2
 have HB2 := zH hb3
 clear hr2 hb3 HC z1 z2
 go_wp2_with fail
 go_ret
 exact ⟨g, rfl, hg, HR.out, HB2.out⟩
set_option maxRecDepth 100000 in
theorem jT (bw n N : Nat) (cls : Nat → List Int) (h1 : 1 ≤ n) (hn : n ≤ 100000) (hN : N ≤ 5) (G : Nat) (hG : G < 32) (B : Option Addr) (cb : Nat) (set : List Bool) (hb : set.length = n) (w : World) (hK : KwAt w w.heap.size bw n N cls) (hB : BAt w w.heap.size B set) :
  Calls Tryz.prog 121 #[.pointer (some ⟨bw, 0, none⟩), .int .i64 (G : Int), .slice B n cb] w (uv (evL n cls (zk G N) set) w) := by
 have HA := zH (Xw bw n N cls h1 hn w hK)
 have HKN := zH (fun (q : Nat) (hq : q < N) (X : World) (hX : Below w.heap.size w X) => QK bw n N cls hn q hq B cb set hb X ((hK.keep hX).more hX.size) ((hB.keep hX).more hX.size))
 have HBO := zH (fun (g g' : Nat) (a b : List Bool) (ha : a.length = n) (hb : b.length = n) (X : World) (r1 : BRow X g a) (r2 : BRow X g' b) => uj (some ⟨g, 0, none⟩) (some ⟨g', 0, none⟩) n n n hn a b ha hb X (r1.at_ r1.lt) (r2.at_ r2.lt))
 have HK := zH hK
 unfold uv at HA HKN HBO ⊢
 rw [List.length_replicate] at HA
 simp only [qC] at HKN
 simp only [xM] at HBO
 rw [jA]
 clear hK hB hb
 go_enter Tryz.func121, Tryz.ntmps121
 go_wp2_with fail
 refine HA.out.mono ?_
 rintro e w2 ⟨g2, rfl, hg2, hr2, hb2⟩
 have HR2 := zH hr2
 have HB2 := zH hb2
 obtain ⟨b, off, cC, z1, hbb, _⟩ := (HK.out.keep hb2).rows
 have hl := HK.out.lt
 clear hr2 hb2 HA
 go_wp2_with fail
 go_loopw [7, 16] (fun o i wr => ∃ k g : Nat, k ≤ N ∧ i = .int .i64 (k : Int) ∧ o = .slice (some ⟨g, 0, none⟩) n n ∧ w.heap.size ≤ g ∧ Hid (BRow wr g (evL n cls (zk G k) set)) ∧ Hid (Below w.heap.size w wr)) (fun _ i _ => N - (intOf i).toNat)
 case atStart => exact ⟨0, g2, by omega, rfl, rfl, hg2, HR2, HB2⟩
 case round =>
  obtain ⟨k, g, hk, rfl, rfl, hg, hr, hbw⟩ := hrel
  clear HR2 z1
  by_cases hlt : k < N
  · have hb1 := XY hG (show k < 5 by omega)
    have hk0 : (0 : Int) ≤ (k : Int) := by omega
    have hk1 : (k : Int) < (N : Int) := by omega
    have hG00 : (0 : Int) ≤ (G : Int) := by omega
    have hmn : min k 64 = k := by omega
    by_cases hbit : G.testBit k = true
    case neg =>
     have hbf : G.testBit k = false := by simpa using hbit
     rw [hbf] at hb1
     have hE : zk G (k + 1) = zk G k := by rw [qN, if_neg hbit]
     have hr2 : Hid (BRow wr g (evL n cls (zk G (k + 1)) set)) := by rw [hE]; exact hr
     clear hr hE hbit hbf
     go_wp2_with fail
     go_roundw
     case rel => exact ⟨k + 1, g, by omega, by go_num, rfl, hg, hr2, hbw⟩
     case measure => simp [intOf]; omega
    case pos =>
    rw [hbit] at hb1
    have HE : Hid (evL n cls (zk G (k + 1)) set = js n (evL n cls (zk G k) set) (wg n (cls k) set)) := by rw [Hid, qN, if_pos hbit, XQ]
    have HC := zH (HKN.out k hlt wr hbw.out)
    clear hbit
    go_wp2_with fail
    refine HC.out.mono ?_
    rintro e w3 ⟨g3, rfl, hg3, hr3, hb3⟩
    have hs3 := hbw.out.size
    have hrw : BRow w3 g (evL n cls (zk G k) set) := (hb3.block _ hr.out.lt).trans hr.out
    have HC2 := zH (HBO.out g g3 _ _ (jA n cls set (zk G k)) (qC n (cls k) set) w3 hrw hr3)
    rw [← HE.out] at HC2
    have HB3 := zH (hbw.out.trans (hb3.mono hs3))
    clear hr hbw hr3 hrw hb3 HC
    go_wp2_with fail
    refine HC2.out.mono ?_
    rintro e w4 ⟨g4, rfl, hg4, hr4, hb4⟩
    have HR4 := zH hr4
    have HB4 := zH (HB3.out.trans (hb4.mono HB3.out.size))
    have hg4' : w.heap.size ≤ g4 := by have := HB3.out.size; omega
    clear hr4 hb4 HC2 HB3
    go_wp2_with fail
    go_roundw
    case rel => exact ⟨k + 1, g4, by omega, by go_num, rfl, hg4', HR4, HB4⟩
    case measure => simp [intOf]; omega
  · obtain rfl : N = k := by omega
    go_wp2_with fail
    go_ret
    exact ⟨g, rfl, hg, hr.out, hbw.out⟩
end
section
open Go.RowKit Go.Shelf
attribute [local go_sem] Oper.semAt_some
theorem own_ne {w : World} {base base' n : Nat} {v V : Value} {xs : List Int} {cs : List Value} (h : Own w base v xs) (g : OwnR kIs w base' V n cs) : v.ownBlock = none ∨ v.ownBlock ≠ V.ownBlock := by
 rcases h.2 with ⟨rfl, _⟩ | ⟨b, cap, cur, rfl, _, hb, _⟩
 · exact .inl rfl
 · refine .inr fun e => ?_
   rcases g.2 with ⟨rfl, _⟩ | ⟨b', cap', cur', rfl, _, hb', _⟩
   · cases e
   · have : b = b' := by simpa [Value.ownBlock] using e
     subst this
     rw [hb] at hb'
     cases hb'
structure NwIn (B bw n : Nat) (S SW : Array Value) (cls : Nat → List Int) (w W : World) (A : Option Addr) (k c : Nat) (cs : List Value) : Prop where
 below : Below B w W
 b0 : W.heap[B]? = some (.cells S 35 (0, 0))
 bx : W.heap[bw]? = some (.cells SW 190 (0, 0))
 own : OwnR kIs W (bw + 1) (.slice A k c) k cs
 rows : ∀ q, q < k → ∃ A' c', cs[q]? = some (.slice A' n c') ∧ Own W (bw + 1) (.slice A' n c') (cls q)
 len : cs.length = k
 lo : B < bw
theorem NwIn.on {B bw n k c : Nat} {S SW : Array Value} {cls : Nat → List Int} {w W W' : World} {A : Option Addr} {cs : List Value} (h : NwIn B bw n S SW cls w W A k c cs) (hb : Below W.heap.size W W') : NwIn B bw n S SW cls w W' A k c cs := by
 have l1 := zd h.bx
 have l0 := zd h.b0
 refine ⟨h.below.trans (hb.mono (by omega)), (hb.block _ l0).trans h.b0, (hb.block _ l1).trans h.bx, h.own.below hb (Nat.le_refl _), fun q hq => ?_, h.len, h.lo⟩
 obtain ⟨A', c', e1, e2⟩ := h.rows q hq
 exact ⟨A', c', e1, e2.below hb (Nat.le_refl _)⟩
theorem NwIn.push {B bw n k c c2 : Nat} {S SW SW' : Array Value} {cls : Nat → List Int} {w W W1 W2 : World} {A A2 A3 : Option Addr} {c3 : Nat} {cs : List Value} (h : NwIn B bw n S SW cls w W A k c cs) (hrow : Own W (bw + 1) (.slice A3 n c3) (cls k))
  (ho : OwnR kIs W1 (bw + 1) (.slice A2 (k + 1) c2) (k + 1) (cs ++ [.slice A3 n c3])) (hg : W.grownBy W1 (Value.slice A k c).ownBlock) (hs : ∀ z, z ≠ bw → W2.heap[z]? = W1.heap[z]?) (hb : Below B W1 W2) (hx : W2.heap[bw]? = some (.cells SW' 190 (0, 0))) :
  NwIn B bw n S SW' cls w W2 A2 (k + 1) c2 (cs ++ [.slice A3 n c3]) := by
 have l1 := zd h.bx
 have l0 := zd h.b0
 have lo := h.lo
 have hne : ∀ z, z ≤ bw → (Value.slice A k c).ownBlock ≠ some z := fun z hz e => by have := (h.own.lt z e).1; omega
 have keep : ∀ (v : Value) (xs : List Int), Own W (bw + 1) v xs → Own W2 (bw + 1) v xs := fun v xs hv => by
  have h1 := hv.kept hg (own_ne hv h.own)
  exact h1.same fun z hz _ => hs z (by omega)
 refine ⟨h.below.trans (((Below.refl _ _).grown hg (by omega) (fun r e => by have := (h.own.lt r e).1; omega)).trans hb), (hs B (by omega)).trans ((hg.block B l0 (fun e => hne B (by omega) e.symm)).trans h.b0), hx, jx ho (fun z e => hs z (by have := (ho.lt z e).1; omega)), fun q hq => ?_, by simp [h.len], lo⟩
 by_cases e : q = k
 · subst e
   exact ⟨A3, c3, by rw [List.getElem?_append_right (by rw [h.len]; exact Nat.le_refl _), h.len, Nat.sub_self]; rfl, keep _ _ hrow⟩
 · obtain ⟨A', c', e1, e2⟩ := h.rows q (by omega)
   exact ⟨A', c', by rw [List.getElem?_append_left (by rw [h.len]; omega)]; exact e1, keep _ _ e2⟩
def RetKw (s : Sy) (w : World) (e : Ending) (w' : World) : Prop := Below w.heap.size w w' ∧ ((yE s ≠ 0 ∧ e = .returned (.tuple #[.pointer none, .int .i64 (yE s)])) ∨
 (yE s = 0 ∧ ∃ bw, e = .returned (.tuple #[.pointer (some ⟨bw, 0, none⟩), .int .i64 0]) ∧ KwAt w' w'.heap.size bw (ptn s) s.n.toNat (zY s)))
set_option maxRecDepth 100000 in
theorem Yn (s : Sy) (hs : LowS s) (hf : xb s.p) (A SV AV AX : Option Addr) (kc ks kv kx : Nat) (w : World) (hS : SyAt w w.heap.size A SV AV AX s) :
  Calls Tryz.prog 153 #[.agg (s.vs_ A kc SV ks AV kv AX kx)] w (RetKw s w) := by
 obtain ⟨w1, hw1, d0, hs1, hB⟩ := zi w (s.vs_ A kc SV ks AV kv AX kx) 35
 have HCN := zH (gj s hs hf A SV AV AX kc ks kv kx w1 (hS.up hB))
 have HCL := zH (fun (q : Nat) (X : World) (hX : Below w.heap.size w X) => uU s hs hf (q : Int) A SV AV AX kc ks kv kx X ((hS.keep hX).more hX.size))
 have HE0 : Hid (yE s ≠ 0 → YD s = (0, yE s)) := fun h => if_pos h
 have HE1 : Hid (yE s = 0 → YD s = ((ptn s : Int), 0) ∧ 1 ≤ ptn s ∧ (∃ N : Nat, s.n = (N : Int) ∧ 1 ≤ N ∧ N ≤ 5) ∧ ∀ q : Nat, (q : Int) < s.n → XU s (q : Int) = (zY s q, 0)) := fun h => by
  obtain ⟨_, K, N, hF⟩ := qd hf h
  have hx := Z4 hf h
  have := Nat.mul_le_mul hx (show 1 ≤ s.p.k.toNat + 1 by omega)
  refine ⟨if_neg (by simpa using h), by unfold ptn; omega, ⟨N, hF.n, hF.n1, hF.n5⟩, fun q hq => ?_⟩
  unfold XU
  rw [if_neg (by simpa using h), if_neg (by omega), Int.toNat_natCast]
 have HKL : Hid (∀ q, (zY s q).length = ptn s) := fun q => hU s q
 unfold RetKw
 obtain ⟨r, hr⟩ : ∃ r, yE s = r := ⟨_, rfl⟩
 rw [hr] at HE0 HE1 ⊢
 obtain ⟨R, hRR⟩ : ∃ R, YD s = R := ⟨_, rfl⟩
 rw [hRR] at HCN HE0 HE1
 obtain ⟨CLS, hCLS⟩ : ∃ CLS, zY s = CLS := ⟨_, rfl⟩
 rw [hCLS] at HE1 HKL ⊢
 obtain ⟨n, hn⟩ : ∃ n, ptn s = n := ⟨_, rfl⟩
 rw [hn] at HE1 HKL ⊢
 unfold Sy.vs_ at hw1 d0 HCN HCL ⊢
 have HW1 := zH hw1
 have HB := zH hB
 have HD := zH d0
 obtain ⟨p0, p1, p2, p3, p4, p5, p6, p7, p8, p9⟩ := zx (d0)
 clear hw1 d0 hB hS hr hRR hs hf hn hCLS
 go_enter Tryz.func153, Tryz.ntmps153
 go_wp2_with fail
 rw [HW1.out]
 go_wp2_with fail
 refine HCN.out.mono ?_
 rintro e w2 ⟨rfl, hb2⟩
 have HB2 := zH (HB.out.trans (hb2.mono (by omega)))
 have HD := zH ((hb2.block _ (zd HD.out)).trans HD.out)
 clear p0 p1 p2 p3 p4 p5 p6 p7 p8 p9 hb2 HCN HW1 HB
 by_cases h0 : r = 0
 case neg =>
  have hR : Hid (R = (0, r)) := HE0.out h0
  have e0 : (r != 0) = true := by simpa using h0
  clear HE0 HE1 HD HCL HKL
  rw [hR.out]
  go_wp2_with fail
  go_ret2
  exact ⟨HB2.out, .inl ⟨h0, rfl⟩⟩
 case pos =>
 subst h0
 obtain ⟨e1, hn1, ⟨N, hN, hN1, hN5⟩, hcl⟩ := HE1.out rfl
 rw [e1]
 have HNN := zH hN
 have HCE := zH hcl
 have HN1 := zH (And.intro hn1 (And.intro hN1 hN5))
 have hmm := @run_makeMap Tryz.prog
 obtain ⟨p0, p1, p2, p3, p4, p5, p6, p7, p8, p9⟩ := zx (HD.out)
 clear HE0 HE1 e1 hn1 hN1 hN5 hN hcl
 go_upto_region 5 with fail
 obtain ⟨a3, h3⟩ : ∃ a3, w2.alloc (.map #[] 0) = a3 := ⟨_, rfl⟩
 have y3 : a3.heap.size = w2.heap.size + 1 := by rw [← h3]; simp
 have z3 : Below w2.heap.size w2 a3 := by rw [← h3]; exact zI _ _
 rw [h3]
 obtain ⟨a4, h4, x4, y4, z4⟩ := zi a3 #[.int .i64 s.p.t.n, .int .i64 s.p.t.ins, .int .i64 s.p.t.outs, .slice A s.p.t.cases.length kc, .int .i64 s.p.a.n, .slice SV s.p.a.sts.length ks, .int .i64 s.p.k, .int .i64 s.n, .slice AV s.vs.length kv, .slice AX s.xs.length kx, .int .i64 (n : Int), .slice none 0 0, .map (some w2.heap.size)] 190
 rw [h4]
 rw [y3] at x4 y4
 have hwl := zd HD.out
 have hIN : NwIn w.heap.size (w2.heap.size + 1) n #[.int .i64 s.p.t.n, .int .i64 s.p.t.ins, .int .i64 s.p.t.outs, .slice A s.p.t.cases.length kc, .int .i64 s.p.a.n, .slice SV s.p.a.sts.length ks, .int .i64 s.p.k, .int .i64 s.n, .slice AV s.vs.length kv, .slice AX s.xs.length kx] #[.int .i64 s.p.t.n, .int .i64 s.p.t.ins, .int .i64 s.p.t.outs, .slice A s.p.t.cases.length kc, .int .i64 s.p.a.n, .slice SV s.p.a.sts.length ks, .int .i64 s.p.k, .int .i64 s.n, .slice AV s.vs.length kv, .slice AX s.xs.length kx, .int .i64 (n : Int), .slice none 0 0, .map (some w2.heap.size)] CLS w a4 none 0 0 [] :=
  ⟨HB2.out.trans ((z3.trans (z4.mono (by omega))).mono (by omega)), (z4.block _ (by omega)).trans ((z3.block _ hwl).trans HD.out), x4, OwnR.nil _ _ _, fun q hq => by omega, rfl, by omega⟩
 have HIN := zH hIN
 have q7 : a4.cell? ⟨w.heap.size, 7, none⟩ = some (.int .i64 (N : Int)) := by rw [← HNN.out]; exact za hIN.b0 7 rfl
 obtain ⟨bw, hbw⟩ : ∃ bw, w2.heap.size + 1 = bw := ⟨_, rfl⟩
 rw [hbw] at HIN ⊢
 clear h3 y3 z3 h4 x4 y4 z4 hwl hIN HD hbw hmm p0 p1 p2 p3 p4 p5 p6 p7 p8 p9
 go_wp2_with fail
 go_loopw [26] (fun i wr => ∃ k : Nat, k ≤ N ∧ i = .int .i64 (k : Int) ∧ ∃ AQ cQ cs, Hid (NwIn w.heap.size bw n #[.int .i64 s.p.t.n, .int .i64 s.p.t.ins, .int .i64 s.p.t.outs, .slice A s.p.t.cases.length kc, .int .i64 s.p.a.n, .slice SV s.p.a.sts.length ks, .int .i64 s.p.k, .int .i64 s.n, .slice AV s.vs.length kv, .slice AX s.xs.length kx] #[.int .i64 s.p.t.n, .int .i64 s.p.t.ins, .int .i64 s.p.t.outs, .slice A s.p.t.cases.length kc, .int .i64 s.p.a.n, .slice SV s.p.a.sts.length ks, .int .i64 s.p.k, .int .i64 s.n, .slice AV s.vs.length kv, .slice AX s.xs.length kx, .int .i64 (n : Int), .slice AQ k cQ, .map (some w2.heap.size)] CLS w wr AQ k cQ cs)) (fun i _ => N - (intOf i).toNat)
 case atStart => exact ⟨0, by omega, rfl, none, 0, [], HIN⟩
 case round =>
  obtain ⟨k, hk, rfl, AQ, cQ, cs, hI⟩ := hrel
  clear HIN q7
  by_cases hlt : k < N
  · have hc := HCL.out k wr hI.out.below
    rw [HCE.out k (by rw [HNN.out]; omega)] at hc
    have HC := zH hc
    have hk0 : (0 : Int) ≤ (k : Int) := by omega
    have hk1 : (k : Int) < (N : Int) := by omega
    have hkl := HKL.out k
    have hk5 : k ≤ 5 := by have := HN1.out; omega
    obtain ⟨p0, p1, p2, p3, p4, p5, p6, p7, p8, p9⟩ := zx (hI.out.b0)
    clear hc
    go_wp2_with fail
    refine HC.out.mono ?_
    rintro e w3 ⟨A3, c3, rfl, ho3, hb3⟩
    have hI3 := hI.out.on hb3
    have hlo := hI.out.lo
    have hlx := zd hI.out.bx
    have ho3' : Own w3 (bw + 1) (.slice A3 n c3) (CLS k) := by rw [← hkl]; exact ho3.low (by omega)
    dsimp only
    rw [hkl]
    have HI3 := zH hI3
    have HO3 := zH ho3'
    have b11 := za hI3.bx 11 rfl
    have hlx3 := zd hI3.bx
    clear p0 p1 p2 p3 p4 p5 p6 p7 p8 p9 hb3 ho3 ho3' hI3 hI HC hkl
    go_upto_region 11 with fail
    obtain ⟨W4, hW4, d4, hs4, hb4⟩ := zi w3 #[.slice A3 n c3] 38
    have HI4 := zH (HI3.out.on hb4)
    have HO4 := zH (HO3.out.below hb4 (Nat.le_refl _))
    have b11' := za HI4.out.bx 11 rfl
    have HR4 := zH HI4.out.own
    have HLE := zH HI4.out.len
    have hb4s : bw + 1 ≤ W4.heap.size := by omega
    have HW4 := zH hW4
    clear HI3 HO3 hW4 hb4
    go_wp2_with (at_builtin; go_must (rw [HW4.out]; refine yx Yv rfl _ _ (by rfl) (bw + 1) (.slice AQ k cQ) k cs (by rfl) HR4.out w3.heap.size #[.slice A3 n c3] (by rfl) d4 rfl (by simp [Value.oneCell']) (by omega) hb4s _ rfl ?_); intro g' cap' w5 hr5 hg5 hat5 hlt5
                 have hx5 := (hg5.block bw (zd HI4.out.bx) (fun e => by have := (HR4.out.lt bw e.symm).1; omega)).trans HI4.out.bx
                 have u11 := za hx5 11 rfl
                 have f11 := zb hx5 11
                 have l11 := zd hx5
                 have HX5 := zH hx5
                 have HR5 := zH hr5
                 have HG5 := zH hg5
                 clear hx5 hr5 hg5 hat5 hlt5)
    have hnew := heap_setCell_same w5 bw 11 _ _ (.slice (some ⟨g', 0, none⟩) (k + 1) cap') HX5.out
    have hI6 := HI4.out.push HO4.out HR5.out HG5.out (W2 := w5.setCell ⟨bw, 11, none⟩ (.slice (some ⟨g', 0, none⟩) (k + 1) cap')) (fun z hz => Below.heap_setCell w5 ⟨bw, 11, none⟩ _ z hz) ((Below.refl _ _).setCell (by show w.heap.size ≤ bw; omega) _) hnew
    have HI6 := zH hI6
    clear hnew hI6 HI4 HO4 HR4 HR5 HG5 HX5 b11 b11' HW4
    go_roundw
    case rel => exact ⟨k + 1, by omega, by go_num, _, _, _, HI6⟩
    case measure => simp [intOf]; omega
  · obtain rfl : N = k := by omega
    have hend : Hid (KwAt wr wr.heap.size bw n N CLS) := by
     have hl := zd hI.out.bx
     obtain ⟨A0, c0, e0, _, _, hf⟩ := hI.out.own.form
     cases e0
     obtain ⟨g, rfl, _, hg, hcs⟩ := hf (by have := HN1.out; omega)
     refine ⟨hl, za hI.out.bx 10 rfl, ⟨g, 0, cQ, za hI.out.bx 11 rfl, hg, fun q hq => ?_⟩, HKL.out⟩
     obtain ⟨A', c', e1, e2⟩ := hI.out.rows q hq
     exact ⟨A', c', by rw [Nat.zero_add]; exact hcs q _ e1, gq e2 (fun _ _ _ => rfl)⟩
    have HBE := zH hI.out.below
    clear hI
    go_wp2_with fail
    go_ret2
    refine ⟨HBE.out, bw, rfl, ?_⟩
    rw [HNN.out, Int.toNat_natCast]
    exact hend.out
end
section
theorem ZS : ∀ (a b : List Bool), a.length = b.length → (∀ i, a.getD i false = true → b.getD i false = true) → a.count true ≤ b.count true ∧ (a ≠ b → a.count true < b.count true)
 | [], [], _, _ => ⟨Nat.le_refl _, fun h => absurd rfl h⟩
 | x :: a, y :: b, hl, h => by
  obtain ⟨h1, h2⟩ := ZS a b (by simpa using hl) (fun i hi => h (i + 1) hi)
  have h0 := h 0
  simp only [List.getD_cons_zero] at h0
  simp only [List.count_cons]
  cases x with
  | false =>
   cases y with
   | false => exact ⟨by simpa using h1, fun hne => by simpa using h2 (fun e => hne (by rw [e]))⟩
   | true => simp; omega
  | true =>
   rw [h0 rfl]
   exact ⟨by simpa using h1, fun hne => by have := h2 (fun e => hne (by rw [e])); simpa using this⟩
theorem bools_ext {n : Nat} {a b : List Bool} (ha : a.length = n) (hb : b.length = n) (h : ∀ i, i < n → (a.getD i false = true ↔ b.getD i false = true)) : a = b := by
 refine List.ext_getElem (by omega) fun i h1 h2 => ?_
 have := h i (by omega)
 rw [yh h1, yh h2] at this
 exact Bool.eq_iff_iff.2 this
theorem Jd {n : Nat} {F : Nat → List Bool} (hl : ∀ m, (F m).length = n) (hd : ∀ m i, (F (m + 1)).getD i false = true → (F m).getD i false = true) : ∃ M, M ≤ n ∧ F (M + 1) = F M ∧ ∀ m, m < M → F (m + 1) ≠ F m := by
 have key : ∀ k, (∀ m, m < k → F (m + 1) ≠ F m) → (F k).count true + k ≤ n := by
  intro k
  induction k with
  | zero => intro _; have := List.count_le_length (a := true) (l := F 0); rw [hl] at this; omega
  | succ k ih =>
   intro h
   have h1 := ih fun m hm => h m (by omega)
   have h2 := (ZS (F (k + 1)) (F k) (by rw [hl, hl]) (hd k)).2 (h k (by omega))
   omega
 have hex : ∃ m, F (m + 1) = F m := by
  refine Classical.byContradiction fun hn => ?_
  have := key (n + 1) fun m _ e => hn ⟨m, e⟩
  omega
 obtain ⟨m, hm⟩ := hex
 obtain ⟨M, _, h2, h3⟩ := qA (p := fun m => F (m + 1) = F m) m hm
 exact ⟨M, by have := key M h3; omega, h2, h3⟩
def yK (n : Nat) (ev : List Bool → List Bool) (set : List Bool) : Nat → List Bool
 | 0 => List.replicate n true
 | m + 1 => ev (js n set (yK n ev set m))
def yZ (n : Nat) (ev : List Bool → List Bool) (set : List Bool) : Nat → List Bool
 | 0 => set
 | m + 1 => js n (yZ n ev set m) (ev (yZ n ev set m))
def xd (n : Nat) (ev : List Bool → List Bool) (set : List Bool) : Nat → List Int
 | 0 => List.replicate n (-1)
 | m + 1 => (List.range n).map fun i => if (yZ n ev set m).getD i false then (m : Int) else (xd n ev set m).getD i 0
theorem outS_len (n : Nat) (ev : List Bool → List Bool) (set : List Bool) : ∀ m, (xd n ev set m).length = n
 | 0 => by simp [xd]
 | m + 1 => by simp [xd]
def vX (n : Nat) (ev : List Bool → List Bool) (set : List Bool) (M : Nat) : List Int := (List.range n).map fun i => if (yZ n ev set M).getD i false then (n : Int) else (xd n ev set M).getD i 0
theorem kw {n : Nat} {a b : List Bool} {i : Nat} (h : i < n) : (js n a b).getD i false = (a.getD i false && b.getD i false) := by rw [yh (by rw [xM]; exact h), YI h]
section
variable {n : Nat} {cls : Nat → List Int} {ps : List Nat} {set : List Bool}
theorem je : ∀ m, (yK n (evL n cls ps) set m).length = n
 | 0 => by simp [yK]
 | m + 1 => jA _ _ _ _
theorem gG (hs : set.length = n) : ∀ m, (yZ n (evL n cls ps) set m).length = n
 | 0 => hs
 | _ + 1 => xM _ _ _
theorem gP {l : List Bool} {i : Nat} (h : l.length ≤ i) : l.getD i false = false := by rw [List.getD_eq_getElem?_getD, List.getElem?_eq_none h]; rfl
theorem evL_mono {a b : List Bool} (h : ∀ i, i < n → a.getD i false = true → b.getD i false = true) {i : Nat} (hi : i < n) (ha : (evL n cls ps a).getD i false = true) : (evL n cls ps b).getD i false = true :=
 (Yz hi ps).2 fun p hp j hj e => h j hj ((Yz hi ps).1 ha p hp j hj e)
theorem gB : ∀ m i, (yK n (evL n cls ps) set (m + 1)).getD i false = true → (yK n (evL n cls ps) set m).getD i false = true
 | 0, i, h => by
  by_cases hi : i < n
  · simp [yK, List.getD_eq_getElem?_getD, hi]
  · rw [gP (by rw [je]; omega)] at h; cases h
 | m + 1, i, h => by
  by_cases hi : i < n
  · refine evL_mono (fun j hj hh => ?_) hi h
    rw [kw hj, Bool.and_eq_true] at hh ⊢
    exact ⟨hh.1, gB m j hh.2⟩
  · rw [gP (by rw [je]; omega)] at h; cases h
theorem QE (hs : set.length = n) (m i : Nat) (h : (yZ n (evL n cls ps) set (m + 1)).getD i false = true) : (yZ n (evL n cls ps) set m).getD i false = true := by
 by_cases hi : i < n
 · rw [yZ, kw hi, Bool.and_eq_true] at h; exact h.1
 · rw [gP (by rw [gG hs]; omega)] at h; cases h
variable {f : List Int}
theorem QX (hps : ps ≠ []) (hf : Far n (yw ps cls) (fun i => i ∈ zS set) (fun i => f.getD i 0)) {x : List Bool} {m : Int} (hm : 0 ≤ m) (hx : ∀ i, i < n → (x.getD i false = true ↔ f.getD i 0 < 0 ∨ m < f.getD i 0)) {i : Nat} (hi : i < n) :
  (evL n cls ps x).getD i false = true ↔ f.getD i 0 < 0 ∨ m + 1 < f.getD i 0 := by
 rw [Yz hi ps]
 constructor
 · intro h
   refine Classical.byContradiction fun hn => ?_
   have h0 : 0 ≤ f.getD i 0 ∧ f.getD i 0 ≤ m + 1 := by omega
   by_cases e : f.getD i 0 ≤ m
   · obtain ⟨p, hp⟩ := List.exists_mem_of_ne_nil ps hps
     have := (hx i hi).1 (h p hp i hi rfl)
     omega
   · obtain ⟨k, hk, ⟨p, hp, he⟩, hfk⟩ := hf.step i hi (by show 0 < f.getD i 0; omega)
     have := (hx k hk).1 (h p hp k hk he.symm)
     change f.getD k 0 = f.getD i 0 - 1 at hfk
     omega
 · intro h p hp j hj e
   refine (hx j hj).2 (Classical.byContradiction fun hn => ?_)
   obtain ⟨h1, h2⟩ := hf.low i j hi hj ⟨p, hp, e.symm⟩ (by show 0 ≤ f.getD j 0; omega)
   change 0 ≤ f.getD i 0 at h1
   change f.getD i 0 ≤ f.getD j 0 + 1 at h2
   omega
theorem wh (hs : set.length = n) (hf : Far n (yw ps cls) (fun i => i ∈ zS set) (fun i => f.getD i 0)) {i : Nat} (hi : i < n) : set.getD i false = true ↔ f.getD i 0 < 0 ∨ (0 : Int) < f.getD i 0 := by
 have h1 := hf.zero i hi
 have h2 := hf.ge i hi
 change f.getD i 0 = 0 ↔ i ∈ zS set at h1
 rw [vD] at h1
 cases hb : set.getD i false with
 | true =>
  refine ⟨fun _ => ?_, fun _ => rfl⟩
  have : ¬ f.getD i 0 = 0 := fun e => by have := (h1.1 e).2; rw [hb] at this; cases this
  omega
 | false =>
  have := h1.2 ⟨by omega, hb⟩
  constructor
  · intro h; cases h
  · omega
theorem vA (hps : ps ≠ []) (hs : set.length = n) (hf : Far n (yw ps cls) (fun i => i ∈ zS set) (fun i => f.getD i 0)) : ∀ (m : Nat) {i : Nat}, i < n → ((yK n (evL n cls ps) set (m + 1)).getD i false = true ↔ f.getD i 0 < 0 ∨ ((m : Int) + 1) < f.getD i 0)
 | 0, i, hi => by
  have := QX (x := js n set (yK n (evL n cls ps) set 0)) hps hf (m := 0) (Int.le_refl _) (fun j hj => by
   rw [kw hj, Bool.and_eq_true, ← wh hs hf hj]
   exact ⟨fun h => h.1, fun h => ⟨h, by simp [yK, List.getD_eq_getElem?_getD, hj]⟩⟩) hi
  simpa [yK] using this
 | m + 1, i, hi => by
  refine (QX (x := js n set (yK n (evL n cls ps) set (m + 1))) hps hf (m := (m : Int) + 1) (by omega) (fun j hj => ?_) hi).trans (by push_cast; exact Iff.rfl)
  rw [kw hj, Bool.and_eq_true, wh hs hf hj, vA hps hs hf m hj]
  omega
theorem jy (hps : ps ≠ []) (hs : set.length = n) (hf : Far n (yw ps cls) (fun i => i ∈ zS set) (fun i => f.getD i 0)) : ∀ (m : Nat) {i : Nat}, i < n → ((yZ n (evL n cls ps) set m).getD i false = true ↔ f.getD i 0 < 0 ∨ (m : Int) < f.getD i 0)
 | 0, i, hi => wh hs hf hi
 | m + 1, i, hi => by
  rw [yZ, kw hi, Bool.and_eq_true, jy hps hs hf m hi, QX hps hf (m := (m : Int)) (by omega) (fun j hj => jy hps hs hf m hj) hi]
  push_cast; omega
theorem Jz (hf : Far n (yw ps cls) (fun i => i ∈ zS set) (fun i => f.getD i 0)) {d : Nat} (h : ∀ i, i < n → f.getD i 0 ≠ (d : Int)) : ∀ (e : Nat) (i : Nat), i < n → f.getD i 0 ≠ ((d + e : Nat) : Int)
 | 0, i, hi => h i hi
 | e + 1, i, hi => fun he => by
  obtain ⟨k, hk, _, hfk⟩ := hf.step i hi (by show 0 < f.getD i 0; omega)
  change f.getD k 0 = f.getD i 0 - 1 at hfk
  exact Jz hf h e k hk (by omega)
theorem um (hf : Far n (yw ps cls) (fun i => i ∈ zS set) (fun i => f.getD i 0)) {d : Nat} (h : ∀ i, i < n → f.getD i 0 ≠ (d : Int)) {i : Nat} (hi : i < n) : f.getD i 0 < (d : Int) := by
 refine Classical.byContradiction fun hn => ?_
 obtain ⟨e, he⟩ := Int.eq_ofNat_of_zero_le (by omega : 0 ≤ f.getD i 0 - d)
 exact Jz hf h e i hi (by omega)
theorem now_held (hps : ps ≠ []) (hs : set.length = n) (hf : Far n (yw ps cls) (fun i => i ∈ zS set) (fun i => f.getD i 0)) {M : Nat} (hM : yK n (evL n cls ps) set (M + 1) = yK n (evL n cls ps) set M) {i : Nat} (hi : i < n) :
  (yK n (evL n cls ps) set M).getD i false = true ↔ f.getD i 0 < 0 := by
 cases M with
 | zero =>
  have h1 : ∀ j, j < n → f.getD j 0 < 0 ∨ (1 : Int) < f.getD j 0 := fun j hj => by
   have := (vA hps hs hf 0 hj).1 (by rw [hM]; simp [yK, List.getD_eq_getElem?_getD, hj])
   simpa using this
  have h2 := um hf (d := 0) (fun j hj e => by have := h1 j hj; omega) hi
  exact ⟨fun _ => h2, fun _ => by simp [yK, List.getD_eq_getElem?_getD, hi]⟩
 | succ M =>
  have h2 := um hf (d := M + 2) (fun j hj e => by
   have a := vA hps hs hf M hj
   have b := vA hps hs hf (M + 1) hj
   rw [hM, a] at b
   push_cast at b e
   omega) hi
  have h3 := vA hps hs hf (M + 1) hi
  rw [hM] at h3
  rw [h3]
  push_cast at h2 ⊢; omega
theorem lev_held (hps : ps ≠ []) (hs : set.length = n) (hf : Far n (yw ps cls) (fun i => i ∈ zS set) (fun i => f.getD i 0)) {M : Nat} (hM : yZ n (evL n cls ps) set (M + 1) = yZ n (evL n cls ps) set M) {i : Nat} (hi : i < n) : f.getD i 0 < (M : Int) + 1 := by
 have := um hf (d := M + 1) (fun j hj e => by
  have a := jy hps hs hf M hj
  have b := jy hps hs hf (M + 1) hj
  rw [hM, a] at b
  push_cast at b e
  omega) hi
 push_cast at this; exact this
theorem Jq (hps : ps ≠ []) (hs : set.length = n) (hf : Far n (yw ps cls) (fun i => i ∈ zS set) (fun i => f.getD i 0)) : ∀ (m : Nat) {i : Nat}, i < n → (xd n (evL n cls ps) set m).getD i 0 = (if f.getD i 0 < 0 ∨ (m : Int) < f.getD i 0 then (m : Int) else f.getD i 0) - 1
 | 0, i, hi => by
  have h2 := hf.ge i hi
  change -1 ≤ f.getD i 0 at h2
  rw [xd, List.getD_eq_getElem?_getD, List.getElem?_replicate, if_pos hi]
  change (-1 : Int) = _
  split <;> omega
 | m + 1, i, hi => by
  rw [xd, zF (by simpa using hi), List.getElem_map, List.getElem_range]
  have h1 := jy hps hs hf m hi
  by_cases h : f.getD i 0 < 0 ∨ (m : Int) < f.getD i 0
  · rw [if_pos (h1.2 h)]
    push_cast
    split <;> omega
  · rw [if_neg (fun e => h (h1.1 e)), Jq hps hs hf m hi, if_neg h]
    push_cast
    split <;> omega
theorem out_lev (hps : ps ≠ []) (hs : set.length = n) (hf : Far n (yw ps cls) (fun i => i ∈ zS set) (fun i => f.getD i 0)) {M : Nat} (hM : yZ n (evL n cls ps) set (M + 1) = yZ n (evL n cls ps) set M) {i : Nat} (hi : i < n) :
  (vX n (evL n cls ps) set M).getD i 0 = if f.getD i 0 < 0 then (n : Int) else f.getD i 0 - 1 := by
 unfold vX
 rw [zF (by simpa using hi), List.getElem_map, List.getElem_range]
 have h1 := jy hps hs hf M hi
 have h2 := lev_held hps hs hf hM hi
 by_cases h : f.getD i 0 < 0
 · rw [if_pos (h1.2 (.inl h)), if_pos h]
 · rw [if_neg (fun e => by rcases h1.1 e with a | a <;> omega), Jq hps hs hf M hi, if_neg (by omega), if_neg h]
end
end
section
open Go.RowKit Go.Shelf
attribute [local go_sem] Oper.semAt_some
def JP (s : Sy) (g : Int) (set : List Bool) (w : World) (e : Ending) (w' : World) : Prop := Below w.heap.size w w' ∧ ((zt s g set ≠ 0 ∧ e = .returned (.tuple #[.pointer none, .int .i64 (zt s g set)])) ∨
 (zt s g set = 0 ∧ ∃ bw, e = .returned (.tuple #[.pointer (some ⟨bw, 0, none⟩), .int .i64 0]) ∧ KwAt w' w'.heap.size bw (ptn s) s.n.toNat (zY s)))
set_option maxRecDepth 100000 in
theorem gx (s : Sy) (hs : LowS s) (hf : xb s.p) (g : Int) (set : List Bool) (A SV AV AX AB : Option Addr) (kc ks kv kx kb : Nat) (_hsl : set.length ≤ 1000000) (w : World) (hS : SyAt w w.heap.size A SV AV AX s) :
  Calls Tryz.prog 116 #[.agg (s.vs_ A kc SV ks AV kv AX kx), .int .i64 g, .slice AB set.length kb] w (JP s g set w) := by
 obtain ⟨w1, hw1, d0, hs1, hB⟩ := zi w (s.vs_ A kc SV ks AV kv AX kx) 35
 have HNW := zH (Yn s hs hf A SV AV AX kc ks kv kx w1 (hS.up hB))
 have HE0 : Hid (yE s ≠ 0 → zt s g set = yE s) := fun h => by
  have : zK s g = yE s := if_pos h
  unfold zt; rw [this, if_pos h]
 have HE1 : Hid (yE s = 0 → (∃ N : Nat, s.n = (N : Int) ∧ 1 ≤ N ∧ N ≤ 5 ∧ ((g < 0 ∨ (2 : Int) ^ N ≤ g) → zt s g set = 2) ∧ (¬ (g < 0 ∨ (2 : Int) ^ N ≤ g) → zt s g set = if set.length ≠ ptn s then 15 else 0)) ∧ ptn s ≤ 700) := fun h => by
  obtain ⟨_, K, N, hF⟩ := qd hf h
  have hr : zK s g = if g < 0 ∨ (2 : Int) ^ N ≤ g then 2 else 0 := by unfold zK; rw [if_neg (by simpa using h), hF.n, Int.toNat_natCast]
  have hpn : ptn s ≤ 700 := by
   have hk := hF.k
   have hk6 := hF.k6
   have := Nat.mul_le_mul hF.lx (show K + 1 ≤ 7 by omega)
   unfold ptn; rw [hk, Int.toNat_natCast]; omega
  refine ⟨⟨N, hF.n, hF.n1, hF.n5, fun h2 => ?_, fun h2 => ?_⟩, hpn⟩
  · unfold zt; rw [hr, if_pos h2]; rfl
  · unfold zt; rw [hr, if_neg h2, if_neg (by simp)]
 unfold RetKw at HNW
 unfold JP
 obtain ⟨r, hr⟩ : ∃ r, yE s = r := ⟨_, rfl⟩
 rw [hr] at HNW HE0 HE1
 obtain ⟨E, hE⟩ : ∃ E, zt s g set = E := ⟨_, rfl⟩
 rw [hE] at HE0 HE1 ⊢
 obtain ⟨n, hn⟩ : ∃ n, ptn s = n := ⟨_, rfl⟩
 rw [hn] at HNW HE1 ⊢
 unfold Sy.vs_ at hw1 d0 HNW ⊢
 have HW1 := zH hw1
 have HB := zH hB
 have HD := zH d0
 obtain ⟨p0, p1, p2, p3, p4, p5, p6, p7, p8, p9⟩ := zx (d0)
 clear hw1 d0 hB hS hr hs hf hn hE
 go_enter Tryz.func116, Tryz.ntmps116
 go_wp2_with fail
 rw [HW1.out]
 go_wp2_with fail
 refine HNW.out.mono ?_
 rintro e w2 ⟨hb2, hcase⟩
 have HB2 := zH (HB.out.trans (hb2.mono (by omega)))
 have HD := zH ((hb2.block _ (zd HD.out)).trans HD.out)
 clear p0 p1 p2 p3 p4 p5 p6 p7 p8 p9 hb2 HNW HW1 HB
 rcases hcase with ⟨h0, rfl⟩ | ⟨rfl, bw, rfl, hK⟩
 · have hR : Hid (E = r) := HE0.out h0
   have e0 : (r != 0) = true := by simpa using h0
   clear HE0 HE1 HD
   go_wp2_with fail
   go_ret2
   rw [hR.out]
   exact ⟨HB2.out, .inl ⟨h0, rfl⟩⟩
 obtain ⟨⟨N, hN, hN1, hN5, hbad, hok⟩, hpn⟩ := HE1.out rfl
 have HBAD := zH hbad
 have HOK := zH hok
 have HNN := zH hN
 have HK := zH hK
 have z10 := hK.size
 have h2b : (1 : Int) ≤ (2 : Int) ^ N ∧ (2 : Int) ^ N ≤ 32 := by
  obtain rfl | rfl | rfl | rfl | rfl : N = 1 ∨ N = 2 ∨ N = 3 ∨ N = 4 ∨ N = 5 := by omega
  all_goals decide
 have hwT : IntKind.i64.wrap ((2 : Int) ^ N) = (2 : Int) ^ N := by rw [IntKind.wrap_i64]; omega
 have hmn : min N 64 = N := by omega
 have q7 : w2.cell? ⟨w.heap.size, 7, none⟩ = some (.int .i64 (N : Int)) := by rw [← HNN.out]; exact za HD.out 7 rfl
 have hlK := HK.out.lt
 clear HE0 HE1 hbad hok hN hK h2b
 by_cases hneg : g < 0
 · have hR : Hid (E = 2) := HBAD.out (.inl hneg)
   have e0 : decide (g < 0) = true := decide_eq_true hneg
   clear HBAD HOK HD z10
   go_wp2_with fail
   go_ret2
   rw [hR.out]
   exact ⟨HB2.out, .inl ⟨by decide, rfl⟩⟩
 have e0 : decide (g < 0) = false := decide_eq_false hneg
 by_cases hbig : (2 : Int) ^ N ≤ g
 · have hR : Hid (E = 2) := HBAD.out (.inr hbig)
   have e1 : decide (g ≥ (2 : Int) ^ N) = true := decide_eq_true hbig
   have e2 : decide ((2 : Int) ^ N ≤ g) = true := decide_eq_true hbig
   clear HBAD HOK HD z10
   go_wp2_with fail
   go_ret2
   rw [hR.out]
   exact ⟨HB2.out, .inl ⟨by decide, rfl⟩⟩
 have e1 : decide (g ≥ (2 : Int) ^ N) = false := decide_eq_false hbig
 have e2 : decide ((2 : Int) ^ N ≤ g) = false := decide_eq_false hbig
 have hR0 := HOK.out (by omega)
 by_cases hlen : set.length = n
 · have hR : Hid (E = 0) := by rw [Hid, hR0, if_neg (by simpa using hlen)]
   have HLN := zH hlen
   obtain ⟨ln, hln⟩ : ∃ ln, set.length = ln := ⟨_, rfl⟩
   rw [hln] at hlen
   subst hlen
   rw [hln] at *
   clear HBAD HOK HD hR0 hln
   go_wp2_with fail
   go_ret2
   rw [hR.out]
   exact ⟨HB2.out, .inr ⟨rfl, bw, rfl, HK.out⟩⟩
 · have hR : Hid (E = 15) := by rw [Hid, hR0, if_pos hlen]
   have e3 : ((set.length : Int) != (n : Int)) = true := by simp; omega
   have i3 : ¬ (set.length : Int) = (n : Int) := by omega
   clear HBAD HOK HD hR0
   go_wp2_with fail
   go_ret2
   rw [hR.out]
   exact ⟨HB2.out, .inl ⟨by decide, rfl⟩⟩
set_option maxRecDepth 100000 in
theorem Xv (bw n N : Nat) (cls : Nat → List Int) (h1 : 1 ≤ n) (hn : n ≤ 100000) (hN : N ≤ 5) (G : Nat) (hG : G < 32) (B : Option Addr) (cb : Nat) (set : List Bool) (hb : set.length = n) (M : Nat) (hMn : M ≤ n) (hM : yK n (evL n cls (zk G N)) set (M + 1) = yK n (evL n cls (zk G N)) set M) (hlt : ∀ m, m < M → yK n (evL n cls (zk G N)) set (m + 1) ≠ yK n (evL n cls (zk G N)) set m)
  (w : World) (hK : KwAt w w.heap.size bw n N cls) (hB : BAt w w.heap.size B set) :
  Calls Tryz.prog 117 #[.pointer (some ⟨bw, 0, none⟩), .int .i64 (G : Int), .slice B n cb] w fun e w' => ∃ g : Nat, e = .returned (.tuple #[.slice (some ⟨g, 0, none⟩) n n, .int .i64 (M : Int)]) ∧ w.heap.size ≤ g ∧ BRow w' g (yK n (evL n cls (zk G N)) set M) ∧ Below w.heap.size w w' := by
 have HA := zH (Xw bw n N cls h1 hn w hK)
 have HEV := zH (fun (g : Nat) (x : List Bool) (hx : x.length = n) (X : World) (hX : Below w.heap.size w X) (hr : BRow X g x) => jT bw n N cls h1 hn hN G hG (some ⟨g, 0, none⟩) n x hx X ((hK.keep hX).more hX.size) (hr.at_ hr.lt))
 have HBO := zH (fun (g : Nat) (x : List Bool) (hx : x.length = n) (X : World) (hX : Below w.heap.size w X) (hr : BRow X g x) => uj B (some ⟨g, 0, none⟩) cb n n hn set x hb hx X ((hB.keep hX).more hX.size) (hr.at_ hr.lt))
 have HLN : Hid (∀ m, (yK n (evL n cls (zk G N)) set m).length = n) := fun m => je m
 have HST : Hid (∀ m, evL n cls (zk G N) (js n set (yK n (evL n cls (zk G N)) set m)) = yK n (evL n cls (zk G N)) set (m + 1)) := fun _ => rfl
 have HM := zH hM
 have HLT := zH hlt
 unfold uv at HA HEV HBO
 rw [List.length_replicate] at HA
 simp only [jA] at HEV
 simp only [xM] at HBO
 have h00 : Hid (yK n (evL n cls (zk G N)) set 0 = List.replicate n true) := rfl
 obtain ⟨F, hF⟩ : ∃ F, yK n (evL n cls (zk G N)) set = F := ⟨_, rfl⟩
 rw [hF] at HLN HST HM HLT h00 ⊢
 clear hK hB hb hM hlt hF
 go_enter Tryz.func117, Tryz.ntmps117
 go_wp2_with fail
 refine HA.out.mono ?_
 rintro e w2 ⟨g2, rfl, hg2, hr2, hb2⟩
 have HR2 : Hid (BRow w2 g2 (F 0)) := by rw [h00.out]; exact hr2
 have HB2 := zH hb2
 clear hr2 hb2 HA h00
 go_wp2_with fail
 go_loopw [8, 9] (fun o i wr => ∃ k g : Nat, k ≤ M ∧ i = .int .i64 (k : Int) ∧ o = .slice (some ⟨g, 0, none⟩) n n ∧ w.heap.size ≤ g ∧ Hid (BRow wr g (F k)) ∧ Hid (Below w.heap.size w wr)) (fun _ i _ => M + 1 - (intOf i).toNat)
 case atStart => exact ⟨0, g2, by omega, rfl, rfl, hg2, HR2, HB2⟩
 case round =>
  obtain ⟨k, g, hk, rfl, rfl, hg, hr, hbw⟩ := hrel
  clear HR2
  have hsw := hbw.out.size
  have HC := zH (HBO.out g (F k) (HLN.out k) wr hbw.out hr.out)
  go_wp2_with fail
  refine HC.out.mono ?_
  rintro e w3 ⟨g3, rfl, hg3, hr3, hb3⟩
  have HR3 : Hid (BRow w3 g (F k)) := (hb3.block _ hr.out.lt).trans hr.out
  have HB3 := zH (hbw.out.trans (hb3.mono hsw))
  have HC2 := zH (HEV.out g3 _ (xM _ _ _) w3 HB3.out hr3)
  simp only [HST.out] at HC2
  clear hr3 hb3 HC hr hbw
  go_wp2_with fail
  refine HC2.out.mono ?_
  rintro e w4 ⟨g4, rfl, hg4, hr4, hb4⟩
  have HR4 := zH hr4
  have HR5 : Hid (BRow w4 g (F k)) := (hb4.block _ HR3.out.lt).trans HR3.out
  have HB4 := zH (HB3.out.trans (hb4.mono HB3.out.size))
  have heq := wu (some ⟨g4, 0, none⟩) (some ⟨g, 0, none⟩) n n (F (k + 1)) (F k) w4 w4.heap.size (Nat.le_refl _) (HR4.out.at_ HR4.out.lt) (HR5.out.at_ HR5.out.lt) (by rw [HLN.out]; omega) (by rw [HLN.out]; omega)
  rw [HLN.out, HLN.out] at heq
  have HEQ := zH heq
  have hs4 := HB4.out.size
  have hg4' : w.heap.size ≤ g4 := by have := HB3.out.size; omega
  clear hr4 hb4 HC2 HB3 HR3 heq
  go_wp2_with fail
  refine HEQ.out.mono ?_
  rintro e w5 ⟨rfl, q, rfl⟩
  have HB5 := zH (HB4.out.trans (zU (Below.refl _ _) q))
  have HR6 : Hid (BRow (w4.drewN q) g4 (F (k + 1))) := HR4.out
  have HR7 : Hid (BRow (w4.drewN q) g (F k)) := HR5.out
  obtain ⟨w5, hw5⟩ : ∃ w5, w4.drewN q = w5 := ⟨_, rfl⟩
  rw [hw5] at HB5 HR6 HR7 ⊢
  clear hw5 HEQ HR4 HR5 HB4
  by_cases hst : F (k + 1) = F k
  · have hkM : k = M := by
     refine Classical.byContradiction fun hne => ?_
     exact HLT.out k (by omega) hst
    subst hkM
    have e0 : decide (F (k + 1) = F k) = true := decide_eq_true hst
    rw [e0]
    clear hst e0
    go_wp2_with fail
    go_ret2
    exact ⟨g, rfl, hg, HR7.out, HB5.out⟩
  · have hkM : k < M := by
     refine Classical.byContradiction fun hne => ?_
     have : k = M := by omega
     subst this
     exact hst HM.out
    have e0 : decide (F (k + 1) = F k) = false := decide_eq_false hst
    rw [e0]
    clear hst e0
    go_wp2_with fail
    go_roundw
    case rel => exact ⟨k + 1, g4, by omega, by go_num, rfl, hg4', HR6, HB5⟩
    case measure => simp [intOf]; omega
end
section
open Go.RowKit Go.Shelf
attribute [local go_sem] Oper.semAt_some
theorem BAt.raw {w : World} {A : Option Addr} {bs : List Bool} (h : BAt w w.heap.size A bs) : Raw w A bs.length (bs.map Value.bool) := fun h0 => by
 obtain ⟨b, off, e, hlt, hc⟩ := h h0
 refine ⟨b, off, e, hlt, fun j u hj => ?_⟩
 rw [List.getElem?_map] at hj
 obtain ⟨x, hx, rfl⟩ := Option.map_eq_some_iff.1 hj
 obtain ⟨hl, rfl⟩ := List.getElem?_eq_some_iff.1 hx
 exact hc j hl
theorem row_ne {w : World} {g b o : Nat} {xs : List Int} {x : Bool} (h : RowAt w g xs) (hb : w.cell? ⟨b, o, none⟩ = some (.bool x)) : b ≠ g := by
 rintro rfl
 by_cases ho : o < xs.length
 · rw [h.cell o ho] at hb; cases hb
 · have : w.cell? ⟨b, o, none⟩ = none := by
    unfold RowAt at h
    simp [World.cell?, h]
    omega
   rw [this] at hb; cases hb
def evG (s : Sy) (g : Int) : List Bool → List Bool := evL (ptn s) (zY s) (psG s g)
def RetCo (s : Sy) (g : Int) (set : List Bool) (w : World) (e : Ending) (w' : World) : Prop := Below w.heap.size w w' ∧ ((zt s g set ≠ 0 ∧ e = .returned (.tuple #[.slice none 0 0, .int .i64 0, .int .i64 (zt s g set)])) ∨
 (zt s g set = 0 ∧ ∃ (M gr : Nat), e = .returned (.tuple #[.slice (some ⟨gr, 0, none⟩) (ptn s) (ptn s), .int .i64 (M : Int), .int .i64 0]) ∧ M ≤ ptn s ∧ yK (ptn s) (evG s g) set (M + 1) = yK (ptn s) (evG s g) set M ∧ (∀ m, m < M → yK (ptn s) (evG s g) set (m + 1) ≠ yK (ptn s) (evG s g) set m) ∧ w.heap.size ≤ gr ∧ BRow w' gr (yK (ptn s) (evG s g) set M)))
def RetLv (s : Sy) (g : Int) (set : List Bool) (w : World) (e : Ending) (w' : World) : Prop := Below w.heap.size w w' ∧ ((zt s g set ≠ 0 ∧ e = .returned (.tuple #[.slice none 0 0, .int .i64 (zt s g set)])) ∨
 (zt s g set = 0 ∧ ∃ (M gr : Nat), e = .returned (.tuple #[.slice (some ⟨gr, 0, none⟩) (ptn s) (ptn s), .int .i64 0]) ∧ yZ (ptn s) (evG s g) set (M + 1) = yZ (ptn s) (evG s g) set M ∧ (∀ m, m < M → yZ (ptn s) (evG s g) set (m + 1) ≠ yZ (ptn s) (evG s g) set m) ∧ w.heap.size ≤ gr ∧ RowAt w' gr (vX (ptn s) (evG s g) set M)))
theorem uQ {s : Sy} {g : Int} {set : List Bool} (hf : xb s.p) (h : zt s g set = 0) : ∃ G : Nat, g = (G : Int) ∧ G < 32 ∧ s.n.toNat ≤ 5 ∧ 1 ≤ ptn s ∧ ptn s ≤ 700 ∧ set.length = ptn s ∧ psG s g = zk G s.n.toNat := by
 obtain ⟨h1, h2⟩ := xY h
 obtain ⟨hv, hg0, hg1⟩ := Y7 h1
 obtain ⟨_, K, N, hF⟩ := qd hf hv
 obtain ⟨f1, f2, _⟩ := xy hf h1
 obtain ⟨G, rfl⟩ := Int.eq_ofNat_of_zero_le hg0
 have hN : s.n.toNat = N := by rw [hF.n]; rfl
 have hn5 := hF.n5
 refine ⟨G, rfl, ?_, by omega, f1, f2, h2, rfl⟩
 rw [hN] at hg1
 have := Nat.pow_le_pow_right (n := 2) (show 0 < 2 by omega) hn5
 have h2' : ((2 ^ N : Nat) : Int) = (2 : Int) ^ N := by push_cast; rfl
 omega
set_option maxRecDepth 100000 in
theorem Xy (s : Sy) (hs : LowS s) (hf : xb s.p) (g : Int) (set : List Bool) (A SV AV AX AB : Option Addr) (kc ks kv kx kb : Nat) (hsl : set.length ≤ 1000000) (w : World) (hS : SyAt w w.heap.size A SV AV AX s) (hB0 : BAt w w.heap.size AB set) :
  Calls Tryz.prog 58 #[.agg (s.vs_ A kc SV ks AV kv AX kx), .int .i64 g, .slice AB set.length kb] w (RetCo s g set w) := by
 obtain ⟨w1, hw1, d0, hs1, hB⟩ := zi w (s.vs_ A kc SV ks AV kv AX kx) 35
 have HO := zH (gx s hs hf g set A SV AV AX AB kc ks kv kx kb hsl w1 (hS.up hB))
 have HBA : Hid (∀ X, Below w1.heap.size w1 X → BAt X X.heap.size AB set) := fun X hX => (((hB0.keep hB).more hB.size).keep hX).more hX.size
 have HC : Hid (zt s g set = 0 → ∃ (G M : Nat), g = (G : Int) ∧ M ≤ ptn s ∧ yK (ptn s) (evG s g) set (M + 1) = yK (ptn s) (evG s g) set M ∧ (∀ m, m < M → yK (ptn s) (evG s g) set (m + 1) ≠ yK (ptn s) (evG s g) set m) ∧ set.length = ptn s ∧
   ∀ (bw : Nat) (X : World), Below w1.heap.size w1 X → KwAt X X.heap.size bw (ptn s) s.n.toNat (zY s) → Calls Tryz.prog 117 #[.pointer (some ⟨bw, 0, none⟩), .int .i64 (G : Int), .slice AB (ptn s) kb] X fun e w' => ∃ g' : Nat, e = .returned (.tuple #[.slice (some ⟨g', 0, none⟩) (ptn s) (ptn s), .int .i64 (M : Int)]) ∧ X.heap.size ≤ g' ∧ BRow w' g' (yK (ptn s) (evG s g) set M) ∧ Below X.heap.size X w') := fun h => by
  obtain ⟨G, hg, hG, hN, hn1, hn7, hl, hps⟩ := uQ hf h
  obtain ⟨M, m1, m2, m3⟩ := Jd (F := yK (ptn s) (evL (ptn s) (zY s) (psG s g)) set) je gB
  refine ⟨G, M, hg, m1, m2, m3, hl, fun bw X hX hK => ?_⟩
  unfold evG
  rw [hps] at m2 m3 ⊢
  exact Xv bw (ptn s) s.n.toNat (zY s) hn1 (by omega) hN G hG AB kb set hl M m1 m2 m3 X hK (HBA.out X hX)
 unfold JP at HO
 unfold RetCo
 obtain ⟨E, hE⟩ : ∃ E, zt s g set = E := ⟨_, rfl⟩
 rw [hE] at HO HC ⊢
 obtain ⟨n, hn⟩ : ∃ n, ptn s = n := ⟨_, rfl⟩
 rw [hn] at HO HC ⊢
 unfold Sy.vs_ at hw1 d0 HO ⊢
 have HW1 := zH hw1
 have HB := zH hB
 obtain ⟨p0, p1, p2, p3, p4, p5, p6, p7, p8, p9⟩ := zx (d0)
 clear hw1 d0 hB hS hB0 hs hf hE HBA hn
 go_enter Tryz.func58, Tryz.ntmps58
 go_wp2_with fail
 rw [HW1.out]
 go_wp2_with fail
 refine HO.out.mono ?_
 rintro e w2 ⟨hb2, hcase⟩
 have HB2 := zH hb2
 clear p0 p1 p2 p3 p4 p5 p6 p7 p8 p9 hb2 HO HW1
 rcases hcase with ⟨h0, rfl⟩ | ⟨rfl, bw, rfl, hK⟩
 · have e0 : (E != 0) = true := by simpa using h0
   clear HC
   go_wp2_with fail
   go_ret3
   exact ⟨HB.out.trans (HB2.out.mono HB.out.size), .inl ⟨h0, rfl⟩⟩
 obtain ⟨G, M, rfl, m1, m2, m3, hl, hc⟩ := HC.out rfl
 have HCC := zH (hc bw w2 HB2.out hK)
 have HM := zH (And.intro m1 (And.intro m2 m3))
 rw [hl]
 clear HC hc m1 m2 m3 hK hl
 go_wp2_with fail
 refine HCC.out.mono ?_
 rintro e w3 ⟨g3, rfl, hg3, hr3, hb3⟩
 have HR3 := zH hr3
 have HB3 := zH (HB.out.trans ((HB2.out.trans (hb3.mono HB2.out.size)).mono HB.out.size))
 have hgw : w.heap.size ≤ g3 := by have := HB.out.size; have := HB2.out.size; omega
 clear hr3 hb3 HCC
 go_wp2_with fail
 go_ret3
 exact ⟨HB3.out, M, g3, rfl, HM.out.1, HM.out.2.1, HM.out.2.2, hgw, HR3.out⟩
end
section
open Go.RowKit Go.Shelf
attribute [local go_sem] Oper.semAt_some
set_option maxRecDepth 100000 in
theorem Xx (s : Sy) (hs : LowS s) (hf : xb s.p) (g : Int) (set : List Bool) (A SV AV AX AB : Option Addr) (kc ks kv kx kb : Nat) (hsl : set.length ≤ 1000000) (w : World) (hS : SyAt w w.heap.size A SV AV AX s) (hB0 : BAt w w.heap.size AB set) :
  Calls Tryz.prog 59 #[.agg (s.vs_ A kc SV ks AV kv AX kx), .int .i64 g, .slice AB set.length kb] w (RetLv s g set w) := by
 obtain ⟨w1, hw1, d0, hs1, hB⟩ := zi w (s.vs_ A kc SV ks AV kv AX kx) 35
 have HO := zH (gx s hs hf g set A SV AV AX AB kc ks kv kx kb hsl w1 (hS.up hB))
 have HBA : Hid (∀ X, Below w1.heap.size w1 X → BAt X X.heap.size AB set) := fun X hX => (((hB0.keep hB).more hB.size).keep hX).more hX.size
 have HC : Hid (zt s g set = 0 → ∃ (G M : Nat), g = (G : Int) ∧ M ≤ ptn s ∧ yZ (ptn s) (evG s g) set (M + 1) = yZ (ptn s) (evG s g) set M ∧ (∀ m, m < M → yZ (ptn s) (evG s g) set (m + 1) ≠ yZ (ptn s) (evG s g) set m) ∧ set.length = ptn s ∧ 1 ≤ ptn s ∧ ptn s ≤ 700 ∧ (∀ m, (yZ (ptn s) (evG s g) set m).length = ptn s) ∧
   ∀ (bw : Nat) (x : List Bool) (hx : x.length = ptn s) (AQ : Option Addr) (cQ : Nat) (X : World), KwAt X X.heap.size bw (ptn s) s.n.toNat (zY s) → BAt X X.heap.size AQ x → Calls Tryz.prog 121 #[.pointer (some ⟨bw, 0, none⟩), .int .i64 (G : Int), .slice AQ (ptn s) cQ] X fun e w' => ∃ g' : Nat, e = .returned (.slice (some ⟨g', 0, none⟩) (ptn s) (ptn s)) ∧ X.heap.size ≤ g' ∧ BRow w' g' (evG s g x) ∧ Below X.heap.size X w') := fun h => by
  obtain ⟨G, hg, hG, hN, hn1, hn7, hl, hps⟩ := uQ hf h
  obtain ⟨M, m1, m2, m3⟩ := Jd (F := yZ (ptn s) (evL (ptn s) (zY s) (psG s g)) set) (gG hl) (QE hl)
  refine ⟨G, M, hg, m1, m2, m3, hl, hn1, hn7, gG hl, fun bw x hx AQ cQ X hK hB => ?_⟩
  unfold evG
  rw [hps]
  have := jT bw (ptn s) s.n.toNat (zY s) hn1 (by omega) hN G hG AQ cQ x hx X hK hB
  unfold uv at this
  rwa [jA] at this
 have HEV : Hid (∀ x, (evG s g x).length = ptn s) := fun x => jA _ _ _ _
 unfold JP at HO
 unfold RetLv
 obtain ⟨E, hE⟩ : ∃ E, zt s g set = E := ⟨_, rfl⟩
 rw [hE] at HO HC ⊢
 obtain ⟨n, hn⟩ : ∃ n, ptn s = n := ⟨_, rfl⟩
 rw [hn] at HO HC HEV ⊢
 obtain ⟨EV, hEV⟩ : ∃ EV, evG s g = EV := ⟨_, rfl⟩
 rw [hEV] at HC HEV ⊢
 have HST : Hid (∀ m, js n (yZ n EV set m) (EV (yZ n EV set m)) = yZ n EV set (m + 1)) := fun _ => rfl
 have HOL : Hid (∀ m, (xd n EV set m).length = n) := fun m => outS_len _ _ _ m
 have HON : Hid (∀ k j, j < n → (xd n EV set (k + 1)).getD j 0 = if (yZ n EV set k).getD j false then (k : Int) else (xd n EV set k).getD j 0) := fun k j h => by
  rw [xd, zF (by simpa using h), List.getElem_map, List.getElem_range]
 have HOR : Hid (∀ k j, j < n → (vX n EV set k).getD j 0 = if (yZ n EV set k).getD j false then (n : Int) else (xd n EV set k).getD j 0) := fun k j h => by
  unfold vX
  rw [zF (by simpa using h), List.getElem_map, List.getElem_range]
 have HORL : Hid (∀ k, (vX n EV set k).length = n) := fun k => by show _ = _; simp [vX]
 have HL0 : Hid (yZ n EV set 0 = set) := rfl
 have HO0 : Hid (xd n EV set 0 = List.replicate n (-1)) := rfl
 unfold Sy.vs_ at hw1 d0 HO ⊢
 have HW1 := zH hw1
 have HB := zH hB
 obtain ⟨p0, p1, p2, p3, p4, p5, p6, p7, p8, p9⟩ := zx (d0)
 clear hw1 d0 hB hS hB0 hs hf hE hn hEV
 go_enter Tryz.func59, Tryz.ntmps59
 go_wp2_with fail
 rw [HW1.out]
 go_wp2_with fail
 refine HO.out.mono ?_
 rintro e w2 ⟨hb2, hcase⟩
 have HB2 := zH hb2
 clear p0 p1 p2 p3 p4 p5 p6 p7 p8 p9 hb2 HO HW1
 rcases hcase with ⟨h0, rfl⟩ | ⟨rfl, bw, rfl, hK⟩
 · have e0 : (E != 0) = true := by simpa using h0
   clear HC
   go_wp2_with fail
   go_ret2
   exact ⟨HB.out.trans (HB2.out.mono HB.out.size), .inl ⟨h0, rfl⟩⟩
 obtain ⟨G, M, rfl, m1, m2, m3, hl, hn1, hn7, hLL, hc⟩ := HC.out rfl
 have HCC := zH (hc bw)
 have HM := zH (And.intro m1 (And.intro m2 m3))
 have HLL := zH hLL
 have HK := zH hK
 have HSL := zH hl
 have z10 := hK.size
 have hlK := hK.lt
 have hcl := fun (X : World) (hX : BAt X X.heap.size AB set) => clone_kBl AB n kb (set.map Value.bool) X (by rw [List.length_map, hl, Nat.mul_one]) (by rw [← hl]; exact hX.raw) (fun u hu => by obtain ⟨x, _, rfl⟩ := List.mem_map.1 hu; rfl) (by omega)
 have HCL := zH hcl
 obtain ⟨wa, hwa, da, hsa, hBa⟩ := zi w2 #[.int .i64 (-1)] 3
 have HRP := zH (ja n w2.heap.size hn1 (by omega) (-1) wa da)
 have HWA := zH hwa
 have HBa := zH hBa
 have za10 := (HK.out.keep hBa).size
 rw [hl]
 clear HC hc m1 m2 m3 hK hl hLL hcl hwa da hBa
 go_wp2_with fail
 rw [HWA.out]
 refine HRP.out.mono ?_
 rintro e w3 ⟨g10, rfl, hg3, hr3, hb3⟩
 have hg10 : w2.heap.size ≤ g10 := by omega
 have HR3 := zH hr3
 have HB3 := zH (HBa.out.trans (hb3.mono (by omega)))
 have hs23 := HB3.out.size
 have HC4 := zH (HCL.out w3 (HBA.out w3 (HB2.out.trans (HB3.out.mono HB2.out.size))))
 clear hr3 hb3 HRP HWA HCL HBa za10
 go_wp2_with fail
 refine HC4.out.mono ?_
 rintro e w4 ⟨v4, rfl, ho4, hb4⟩
 obtain ⟨A4, c4, rfl, _, _, _⟩ := ho4.form
 have HBA4 : Hid (BAt w4 w4.heap.size A4 (yZ n EV set 0)) := by rw [HL0.out]; exact BAt.of_own ho4 HSL.out (fun _ _ => rfl) (Nat.le_refl _)
 have HR4 : Hid (RowAt w4 g10 (xd n EV set 0)) := by rw [HO0.out]; exact (hb4.block _ HR3.out.lt).trans HR3.out
 have HB4 := zH (HB3.out.trans (hb4.mono hs23))
 clear ho4 hb4 HC4 HR3 HB3 HL0 HO0 HBA
 obtain ⟨LV, hLV⟩ : ∃ LV, yZ n EV set = LV := ⟨_, rfl⟩
 rw [hLV] at HBA4 HLL HST HON HOR HM
 go_wp2_with fail
 go_loopw [11, 12] (fun o i wr => ∃ (k : Nat) (AQ : Option Addr) (cQ : Nat), k ≤ M ∧ i = .int .i64 (k : Int) ∧ o = .slice AQ n cQ ∧ Hid (BAt wr wr.heap.size AQ (LV k)) ∧ Hid (RowAt wr g10 (xd n EV set k)) ∧ Hid (Below w2.heap.size w2 wr)) (fun _ i _ => M + 1 - (intOf i).toNat)
 case atStart => exact ⟨0, A4, c4, by omega, rfl, rfl, HBA4, HR4, HB4⟩
 case round =>
  obtain ⟨k, AQ, cQ, hk, rfl, rfl, hba, hro, hbw⟩ := hrel
  clear HBA4 HR4 HB4
  have hsw := hbw.out.size
  have HC := zH (HCC.out (LV k) (HLL.out k) AQ cQ wr ((HK.out.keep hbw.out).more hsw) hba.out)
  go_wp2_with fail
  refine HC.out.mono ?_
  rintro e w5 ⟨g5, rfl, hg5, hr5, hb5⟩
  have HBA5 := zH ((hba.out.keep hb5).more hb5.size)
  have HO5 : Hid (RowAt w5 g10 (xd n EV set k)) := (hb5.block _ hro.out.lt).trans hro.out
  have HB5 := zH (hbw.out.trans (hb5.mono hsw))
  have hc6 := uj AQ (some ⟨g5, 0, none⟩) cQ n n (by omega) (LV k) (EV (LV k)) (HLL.out k) (HEV.out _) w5 HBA5.out (hr5.at_ hr5.lt)
  unfold uv at hc6
  rw [HST.out, HLL.out] at hc6
  have HC6 := zH hc6
  clear hr5 hb5 HC hba hro hbw hc6
  go_wp2_with fail
  refine HC6.out.mono ?_
  rintro e w6 ⟨g6, rfl, hg6, hr6, hb6⟩
  have HBA6 := zH ((HBA5.out.keep hb6).more hb6.size)
  have HO6 : Hid (RowAt w6 g10 (xd n EV set k)) := (hb6.block _ HO5.out.lt).trans HO5.out
  have HR6 := zH hr6
  have HB6 := zH (HB5.out.trans (hb6.mono HB5.out.size))
  have hg6n : g6 ≠ g10 := by have := HO5.out.lt; omega
  have heq := wu (some ⟨g6, 0, none⟩) AQ n cQ (LV (k + 1)) (LV k) w6 w6.heap.size (Nat.le_refl _) (hr6.at_ hr6.lt) HBA6.out (by rw [HLL.out]; omega) (by rw [HLL.out]; omega)
  rw [HLL.out, HLL.out] at heq
  have HEQ := zH heq
  clear hr6 hb6 HC6 HBA5 HO5 HB5 heq
  go_wp2_with fail
  refine HEQ.out.mono ?_
  rintro e w7 ⟨rfl, q, rfl⟩
  have HB7 := zH (HB6.out.trans (zU (Below.refl _ _) q))
  have HBA7 : Hid (BAt (w6.drewN q) (w6.drewN q).heap.size AQ (LV k)) := HBA6.out.keep (zU (Below.refl _ _) q)
  have HR7 : Hid (BRow (w6.drewN q) g6 (LV (k + 1))) := HR6.out
  have HO7 : Hid (RowAt (w6.drewN q) g10 (xd n EV set k)) := HO6.out
  clear HB6 HBA6 HR6 HO6 HEQ
  obtain ⟨wN, hwN⟩ : ∃ wN, w6.drewN q = wN := ⟨_, rfl⟩
  rw [hwN] at HB7 HBA7 HR7 HO7 ⊢
  clear hwN
  obtain ⟨w6, rfl⟩ : ∃ x, x = wN := ⟨_, rfl⟩
  have HBA6 := HBA7
  have HO6 := HO7
  have HR6 := HR7
  have HB6 := HB7
  clear HBA7 HO7 HR7 HB7
  obtain ⟨bq, oq, rfl, hbq, zq⟩ := HBA6.out.at_ 0 (by rw [HLL.out]; omega)
  have HNE := zH (row_ne HO6.out zq)
  have z10 := ((HK.out.keep HB6.out)).size
  have hs26 := HB6.out.size
  clear zq
  by_cases hst : LV (k + 1) = LV k
  · have hkM : k = M := by
     refine Classical.byContradiction fun hne => ?_
     exact HM.out.2.2 k (by omega) hst
    subst hkM
    have e0 : decide (LV (k + 1) = LV k) = true := decide_eq_true hst
    rw [e0]
    obtain ⟨nw, hnwE⟩ : ∃ nw, vX n EV set k = nw := ⟨_, rfl⟩
    have HNL : Hid (nw.length = n) := by rw [← hnwE]; exact HORL.out k
    have HNW : Hid (∀ j, j < n → nw.getD j 0 = if (LV k).getD j false then (n : Int) else (xd n EV set k).getD j 0) := fun j h => by
     subst hnwE
     exact HOR.out k j h
    have HNWE := zH hnwE
    clear hst e0 hnwE HON HORL HST HCC
    go_wp2_with fail
    obtain ⟨wL, rfl⟩ : ∃ x, x = w6 := ⟨_, rfl⟩
    go_loopw [53] (fun i wr => ∃ j : Nat, j ≤ n ∧ i = .int .i64 (j : Int) ∧ Hid (RowAt wr g10 (ki nw (xd n EV set k) j)) ∧ Hid (∀ z, z ≠ g10 → wr.heap[z]? = wL.heap[z]?) ∧ Hid (Below w2.heap.size wL wr) ∧ wL.heap.size ≤ wr.heap.size) (fun i _ => n - (intOf i).toNat)
    case atStart => exact ⟨0, by omega, rfl, by rw [uc]; exact HO6, fun _ _ => rfl, Below.refl _ _, Nat.le_refl _⟩
    case round =>
     obtain ⟨j, hj, rfl, hrow, hoth, hbj, hsj⟩ := hrel
     clear HO6
     by_cases hlt : j < n
     · obtain ⟨b1, o1, e1, hb1, z0⟩ := HBA6.out.at_ j (by rw [HLL.out]; exact hlt)
       cases e1
       have z0 := (World.cell?_of_block (hoth.out _ HNE.out)).trans z0
       have hnw := HNW.out j hlt
       have hkb : j < (xd n EV set k).length := by rw [HOL.out]; exact hlt
       have hab : nw.length = (xd n EV set k).length := by rw [HNL.out, HOL.out]
       rw [zF (by rw [hab]; exact hkb), yh (by rw [HLL.out]; exact hlt), zF hkb] at hnw
       have hml := jg hab j
       have y0 := hrow.out.cell j (by rw [hml]; exact hkb)
       have f0 := hrow.out.froz j
       have hlr := hrow.out.lt
       rw [Yr hab hkb] at y0
       have hj0 : (0 : Int) ≤ (j : Int) := by omega
       have hj1 : (j : Int) < (n : Int) := by omega
       obtain ⟨x, hx⟩ : ∃ x, (LV k)[j]'(by rw [HLL.out]; exact hlt) = x := ⟨_, rfl⟩
       rw [hx] at z0 hnw
       obtain ⟨ol, hol⟩ : ∃ ol, (xd n EV set k)[j]'hkb = ol := ⟨_, rfl⟩
       rw [hol] at hnw y0
       cases x with
       | true =>
        rw [if_pos rfl] at hnw
        have hset := hrow.out.set j (n : Int)
        rw [← hnw, vC hab hkb, hnw] at hset
        have HROW := zH hset
        have HOTH : Hid (∀ z, z ≠ g10 → (wr.setCell ⟨g10, j, none⟩ (.int .i64 (n : Int))).heap[z]? = wL.heap[z]?) := fun z hz => (Below.heap_setCell wr ⟨g10, j, none⟩ _ z hz).trans (hoth.out z hz)
        have HBJ := zH (hbj.out.setCell (p := ⟨g10, j, none⟩) (by show w2.heap.size ≤ g10; exact hg10) (.int .i64 (n : Int)))
        have HSJ : wL.heap.size ≤ (wr.setCell ⟨g10, j, none⟩ (.int .i64 (n : Int))).heap.size := by simpa [World.setCell] using hsj
        clear hset hnw hrow hoth hbj hsj hml hab hkb hx hol
        go_wp2_with fail
        go_roundw
        case rel => exact ⟨j + 1, by omega, by go_num, HROW, HOTH, HBJ, HSJ⟩
        case measure => simp [intOf]; omega
       | false =>
        rw [if_neg (by simp)] at hnw
        have HROW : Hid (RowAt wr g10 (ki nw (xd n EV set k) (j + 1))) := by rw [← ud hab hkb (by rw [hnw, hol])]; exact hrow
        clear hnw hrow hml hab hkb hx hol
        go_wp2_with fail
        go_roundw
        case rel => exact ⟨j + 1, by omega, by go_num, HROW, hoth, hbj, hsj⟩
        case measure => simp [intOf]; omega
     · obtain rfl : n = j := by omega
       have HROW : Hid (RowAt wr g10 nw) := by have h := hrow.out; rwa [gF (by rw [HNL.out, HOL.out]) (by rw [HOL.out])] at h
       clear hrow
       have HBE := zH (HB.out.trans ((HB2.out.trans ((HB6.out.trans hbj.out).mono HB2.out.size)).mono HB.out.size))
       have hgw : w.heap.size ≤ g10 := by have := HB.out.size; have := HB2.out.size; omega
       have HROW2 : Hid (RowAt wr g10 (vX n EV set k)) := by rw [HNWE.out]; exact HROW
       clear hoth hbj HROW HNW
       go_wp2_with fail
       go_ret2
       exact ⟨HBE.out, k, g10, rfl, HM.out.2.1, HM.out.2.2, hgw, HROW2.out⟩
  · have hkM : k < M := by
     refine Classical.byContradiction fun hne => ?_
     have : k = M := by omega
     subst this
     exact hst HM.out.2.1
    have e0 : decide (LV (k + 1) = LV k) = false := decide_eq_false hst
    rw [e0]
    obtain ⟨mv, hmv⟩ : ∃ mv : Int, (k : Int) = mv := ⟨_, rfl⟩
    obtain ⟨nw, hnwE⟩ : ∃ nw, xd n EV set (k + 1) = nw := ⟨_, rfl⟩
    have HNL : Hid (nw.length = n) := by rw [← hnwE]; exact HOL.out (k + 1)
    have HNW : Hid (∀ j, j < n → nw.getD j 0 = if (LV k).getD j false then mv else (xd n EV set k).getD j 0) := fun j h => by
     subst hnwE
     rw [← hmv]; exact HON.out k j h
    have HNWE := zH hnwE
    have HMV := zH hmv
    clear hst e0 hnwE HON HORL HOR HST HCC
    rw [hmv]
    clear hmv
    go_wp2_with fail
    obtain ⟨wL, rfl⟩ : ∃ x, x = w6 := ⟨_, rfl⟩
    go_loopw [53] (fun i wr => ∃ j : Nat, j ≤ n ∧ i = .int .i64 (j : Int) ∧ Hid (RowAt wr g10 (ki nw (xd n EV set k) j)) ∧ Hid (∀ z, z ≠ g10 → wr.heap[z]? = wL.heap[z]?) ∧ Hid (Below w2.heap.size wL wr) ∧ wL.heap.size ≤ wr.heap.size) (fun i _ => n - (intOf i).toNat)
    case atStart => exact ⟨0, by omega, rfl, by rw [uc]; exact HO6, fun _ _ => rfl, Below.refl _ _, Nat.le_refl _⟩
    case round =>
     obtain ⟨j, hj, rfl, hrow, hoth, hbj, hsj⟩ := hrel
     clear HO6
     by_cases hlt : j < n
     · obtain ⟨b1, o1, e1, hb1, z0⟩ := HBA6.out.at_ j (by rw [HLL.out]; exact hlt)
       cases e1
       have z0 := (World.cell?_of_block (hoth.out _ HNE.out)).trans z0
       have hnw := HNW.out j hlt
       have hkb : j < (xd n EV set k).length := by rw [HOL.out]; exact hlt
       have hab : nw.length = (xd n EV set k).length := by rw [HNL.out, HOL.out]
       rw [zF (by rw [hab]; exact hkb), yh (by rw [HLL.out]; exact hlt), zF hkb] at hnw
       have hml := jg hab j
       have y0 := hrow.out.cell j (by rw [hml]; exact hkb)
       have f0 := hrow.out.froz j
       have hlr := hrow.out.lt
       rw [Yr hab hkb] at y0
       have hj0 : (0 : Int) ≤ (j : Int) := by omega
       have hj1 : (j : Int) < (n : Int) := by omega
       obtain ⟨x, hx⟩ : ∃ x, (LV k)[j]'(by rw [HLL.out]; exact hlt) = x := ⟨_, rfl⟩
       rw [hx] at z0 hnw
       obtain ⟨ol, hol⟩ : ∃ ol, (xd n EV set k)[j]'hkb = ol := ⟨_, rfl⟩
       rw [hol] at hnw y0
       cases x with
       | true =>
        rw [if_pos rfl] at hnw
        have hset := hrow.out.set j mv
        rw [← hnw, vC hab hkb, hnw] at hset
        have HROW := zH hset
        have HOTH : Hid (∀ z, z ≠ g10 → (wr.setCell ⟨g10, j, none⟩ (.int .i64 mv)).heap[z]? = wL.heap[z]?) := fun z hz => (Below.heap_setCell wr ⟨g10, j, none⟩ _ z hz).trans (hoth.out z hz)
        have HBJ := zH (hbj.out.setCell (p := ⟨g10, j, none⟩) (by show w2.heap.size ≤ g10; exact hg10) (.int .i64 mv))
        have HSJ : wL.heap.size ≤ (wr.setCell ⟨g10, j, none⟩ (.int .i64 mv)).heap.size := by simpa [World.setCell] using hsj
        clear hset hnw hrow hoth hbj hsj hml hab hkb hx hol
        go_wp2_with fail
        go_roundw
        case rel => exact ⟨j + 1, by omega, by go_num, HROW, HOTH, HBJ, HSJ⟩
        case measure => simp [intOf]; omega
       | false =>
        rw [if_neg (by simp)] at hnw
        have HROW : Hid (RowAt wr g10 (ki nw (xd n EV set k) (j + 1))) := by rw [← ud hab hkb (by rw [hnw, hol])]; exact hrow
        clear hnw hrow hml hab hkb hx hol
        go_wp2_with fail
        go_roundw
        case rel => exact ⟨j + 1, by omega, by go_num, HROW, hoth, hbj, hsj⟩
        case measure => simp [intOf]; omega
     · obtain rfl : n = j := by omega
       have HROW : Hid (RowAt wr g10 nw) := by have h := hrow.out; rwa [gF (by rw [HNL.out, HOL.out]) (by rw [HOL.out])] at h
       clear hrow
       have HR9 : Hid (BRow wr g6 (LV (k + 1))) := (hoth.out g6 hg6n).trans HR6.out
       have HBA9 : Hid (BAt wr wr.heap.size (some ⟨g6, 0, none⟩) (LV (k + 1))) := HR9.out.at_ HR9.out.lt
       have HRO9 : Hid (RowAt wr g10 (xd n EV set (k + 1))) := by rw [HNWE.out]; exact HROW
       have HB9 := zH (HB6.out.trans hbj.out)
       have hmv := HMV.out
       have hmn := HM.out.1
       have hwk : IntKind.i64.wrap ((k : Int) + 1) = (k : Int) + 1 := by rw [IntKind.wrap_i64]; omega
       subst hmv
       clear hoth hbj HROW HNW HR6
       go_wp2_with fail
       go_roundw
       case rel => exact ⟨k + 1, _, _, by omega, by go_num, rfl, HBA9, HRO9, HB9⟩
       case measure => simp [intOf]; omega
end
section
theorem XL (n : Nat) (adj : Nat → Nat → Prop) (L : List Nat) : (jD n adj L).length = n ∧ Far n adj (fun i => i ∈ L) (fun i => (jD n adj L).getD i 0) := by
 obtain ⟨f, hl, hf⟩ := far_ex n adj (fun i => i ∈ L)
 rw [kH hl hf]
 exact ⟨hl, hf⟩
theorem held_getD {s : Sy} {g : Int} {set : List Bool} (hsl : set.length = ptn s) : jU (ptn s) (xf s g) set = (jD (ptn s) (xf s g) (zS set)).map fun d => decide (d < 0) := by
 obtain ⟨hfl, hff⟩ := XL (ptn s) (xf s g) (zS set)
 exact gJ hsl hff hfl (yT s g)
end
section
open Go.RowKit
attribute [local go_sem] Oper.semAt_some
theorem YX {p : Pb} (h : xF p = true) (c : Nat) (bs : List Bool) : zt (zD p) ((c % 2 ^ p.t.n.toNat : Nat) : Int) (kF bs (ptn (zD p))) = 0 ∧ xb (zD p).p ∧ 1 ≤ ptn (zD p) ∧ ptn (zD p) ≤ 700 := by
 obtain ⟨hbE, hvE, hf, h0, h60, hn3, K, N, hF, hSe⟩ := kZ h
 have hx : xb (zD p).p := hf
 have hn : (zD p).n.toNat = p.t.n.toNat := by
  have h2 : p.t.n = (N : Int) := hF.pn
  rw [hF.n, h2]
 have hr : zK (zD p) ((c % 2 ^ p.t.n.toNat : Nat) : Int) = 0 := by
  unfold zK
  rw [if_neg (by simpa using hvE), if_neg]
  rw [hn]
  have := Nat.mod_lt c (Nat.two_pow_pos p.t.n.toNat)
  have h2 : ((2 ^ p.t.n.toNat : Nat) : Int) = (2 : Int) ^ p.t.n.toNat := by push_cast; rfl
  omega
 obtain ⟨f1, f2, _⟩ := xy hx hr
 refine ⟨?_, hx, f1, f2⟩
 unfold zt
 rw [if_neg (by simpa using hr), if_neg (by rw [gi]; simp)]
end
section
open Go.RowKit
attribute [local go_sem] Oper.semAt_some
theorem bits_some {N G : Nat} (hN : N ≤ 3) (hG : G < 2 ^ N) (h0 : G ≠ 0) : zk G N ≠ [] := by
 have h : ∀ N : Nat, N < 4 → ∀ G : Nat, G < 8 → G < 2 ^ N → G ≠ 0 → zk G N ≠ [] := by decide +kernel
 have := Nat.pow_le_pow_right (n := 2) (show 0 < 2 by omega) hN
 exact h N (by omega) G (by omega) hG h0
theorem knw_facts {s : Sy} {g : Int} {set : List Bool} (hg : zt s g set = 0) (hps : psG s g ≠ []) :
  ∃ (F : List Int) (H : List Bool), kn s g set = (H, 0) ∧ kS s g set = (F, 0) ∧ F.length = ptn s ∧ H.length = ptn s ∧ (∀ M, yK (ptn s) (evG s g) set (M + 1) = yK (ptn s) (evG s g) set M → yK (ptn s) (evG s g) set M = H) ∧
   (∀ M, yZ (ptn s) (evG s g) set (M + 1) = yZ (ptn s) (evG s g) set M → ∀ i, i < ptn s → (vX (ptn s) (evG s g) set M).getD i 0 = if F.getD i 0 < 0 then (ptn s : Int) else F.getD i 0 - 1) ∧
   (∀ i, i < ptn s → H.getD i false = decide (F.getD i 0 < 0) ∧ set.getD i false = decide (F.getD i 0 ≠ 0) ∧ -1 ≤ F.getD i 0 ∧ F.getD i 0 < (ptn s : Int)) := by
 obtain ⟨_, hsl⟩ := xY hg
 obtain ⟨hfl, hff⟩ := XL (ptn s) (xf s g) (zS set)
 have hh := held_getD (g := g) hsl
 have e2 : kn s g set = (jU (ptn s) (xf s g) set, 0) := by unfold kn; rw [if_neg (by simpa using hg)]
 have e3 : kS s g set = (jD (ptn s) (xf s g) (zS set), 0) := by unfold kS; rw [if_neg (by simpa using hg)]
 have hH : ∀ i, i < ptn s → (jU (ptn s) (xf s g) set).getD i false = decide ((jD (ptn s) (xf s g) (zS set)).getD i 0 < 0) := fun i hi => by
  rw [hh, List.getD_eq_getElem?_getD, List.getElem?_map, zF (by omega), List.getElem?_eq_getElem (by omega)]; rfl
 refine ⟨_, _, e2, e3, hfl, kj _ _ _, fun M hM => ?_, fun M hM i hi => out_lev hps hsl hff hM hi, fun i hi => ⟨hH i hi, ?_, hff.ge i hi, Yx (f := fun i => (jD (ptn s) (xf s g) (zS set)).getD i 0) hff.step hi⟩⟩
 · refine bools_ext (n := ptn s) (je M) (kj _ _ _) fun i hi => ?_
   rw [hH i hi, decide_eq_true_iff]
   exact now_held hps hsl hff hM hi
 · have h1 := wh hsl hff hi
   have h2 := hff.ge i hi
   change -1 ≤ (jD (ptn s) (xf s g) (zS set)).getD i 0 at h2
   rw [Bool.eq_iff_iff, h1, decide_eq_true_iff]
   omega
set_option maxRecDepth 100000 in
theorem QG (p : Pb) (hl : YJ p) (A : Option Addr) (kc : Nat) (SV : Option Addr) (ks : Nat) (c : Nat) (hc : c < 256) (cq : Nat) (_hq : cq < 65536) (bs : List Bool) (AB : Option Addr) (kb : Nat) (w : World) (hA : CAt w w.heap.size A p.t.cases) (hS : SAt w w.heap.size SV p.a.sts) (hb0 : BAt w w.heap.size AB bs) :
  Calls Tryz.prog 16 #[.agg (p.vs A kc SV ks), .agg #[.int .u8 (c : Int), .slice AB bs.length kb, .int .u16 (cq : Int)]] w fun e w' => e = .returned (.bool true) ∧ Below w.heap.size w w' := by
 obtain ⟨w1, hw1, d0, d1, hs1, hB1⟩ := yj w (p.vs A kc SV ks) #[.int .u8 (c : Int), .slice AB bs.length kb, .int .u16 (cq : Int)] 29 71
 have hz1 : w1.heap.size = w.heap.size + 2 := by rw [← hw1]; simp
 have HSC := zH (J7 p hl A kc SV ks c hc cq bs AB kb w1 ((hA.keep hB1).more hB1.size) ((hS.keep hB1).more hB1.size) ((hb0.keep hB1).more hB1.size))
 have HGV := zH (fun (h : xF p = true) => YX h c bs)
 have HRB : Hid (xF p = true → LowS (zD p) ∧ ∃ N : Nat, p.t.n = (N : Int) ∧ (zD p).n = (N : Int) ∧ N ≤ 3) := fun h => by
  obtain ⟨hbE, _, hf, _, _, hn3, K, N, hF, _⟩ := kZ h
  have := jB hl hf
  have hpt : p.t.n = (N : Int) := hF.pn
  exact ⟨by rwa [hbE] at this, N, hpt, hF.n, by omega⟩
 have HBb := zH hB1
 unfold Pb.vs at hw1 d0 HSC ⊢
 have HW1 := zH hw1
 have p0 := za d0 0 rfl
 have p1 := za d0 1 rfl
 have p2 := za d0 2 rfl
 have p3 := za d0 3 rfl
 have p4 := za d0 4 rfl
 have p5 := za d0 5 rfl
 have p6 := za d0 6 rfl
 have q0 := za d1 0 rfl
 have q1 := za d1 1 rfl
 have q2 := za d1 2 rfl
 clear hw1 d0 d1 hB1 hA hS hb0 hs1 hl
 go_enter Tryz.func16, Tryz.ntmps16
 go_wp2_with fail
 rw [HW1.out]
 go_wp2_with fail
 refine HSC.out.mono ?_
 rintro e w2 ⟨hb2, hcase⟩
 have B2 := zH (HBb.out.trans (hb2.mono HBb.out.size))
 have hs2 := hb2.size
 clear hb2 HSC HW1 HBb p0 p1 p2 p3 p4 p5 p6 q0 q1 q2
 rcases hcase with ⟨_, rfl⟩ | ⟨⟨hr, hbs0⟩, A2, kc2, SV2, ks2, AV, kv, AX, kx, AQ, cQ, rfl, hSY, hBQ⟩
 · clear HRB HGV
   go_upto_region 2 with fail
   obtain ⟨WF, hWF, dz, hsF, hBa2⟩ := zi w2 #[.int .i64 0, .int .i64 0, .int .i64 0, .slice none 0 0, .int .i64 0, .slice none 0 0, .int .i64 0, .int .i64 0, .slice none 0 0, .slice none 0 0] 35
   rw [hWF]
   clear hWF
   clear dz
   go_wp2_with fail
   refine (jr WF).mono ?_
   rintro e v3 ⟨rfl, hb9⟩
   have B3 := zH (B2.out.trans ((hBa2.trans (hb9.mono (by omega))).mono (by omega)))
   clear hb9
   go_wp2_with fail
   go_ret
   exact ⟨rfl, B3.out⟩
 obtain ⟨hgv, hfx, hn1, hn7⟩ := HGV.out hr
 obtain ⟨hlo, N, hpn, hTn, hN3⟩ := HRB.out hr
 have HLO := zH hlo
 have hNt : p.t.n.toNat = N := by rw [hpn]; rfl
 rw [hNt] at hgv ⊢
 have hm1 := Nat.mod_lt c (Nat.two_pow_pos N)
 have HSL : Hid ((kF bs (ptn (zD p))).length = ptn (zD p)) := gi _ _
 have hTN : (zD p).n.toNat = N := by rw [hTn]; rfl
 obtain ⟨G, hG⟩ : ∃ G, c % 2 ^ N = G := ⟨_, rfl⟩
 obtain ⟨T, hT⟩ : ∃ T, zD p = T := ⟨_, rfl⟩
 rw [hG] at hgv hm1 ⊢
 rw [hT] at hgv hfx hn1 hn7 HLO HSL hSY hBQ hTN ⊢
 obtain ⟨Q, hQ⟩ : ∃ Q, kF bs (ptn T) = Q := ⟨_, rfl⟩
 rw [hQ] at hgv HSL hBQ
 clear HRB HGV hr hbs0 hNt hpn hTn hT hQ hG hlo
 unfold Sy.vs_
 go_upto_region 2 with fail
 obtain ⟨WF, hWF, dz, hsF, hBa2⟩ := zi w2 #[.int .i64 T.p.t.n, .int .i64 T.p.t.ins, .int .i64 T.p.t.outs, .slice A2 T.p.t.cases.length kc2, .int .i64 T.p.a.n, .slice SV2 T.p.a.sts.length ks2, .int .i64 T.p.k, .int .i64 T.n, .slice AV T.vs.length kv, .slice AX T.xs.length kx] 35
 rw [hWF]
 clear hWF
 have dz := zH dz
 by_cases hG0 : G = 0
 · have e0 : ((G : Int) == 0) = true := by simp [hG0]
   subst hG0
   clear dz
   go_wp2_with fail
   refine (jr WF).mono ?_
   rintro e v3 ⟨rfl, hb9⟩
   have B3 := zH (B2.out.trans ((hBa2.trans (hb9.mono (by omega))).mono (by omega)))
   clear hb9
   go_wp2_with fail
   go_ret
   exact ⟨rfl, B3.out⟩
 have e0 : ((G : Int) == 0) = false := by simp; omega
 have hg00 : ¬ (G : Int) = 0 := by omega
 have hps : psG T (G : Int) ≠ [] := by unfold psG; rw [hTN, Int.toNat_natCast]; exact bits_some hN3 hm1 hG0
 obtain ⟨F, H, e2, e3, hFl, hHl, hnow, hlev, hfac⟩ := knw_facts hgv hps
 have C1 := zH (fun (X : World) (hX : Below w2.heap.size w2 X) => gK T HLO.out hfx (G : Int) Q A2 SV2 AV AX AQ kc2 ks2 kv kx cQ X (hSY.up hX) ((hBQ.keep hX).more hX.size) (by rw [HSL.out]; omega))
 have C2 := zH (fun (X : World) (hX : Below w2.heap.size w2 X) => Xy T HLO.out hfx (G : Int) Q A2 SV2 AV AX AQ kc2 ks2 kv kx cQ (by rw [HSL.out]; omega) X (hSY.up hX) ((hBQ.keep hX).more hX.size))
 have C3 := zH (fun (X : World) (hX : Below w2.heap.size w2 X) => j8 T HLO.out hfx (G : Int) Q A2 SV2 AV AX AQ kc2 ks2 kv kx cQ X (hSY.up hX) ((hBQ.keep hX).more hX.size) (by rw [HSL.out]; omega))
 have C4 := zH (fun (X : World) (hX : Below w2.heap.size w2 X) => Xx T HLO.out hfx (G : Int) Q A2 SV2 AV AX AQ kc2 ks2 kv kx cQ (by rw [HSL.out]; omega) X (hSY.up hX) ((hBQ.keep hX).more hX.size))
 rw [e2] at C1
 rw [e3] at C3
 rw [HSL.out] at C1 C2 C3 C4
 unfold RetBA at C1
 unfold JQ at C3
 unfold RetCo at C2
 unfold RetLv at C4
 simp only [hHl] at C1
 simp only [hFl] at C3
 have HNOW := zH hnow
 have HLEV := zH hlev
 have HFAC := zH hfac
 have HFL := zH hFl
 have HHL := zH hHl
 have HGV := zH hgv
 obtain ⟨n, hn⟩ : ∃ n, ptn T = n := ⟨_, rfl⟩
 have HBQ : Hid (∀ X, Below w2.heap.size w2 X → BAt X X.heap.size AQ Q) := fun X hX => (hBQ.keep hX).more hX.size
 have HOLn : Hid (∀ M, (vX n (evG T G) Q M).length = n) := fun M => by show _ = _; simp [vX]
 rw [hn] at C1 C2 C3 C4 HNOW HLEV HFAC HFL HHL HSL hn1 hn7 ⊢
 unfold Sy.vs_ at C1 C2 C3 C4
 have DZ : Hid (∀ X, Below WF.heap.size WF X → X.heap[w2.heap.size]? = some (.cells #[.int .i64 T.p.t.n, .int .i64 T.p.t.ins, .int .i64 T.p.t.outs, .slice A2 T.p.t.cases.length kc2, .int .i64 T.p.a.n, .slice SV2 T.p.a.sts.length ks2, .int .i64 T.p.k, .int .i64 T.n, .slice AV T.vs.length kv, .slice AX T.xs.length kx] 35 (0, 0))) := fun X hX => (hX.block _ (by omega)).trans dz.out
 have hN1 := zH hn1
 obtain ⟨z0, z1, z2, z3, z4, z5, z6, z7, z8, z9⟩ := zx dz.out
 clear hnow hlev hfac hFl hHl hgv hn e2 e3 hps hfx hTN hN3 hm1 hSY hBQ HLO hG0 hn1
 go_wp2_with fail
 refine (C1.out WF hBa2).mono ?_
 rintro e w3 ⟨A3, c3, rfl, hH3, hb3⟩
 have E3 := zH hb3
 have HH := zH hH3
 clear hb3 hH3 C1 z0 z1 z2 z3 z4 z5 z6 z7 z8 z9
 obtain ⟨z0, z1, z2, z3, z4, z5, z6, z7, z8, z9⟩ := zx (DZ.out _ E3.out)
 go_wp2_with fail
 refine (C2.out w3 (hBa2.trans (E3.out.mono (by omega)))).mono ?_
 rintro e w4 ⟨hb4, hcs⟩
 rcases hcs with ⟨hx, _⟩ | ⟨_, M4, g4, rfl, _, m2, _, hg4, hr4⟩
 · exact absurd HGV.out hx
 rw [HNOW.out M4 m2] at hr4
 have E4 := zH (E3.out.trans (hb4.mono E3.out.size))
 have HH := zH ((HH.out.keep hb4).more hb4.size)
 have HR4 := zH hr4
 clear hb4 m2 hr4 C2 HNOW z0 z1 z2 z3 z4 z5 z6 z7 z8 z9
 obtain ⟨z0, z1, z2, z3, z4, z5, z6, z7, z8, z9⟩ := zx (DZ.out _ E4.out)
 go_wp2_with fail
 refine (C3.out w4 (hBa2.trans (E4.out.mono (by omega)))).mono ?_
 rintro e w5 ⟨A5, c5, rfl, hF5, hb5⟩
 have E5 := zH (E4.out.trans (hb5.mono E4.out.size))
 have HH := zH ((HH.out.keep hb5).more hb5.size)
 have HR4 : Hid (BRow w5 g4 H) := (hb5.block _ HR4.out.lt).trans HR4.out
 have HF := zH hF5
 clear hb5 hF5 C3 z0 z1 z2 z3 z4 z5 z6 z7 z8 z9
 obtain ⟨z0, z1, z2, z3, z4, z5, z6, z7, z8, z9⟩ := zx (DZ.out _ E5.out)
 go_wp2_with fail
 refine (C4.out w5 (hBa2.trans (E5.out.mono (by omega)))).mono ?_
 rintro e w6 ⟨hb6, hcs⟩
 rcases hcs with ⟨hx, _⟩ | ⟨_, M6, g6, rfl, m2, _, hg6, hr6⟩
 · exact absurd HGV.out hx
 have hlv := HLEV.out M6 m2
 have hol := HOLn.out M6
 obtain ⟨LR, hLR⟩ : ∃ LR, vX n (evG T G) Q M6 = LR := ⟨_, rfl⟩
 rw [hLR] at hlv hol hr6
 have HLV := zH hlv
 have HOL := zH hol
 have E6 := zH (E5.out.trans (hb6.mono E5.out.size))
 have HH := zH ((HH.out.keep hb6).more hb6.size)
 have HF := zH ((HF.out.keep hb6).more hb6.size)
 have HR4 : Hid (BRow w6 g4 H) := (hb6.block _ HR4.out.lt).trans HR4.out
 have HR6 := zH hr6
 have HQ := zH (HBQ.out w6 (hBa2.trans (E6.out.mono (by omega))))
 have heq := wu A3 (some ⟨g4, 0, none⟩) c3 n H H w6 w6.heap.size (Nat.le_refl _) HH.out (HR4.out.at_ HR4.out.lt) (by rw [HHL.out]; omega) (by rw [HHL.out]; omega)
 rw [HHL.out] at heq
 have HEQ := zH heq
 have HRI : Hid (IAt w6 w6.heap.size (some ⟨g6, 0, none⟩) LR) := HR6.out.iat
 clear hb6 m2 hr6 C4 HLEV hlv hol hLR heq HR6 HBQ HOLn HR4 z0 z1 z2 z3 z4 z5 z6 z7 z8 z9
 go_wp2_with fail
 refine HEQ.out.mono ?_
 rintro e w7 ⟨rfl, q, rfl⟩
 have hbq : Below w6.heap.size w6 (w6.drewN q) := zU (Below.refl _ _) q
 have E7 := zH (E6.out.trans (hbq.mono E6.out.size))
 have HH := zH (HH.out.keep hbq)
 have HF := zH (HF.out.keep hbq)
 have HRI := zH (HRI.out.keep hbq)
 have HQ := zH (HQ.out.keep hbq)
 have hs67 : w6.heap.size ≤ (w6.drewN q).heap.size := hbq.size
 obtain ⟨w7, hw7⟩ : ∃ w7, w6.drewN q = w7 := ⟨_, rfl⟩
 rw [hw7] at E7 HH HF HRI HQ hs67 ⊢
 clear hw7 HEQ hbq
 go_wp2_with fail
 go_loopw [101] (fun i wr => ∃ k : Nat, k ≤ n ∧ i = .int .i64 (k : Int) ∧ Hid (Below w6.heap.size w7 wr)) (fun i _ => n - (intOf i).toNat)
 case atStart => exact ⟨0, by omega, rfl, Below.refl _ _⟩
 case round =>
  obtain ⟨k, hk, rfl, hbw⟩ := hrel
  by_cases hlt : k < n
  · obtain ⟨b1, o1, rfl, hb1, x1⟩ := (HH.out.keep hbw.out).at_ k (by rw [HHL.out]; exact hlt)
    obtain ⟨b2, o2, rfl, hb2, x2⟩ := (HF.out.keep hbw.out).at_ k (by rw [HFL.out]; exact hlt)
    obtain ⟨b3, o3, e3', hb3, x3⟩ := (HRI.out.keep hbw.out).at_ k (by rw [HOL.out]; exact hlt)
    cases e3'
    obtain ⟨b4, o4, rfl, hb4, x4⟩ := (HQ.out.keep hbw.out).at_ k (by rw [HSL.out]; exact hlt)
    obtain ⟨f1, f2, f3, f4⟩ := HFAC.out k hlt
    have f5 := HLV.out k hlt
    rw [yh (by rw [HHL.out]; exact hlt)] at f1
    rw [yh (by rw [HSL.out]; exact hlt)] at f2
    rw [zF (by rw [HOL.out]; exact hlt)] at f5
    rw [zF (by rw [HFL.out]; exact hlt)] at f1 f2 f3 f4 f5
    rw [f1] at x1
    rw [f5] at x3
    rw [f2] at x4
    obtain ⟨fv, hfv⟩ : ∃ fv, F[k]'(by rw [HFL.out]; exact hlt) = fv := ⟨_, rfl⟩
    rw [hfv] at x1 x2 x3 x4 f3 f4
    have hk0 : (0 : Int) ≤ (k : Int) := by omega
    have hk1 : (k : Int) < (n : Int) := by omega
    have hw1 : IntKind.i64.wrap (fv - 1) = fv - 1 := by rw [IntKind.wrap_i64]; omega
    have y1 : wr.drew.cell? ⟨b1, o1 + k, none⟩ = _ := x1
    have y2 : wr.drew.cell? ⟨b2, o2 + k, none⟩ = _ := x2
    have y3 : wr.drew.cell? ⟨g6, 0 + k, none⟩ = _ := x3
    have y4 : wr.drew.cell? ⟨b4, o4 + k, none⟩ = _ := x4
    rw [Nat.zero_add] at y3 x3
    clear hfv f1 f2 f5
    have hbw2 : Hid (Below w6.heap.size w7 wr.drew) := hbw.out.drew
    by_cases hneg : fv < 0
    · have e1 : decide (fv < 0) = true := decide_eq_true hneg
      have e2 : decide (fv ≠ 0) = true := decide_eq_true (by omega)
      have i2 : ¬ fv = 0 := by omega
      have e4 : (fv != 0) = true := by simpa using i2
      rw [if_pos hneg] at y3
      rw [e1] at y1
      rw [e2] at y4
      clear x1 x3 x4
      go_wp2_with fail
      refine zr [(0, true), (1, true), (2, true), (3, true), (4, true), (5, true), (6, true), (7, true), (8, true), (9, true), (10, true), (11, true), (12, true), (13, true), (14, true), (15, true), (16, true), (17, true), (18, true), (19, true), (20, true), (21, true), (22, true), (23, true), (24, true), (25, true), (26, true), (27, true), (28, true), (29, true)] (fun X => X = wr.drew) (by kernel_rfl) (by kernel_rfl) rfl ?_
      repeat
       apply zA rfl
       · rintro K' hK' X rfl
         go_simp
         exact hK'
      refine zG ?_
      clear y1 y2 y3 y4 x2 hbw
      go_wp2_with fail
      go_roundw
      case rel => exact ⟨k + 1, by omega, by go_num, hbw2⟩
      case measure => simp [intOf]; omega
    · have e1 : decide (fv < 0) = false := decide_eq_false hneg
      rw [if_neg hneg] at y3
      rw [e1] at y1
      by_cases hz : fv = 0
      · subst hz
        have e2 : decide ((0 : Int) ≠ 0) = false := by simp
        rw [e2] at y4
        clear x1 x3 x4
        go_wp2_with fail
        refine zr [(0, true), (1, true), (2, true), (3, true), (4, true), (5, true), (6, true), (7, true), (8, true), (9, true), (10, true), (11, true), (12, true), (13, true), (14, true), (15, true), (16, true), (17, true), (18, true), (19, true), (20, true), (21, true), (22, true), (23, true), (24, true), (25, true), (26, true), (27, true), (28, true), (29, true)] (fun X => X = wr.drew) (by kernel_rfl) (by kernel_rfl) rfl ?_
        repeat
         apply zA rfl
         · rintro K' hK' X rfl
           go_simp
           exact hK'
        refine zG ?_
        clear y1 y2 y3 y4 x2 hbw
        go_wp2_with fail
        go_roundw
        case rel => exact ⟨k + 1, by omega, by go_num, hbw2⟩
        case measure => simp [intOf]; omega
      · have e2 : decide (fv ≠ 0) = true := decide_eq_true hz
        have e4 : (fv != 0) = true := by simpa using hz
        rw [e2] at y4
        clear x1 x3 x4
        go_wp2_with fail
        refine zr [(0, true), (1, true), (2, true), (3, true), (4, true), (5, true), (6, true), (7, true), (8, true), (9, true), (10, true), (11, true), (12, true), (13, true), (14, true), (15, true), (16, true), (17, true), (18, true), (19, true), (20, true), (21, true), (22, true), (23, true), (24, true), (25, true), (26, true), (27, true), (28, true), (29, true)] (fun X => X = wr.drew) (by kernel_rfl) (by kernel_rfl) rfl ?_
        repeat
         apply zA rfl
         · rintro K' hK' X rfl
           go_simp
           exact hK'
        refine zG ?_
        clear y1 y2 y3 y4 x2 hbw
        go_wp2_with fail
        go_roundw
        case rel => exact ⟨k + 1, by omega, by go_num, hbw2⟩
        case measure => simp [intOf]; omega
  · obtain rfl : n = k := by omega
    have E9 := zH (E7.out.trans (hbw.out.mono E6.out.size))
    clear HH HF HRI HQ hbw HFAC HLV
    go_wp2_with fail
    refine (jr wr).mono ?_
    rintro e v3 ⟨rfl, hb9⟩
    have B3 := zH (B2.out.trans ((hBa2.trans ((E9.out.trans (hb9.mono E9.out.size)).mono (by omega))).mono (by omega)))
    clear hb9
    go_wp2_with fail
    go_ret
    exact ⟨rfl, B3.out⟩
end
end Go.Proofs.YtdkmpccfnnpnbaaGreat
