/- Parts TogP Rf36D Rf04 Rf36C Rf36E LwCls. -/
import Derived.Test.YtdkmpccfnnpnbaaGreatProg
import Derived.Test.YtdkmpccfnnpnbaaGreatKbg
import Derived.Test.YtdkmpccfnnpnbaaGreatKbf
import Derived.Test.YtdkmpccfnnpnbaaGreatKbc
import Derived.Deep.Cut
import Derived.Test.YtdkmpccfnnpnbaaGreatKba
import Derived.Test.YtdkmpccfnnpnbaaGreatKbh

namespace Go.Proofs.YtdkmpccfnnpnbaaGreat
set_option maxHeartbeats 4000000
section
open Go.RowKit
structure K2 where
 a : Int
 b : Int
deriving DecidableEq
theorem Xg {α : Type} [DecidableEq α] (c : α) : ∀ n, zY (List.replicate n c) = List.replicate n (0 : Int)
 | 0 => rfl
 | n + 1 => by
  have ih := Xg c n
  rw [List.replicate_succ', qg, ih, List.replicate_succ']
  congr 2
  by_cases hn : 0 < n
  · rw [if_pos (by rw [List.mem_replicate]; exact ⟨by omega, rfl⟩)]
    have h := kS (List.replicate n c) 0 (by simpa using hn)
    simp only [ih, List.getElem_replicate] at h
    exact h.symm
  · obtain rfl : n = 0 := by omega
    rfl
theorem kz_same {G : Nat} {f g : Nat → Int} {p : Nat} (h : G.testBit p = true) (hp : p < 5) : kz G f (p + 1) = kz G g (p + 1) ↔ kz G f p = kz G g p ∧ f p = g p := by
 have z : ∀ f : Nat → Int, kq G f p p = 0 := fun f => by unfold kq; rw [if_neg (by omega)]
 have zf := z f
 have zg := z g
 unfold kz
 simp only [kq_hit h, K5.mk.injEq]
 obtain rfl | rfl | rfl | rfl | rfl : p = 0 ∨ p = 1 ∨ p = 2 ∨ p = 3 ∨ p = 4 := by omega
 all_goals
  simp [zf, zg]
  try omega
def tgK (s : Sy) (G p : Nat) (x : Nat × Nat) : K5 := kz G (fun q => xw (s.xs.getD x.1 default) x.2 q) p
def tgP (s : Sy) (G p : Nat) : List Int := zY ((zn (s.p.k.toNat + 1) 0 s.xs.length).map (tgK s G p))
theorem ws (s : Sy) (G p : Nat) : (tgP s G p).length = ptn s := by unfold tgP; rw [zV, List.length_map, xJ _ _ (by omega)]; rfl
theorem tgP_zero (s : Sy) (G : Nat) : tgP s G 0 = List.replicate (ptn s) 0 := by
 have e : (zn (s.p.k.toNat + 1) 0 s.xs.length).map (tgK s G 0) = List.replicate (ptn s) (⟨0, 0, 0, 0, 0⟩ : K5) := by
  rw [List.eq_replicate_iff]
  refine ⟨by rw [List.length_map, xJ _ _ (by omega)]; rfl, fun b hb => ?_⟩
  obtain ⟨x, _, rfl⟩ := List.mem_map.1 hb
  simp [tgK, kz, kq]
 unfold tgP
 rw [e, Xg]
theorem tgP_not {s : Sy} {G p : Nat} (h : G.testBit p = false) : tgP s G (p + 1) = tgP s G p := by
 unfold tgP
 congr 1
 exact List.map_congr_left fun x _ => kz_not h
theorem tgP_hit {s : Sy} {G p : Nat} (h : G.testBit p = true) (hp : p < 5) : zY (List.zipWith K2.mk (tgP s G p) (xa s p)) = tgP s G (p + 1) := by
 obtain ⟨L, hL⟩ : ∃ L, zn (s.p.k.toNat + 1) 0 s.xs.length = L := ⟨_, rfl⟩
 have hLl : L.length = ptn s := by rw [← hL, xJ _ _ (by omega)]; rfl
 have hz : (List.zipWith K2.mk (tgP s G p) (xa s p)).length = ptn s := by rw [List.length_zipWith, ws, yY, Nat.min_self]
 have e : tgP s G (p + 1) = zY (L.map (tgK s G (p + 1))) := by unfold tgP; rw [hL]
 rw [e]
 refine kR (by rw [hz, List.length_map, hLl]) fun i j h1 h2 => ?_
 rw [hz] at h1 h2
 rw [List.getElem_zipWith, List.getElem_zipWith, K2.mk.injEq, List.getElem_map, List.getElem_map]
 have a1 : (tgP s G p)[i]'(by rw [ws]; exact h1) = (tgP s G p)[j]'(by rw [ws]; exact h2) ↔ tgK s G p (L[i]'(by omega)) = tgK s G p (L[j]'(by omega)) := by
  have e2 : tgP s G p = zY (L.map (tgK s G p)) := by unfold tgP; rw [hL]
  simp only [e2]
  rw [kw _ (by rw [List.length_map]; omega) (by rw [List.length_map]; omega), List.getElem_map, List.getElem_map]
 have a2 : (xa s p)[i]'(by rw [yY]; exact h1) = (xa s p)[j]'(by rw [yY]; exact h2) ↔ xw (s.xs.getD (L[i]'(by omega)).1 default) (L[i]'(by omega)).2 p = xw (s.xs.getD (L[j]'(by omega)).1 default) (L[j]'(by omega)).2 p := by
  have e2 : xa s p = zY (L.map fun x => xw (s.xs.getD x.1 default) x.2 p) := by unfold xa qx; rw [hL]
  simp only [e2]
  rw [kw _ (by rw [List.length_map]; omega) (by rw [List.length_map]; omega), List.getElem_map, List.getElem_map]
 rw [a1, a2]
 exact (kz_same h hp).symm
theorem togL_tgP {s : Sy} {N : Nat} (hN : s.n = (N : Int)) (G : Nat) : Z8 s (G : Int) = tgP s G N := by
 unfold Z8 tgP
 congr 1
 refine List.map_congr_left fun x _ => ?_
 unfold togK tgK
 rw [hN, Int.toNat_natCast, Int.toNat_natCast]
end
section
open Go.RowKit Go.Shelf
attribute [local go_sem] Oper.semAt_some
set_option maxRecDepth 100000 in
theorem rcut_any (A B : Option Addr) (cap cap' : Nat) (keys : List K2) (hl : keys.length ≤ 100000) (w : World) (hA : IAt w w.heap.size A (keys.map (·.a))) (hA' : IAt w w.heap.size B (keys.map (·.b))) :
  Calls Tryz.prog 146 #[.slice A keys.length cap, .slice B keys.length cap'] w (jR (zY keys) w) := by
 have HA := zH hA
 have HA' := zH hA'
 clear hA hA'
 have lk1 : (keys.map (·.a)).length = keys.length := by simp
 have lk2 : (keys.map (·.b)).length = keys.length := by simp
 have LK := zH (And.intro lk1 lk2)
 clear lk1 lk2
 go_enter Tryz.func146, Tryz.ntmps146
 go_wp2_with fail
 go_loopw [5, 6, 7] (fun o nx i wr => ∃ k : Nat, k ≤ keys.length ∧ i = .int .i64 (k : Int) ∧ nx = .int .i64 (((yc (keys.take k)).length : Nat) : Int) ∧ Hid (Own wr w.heap.size o (zY (keys.take k))) ∧ Hid (Below w.heap.size w wr)) (fun _ _ i _ => keys.length - (intOf i).toNat)
 case atStart => exact ⟨0, by omega, rfl, rfl, Own.nil _ _, Below.refl _ _⟩
 case round =>
  obtain ⟨k, hk, rfl, rfl, HO, hb⟩ := hrel
  obtain ⟨Ao, co, rfl, _, _, hIo⟩ := HO.out.form
  have hll : (zY (keys.take k)).length = k := by rw [zV]; simp; omega
  rw [hll] at HO ⊢
  by_cases hlt : k < keys.length
  · have hul : (yc (keys.take k)).length ≤ 100000 := by have := Zy (keys.take k); simp at this; omega
    obtain ⟨b, off, eA, hbl, z0⟩ := (HA.out.keep hb.out).at_ k (by rw [LK.out.1]; exact hlt)
    subst eA
    obtain ⟨b', off', eA', hbl', z0'⟩ := (HA'.out.keep hb.out).at_ k (by rw [LK.out.2]; exact hlt)
    subst eA'
    rw [List.getElem_map] at z0 z0'
    obtain ⟨y, hy⟩ : ∃ y, keys[k] = y := ⟨_, rfl⟩
    rw [hy] at z0 z0'
    obtain ⟨ya, yb⟩ := y
    dsimp only at z0 z0'
    have HI := zH (HA.out.keep hb.out)
    have HI' := zH (HA'.out.keep hb.out)
    have HIO := zH hIo
    have HKY := zH hy
    have hkl : (k : Int) < (keys.length : Int) := by omega
    have hsn := qg (keys.take k) (⟨ya, yb⟩ : K2)
    have hus := xL (keys.take k) (⟨ya, yb⟩ : K2)
    have htk : keys.take k ++ [⟨ya, yb⟩] = keys.take (k + 1) := by rw [List.take_succ_eq_append_getElem hlt, hy]
    rw [htk] at hsn hus
    have HSN := zH hsn
    have HUS := zH hus
    have hbw : b < wr.heap.size := by have := hb.out.size; omega
    have hbw' : b' < wr.heap.size := by have := hb.out.size; omega
    obtain ⟨NX, hNX⟩ : ∃ NX, (yc (keys.take k)).length = NX := ⟨_, rfl⟩
    rw [hNX] at hul ⊢
    have HNX := zH hNX
    obtain ⟨wo, hwo⟩ : ∃ wo, wo = wr := ⟨_, rfl⟩
    rw [← hwo] at HO hb HI HI' HIO z0 z0' hbw hbw' ⊢
    clear hIo hsn hus htk hll hNX hwo
    have hk00 : (0 : Int) ≤ (k : Int) := by omega
    go_wp2_with fail
    go_loopw [8, 9] (fun lb j wq => ∃ m q : Nat, m ≤ k ∧ j = .int .i64 (m : Int) ∧ Hid (wq = wo.drewN q) ∧ ((lb = .int .i64 (-1) ∧ Hid (∀ i, i < m → keys.getD i ⟨0, 0⟩ ≠ ⟨ya, yb⟩)) ∨ ∃ x : Nat, lb = .int .i64 (x : Int) ∧ Hid ((⟨ya, yb⟩ : K2) ∈ keys.take k ∧ x = (yc (keys.take k)).idxOf ⟨ya, yb⟩ ∧ x ≤ 100000))) (fun _ j _ => k - (intOf j).toNat)
    case atStart => exact ⟨0, 0, by omega, rfl, rfl, .inl ⟨rfl, fun i hi => absurd hi (by omega)⟩⟩
    case round =>
     obtain ⟨m, q, hm, rfl, hw, hlb⟩ := hrel
     rcases hlb with ⟨rfl, hno⟩ | ⟨x, rfl, hx⟩
     · by_cases hmk : m < k
       · obtain ⟨b1, off1, eA1, hbl1, z1⟩ := HI.out.at_ m (by rw [LK.out.1]; omega)
         cases eA1
         obtain ⟨b1, off1, eA1, hbl1, z1'⟩ := HI'.out.at_ m (by rw [LK.out.2]; omega)
         cases eA1
         rw [List.getElem_map] at z1 z1'
         obtain ⟨b2, off2, eA2, hbl2, z2⟩ := HIO.out.at_ m (by rw [zV]; simp; omega)
         subst eA2
         have hcw : Hid (∀ p, wr.cell? p = wo.cell? p) := fun p => by rw [hw.out]; rfl
         have u0 := (hcw.out _).trans z0
         have u1 := (hcw.out _).trans z1
         have u0' := (hcw.out _).trans z0'
         have u1' := (hcw.out _).trans z1'
         have u2 := (hcw.out _).trans z2
         obtain ⟨t, ht⟩ : ∃ t, keys[m]'(by omega) = t := ⟨_, rfl⟩
         rw [ht] at u1 u1'
         obtain ⟨ta, tb⟩ := t
         dsimp only at u1 u1'
         have hlm : (zY (keys.take k))[m]'(by rw [zV]; simp; omega) = (((yc (keys.take k)).idxOf ⟨ta, tb⟩ : Nat) : Int) := by
          rw [kS _ m (by simp; omega)]
          rw [List.getElem_take, ht]
         rw [hlm] at u2
         have hm0 : (0 : Int) ≤ (m : Int) := by omega
         have hm1 : (m : Int) < (k : Int) := by omega
         have hm2 : (m : Int) < (keys.length : Int) := by omega
         have hgm : keys.getD m ⟨0, 0⟩ = ⟨ta, tb⟩ := by rw [zI (by omega)]; exact ht
         have HGM := zH hgm
         have htm : (⟨ta, tb⟩ : K2) ∈ keys.take k := by
          rw [← ht]
          exact List.mem_take_iff_getElem.2 ⟨m, by omega, rfl⟩
         have HTM := zH htm
         obtain ⟨ix, hix⟩ : ∃ ix, (yc (keys.take k)).idxOf ⟨ta, tb⟩ = ix := ⟨_, rfl⟩
         rw [hix] at u2
         have HIX := zH hix
         clear z1 z1' z2 ht hlm hgm htm hix
         by_cases hty : (⟨ta, tb⟩ : K2) = ⟨ya, yb⟩
         · have e1 : ta = ya := congrArg K2.a hty
           have e2 : tb = yb := congrArg K2.b hty
           subst e1 e2
           have hxx : Hid ((⟨ta, tb⟩ : K2) ∈ keys.take k ∧ ix = (yc (keys.take k)).idxOf ⟨ta, tb⟩ ∧ ix ≤ 100000) := ⟨HTM.out, HIX.out.symm, by
            have h1 := List.idxOf_lt_length_of_mem (zW.2 HTM.out)
            rw [HIX.out] at h1
            have h2 := HNX.out
            omega⟩
           clear hno HTM HIX HGM hty
           go_upto_region 10 with fail
           refine zt [(0, true), (1, true), (2, true), (3, true), (4, true), (5, true), (6, true), (7, true), (8, true), (9, true), (10, true), (11, true), (12, true), (13, true), (14, true), (15, true), (16, true), (17, true), (18, true), (19, true)] (fun X => X = wr.drew) (by kernel_rfl) (by kernel_rfl) rfl ?_
           repeat
            apply zy rfl
            · rintro K' hK' X rfl
              go_simp
              exact hK'
           refine zG ?_
           go_wp2_with fail
           go_roundw
           case rel => exact ⟨m + 1, q + 1, by omega, by go_num, by rw [Hid, hw.out]; rfl, .inr ⟨ix, rfl, hxx⟩⟩
           case measure => simp [intOf]; omega
         · have hno2 : Hid (∀ i, i < m + 1 → keys.getD i ⟨0, 0⟩ ≠ ⟨ya, yb⟩) := fun i hi => by
            by_cases e : i = m
            · subst e; rw [HGM.out]; exact hty
            · exact hno.out i (by omega)
           clear hno HTM HIX HGM
           by_cases ea : ta = ya
           · have eb : ¬ tb = yb := fun e => hty (by rw [ea, e])
             have eb2 : decide (tb = yb) = false := decide_eq_false eb
             subst ea
             clear hty
             go_upto_region 10 with fail
             refine zt [(0, true), (1, true), (2, true), (3, true), (4, true), (5, true), (6, true), (7, true), (8, true), (9, true), (10, true), (11, true), (12, true), (13, true), (14, true), (15, true), (16, true), (17, true), (18, true), (19, true)] (fun X => X = wr.drew) (by kernel_rfl) (by kernel_rfl) rfl ?_
             repeat
              apply zy rfl
              · rintro K' hK' X rfl
                go_simp
                exact hK'
             refine zG ?_
             go_wp2_with fail
             go_roundw
             case rel => exact ⟨m + 1, q + 1, by omega, by go_num, by rw [Hid, hw.out]; rfl, .inl ⟨rfl, hno2⟩⟩
             case measure => simp [intOf]; omega
           · have ea2 : decide (ta = ya) = false := decide_eq_false ea
             clear hty
             go_upto_region 10 with fail
             refine zt [(0, true), (1, true), (2, true), (3, true), (4, true), (5, true), (6, true), (7, true), (8, true), (9, true), (10, true), (11, true), (12, true), (13, true), (14, true), (15, true), (16, true), (17, true), (18, true), (19, true)] (fun X => X = wr.drew) (by kernel_rfl) (by kernel_rfl) rfl ?_
             repeat
              apply zy rfl
              · rintro K' hK' X rfl
                go_simp
                exact hK'
             refine zG ?_
             go_wp2_with fail
             go_roundw
             case rel => exact ⟨m + 1, q + 1, by omega, by go_num, by rw [Hid, hw.out]; rfl, .inl ⟨rfl, hno2⟩⟩
             case measure => simp [intOf]; omega
       · obtain rfl : m = k := by omega
         have hny : (⟨ya, yb⟩ : K2) ∉ keys.take m := fun hin => by
          obtain ⟨i, hi, e⟩ := List.mem_take_iff_getElem.1 hin
          exact hno.out i (by omega) (by rw [zI (by omega)]; exact e)
         have HS2 : Hid (zY (keys.take (m + 1)) = zY (keys.take m) ++ [(NX : Int)]) := by rw [Hid, HSN.out, if_neg hny, HNX.out]
         have HU2 : Hid ((yc (keys.take (m + 1))).length = NX + 1) := by
          rw [Hid, HUS.out]
          unfold xj
          rw [if_neg (fun e => hny (zW.1 e)), List.length_append, HNX.out]; rfl
         have hO5 : Hid (Own wr w.heap.size (.slice Ao m co) (zY (keys.take m))) := by rw [hw.out]; exact HO.out.drewN q
         have hb5 : Hid (Below w.heap.size w wr) := by rw [hw.out]; exact zQ hb.out q
         have hl5 : (zY (keys.take m)).length ≤ 100000 := by rw [zV]; simp; omega
         clear hno hny HSN HUS hw HI HI' HIO z0 z0'
         go_wp2_with (at_builtin; go_must (refine yA rfl _ _ rfl w.heap.size (.slice Ao m co) _ (NX : Int) rfl hO5.out rfl (by omega) hb5.out.size ?_); intro v' w5 hown1 hg1 hb1)
         go_roundw
         case rel => exact ⟨m + 1, by omega, by go_num, by rw [HU2.out]; go_num, by rw [HS2.out]; exact hown1, hb5.out.trans hb1⟩
         case measure => simp [intOf]; omega
     · have HS2 : Hid (zY (keys.take (k + 1)) = zY (keys.take k) ++ [(x : Int)]) := by rw [Hid, HSN.out, if_pos hx.out.1, hx.out.2.1]
       have HU2 : Hid ((yc (keys.take (k + 1))).length = NX) := by
        rw [Hid, HUS.out]
        unfold xj
        rw [if_pos (zW.2 hx.out.1), HNX.out]
       have hO5 : Hid (Own wr w.heap.size (.slice Ao k co) (zY (keys.take k))) := by rw [hw.out]; exact HO.out.drewN q
       have hb5 : Hid (Below w.heap.size w wr) := by rw [hw.out]; exact zQ hb.out q
       have hl5 : (zY (keys.take k)).length ≤ 100000 := by rw [zV]; simp; omega
       have hx0 : ¬ (x : Int) < 0 := by omega
       clear hx HSN HUS hw HI HI' HIO z0 z0'
       by_cases hmk : m < k
       · have hm1 : (m : Int) < (k : Int) := by omega
         go_wp2_with (at_builtin; go_must (refine yA rfl _ _ rfl w.heap.size (.slice Ao k co) _ (x : Int) rfl hO5.out rfl (by omega) hb5.out.size ?_); intro v' w5 hown1 hg1 hb1)
         go_roundw
         case rel => exact ⟨k + 1, by omega, by go_num, by rw [HU2.out], by rw [HS2.out]; exact hown1, hb5.out.trans hb1⟩
         case measure => simp [intOf]; omega
       · have hm1 : ¬ (m : Int) < (k : Int) := by omega
         go_wp2_with (at_builtin; go_must (refine yA rfl _ _ rfl w.heap.size (.slice Ao k co) _ (x : Int) rfl hO5.out rfl (by omega) hb5.out.size ?_); intro v' w5 hown1 hg1 hb1)
         go_roundw
         case rel => exact ⟨k + 1, by omega, by go_num, by rw [HU2.out], by rw [HS2.out]; exact hown1, hb5.out.trans hb1⟩
         case measure => simp [intOf]; omega
  · obtain rfl : k = keys.length := by omega
    have hO9 := HO.out
    rw [List.take_length] at hO9
    have HO9 := zH hO9
    clear hO9 HO hlt
    go_wp2_with fail
    go_ret
    refine ⟨Ao, co, by rw [zV]; rfl, ?_, hb.out⟩
    rw [zV]
    exact HO9.out
end
section
open Go.RowKit Go.Shelf
attribute [local go_sem] Oper.semAt_some
def JK : Option Obj → Nat
 | some (.cells cs _ _) => (cs.toList.map fun v => (intOf v).toNat).sum
 | _ => 0
theorem YM {w : World} {g : Nat} {xs : List Int} (h : RowAt w g xs) : JK w.heap[g]? = jA xs := by
 rw [h]
 unfold JK jA
 simp only [List.map_map]
 rfl
def jh (n k : Nat) : List Int := (List.range n).map fun (i : Nat) => if i < k then (i : Int) else 0
theorem idxL_zero (n : Nat) : jh n 0 = List.replicate n 0 := by
 refine List.ext_getElem (by simp [jh]) fun i h1 h2 => ?_
 simp [jh]
theorem idxL_all (n : Nat) : jh n n = (List.range n).map fun (i : Nat) => (i : Int) := by
 refine List.ext_getElem (by simp [jh]) fun i h1 h2 => ?_
 have : i < n := by simpa [jh] using h1
 simp [jh, this]
theorem idxL_len (n k : Nat) : (jh n k).length = n := by simp [jh]
theorem idxL_set (n k : Nat) (_hk : k < n) : (jh n k).set k (k : Int) = jh n (k + 1) := by
 refine List.ext_getElem (by simp [jh]) fun i h1 h2 => ?_
 rw [List.getElem_set]
 by_cases e : k = i
 · subst e; simp [jh]
 · have e1 : i < k + 1 ↔ i < k := by omega
   simp [jh, e, e1]
def yF (p q : Nat × Nat) : Prop := p.1 < q.1 ∨ (p.1 = q.1 ∧ p.2 < q.2)
def PairSt (n : Nat) (r : Nat → Nat → Prop) (out0 out : List Int) (c : Bool) (at_ : Nat × Nat) : Prop :=
 (c = false ∧ out = out0 ∧ ∀ i k, i < n → k < i → yF (i, k) at_ → r i k → out.getD i 0 = out.getD k 0) ∨ (c = true ∧ jA out < jA out0)
theorem PairSt.start (n : Nat) (r : Nat → Nat → Prop) (out : List Int) : PairSt n r out out false (0, 0) := .inl ⟨rfl, rfl, fun i k _ _ h _ => by unfold yF at h; simp at h⟩
theorem PairSt.skip {n k m : Nat} {r : Nat → Nat → Prop} {out0 out : List Int} {c : Bool} (h : PairSt n r out0 out c (k, m)) (hkm : r k m → out.getD k 0 = out.getD m 0) : PairSt n r out0 out c (k, m + 1) := by
 rcases h with ⟨h1, h2, h3⟩ | h
 · refine .inl ⟨h1, h2, fun i j hi hj hb hr => ?_⟩
   by_cases e : i = k ∧ j = m
   · obtain ⟨rfl, rfl⟩ := e; exact hkm hr
   · exact h3 i j hi hj (by unfold yF at hb ⊢; simp at hb ⊢; omega) hr
 · exact .inr h
theorem PairSt.next {n k : Nat} {r : Nat → Nat → Prop} {out0 out : List Int} {c : Bool} (h : PairSt n r out0 out c (k, k)) : PairSt n r out0 out c (k + 1, 0) := by
 rcases h with ⟨h1, h2, h3⟩ | h
 · exact .inl ⟨h1, h2, fun i j hi hj hb hr => h3 i j hi hj (by unfold yF at hb ⊢; simp at hb ⊢; omega) hr⟩
 · exact .inr h
theorem PairSt.less {n k m : Nat} {r : Nat → Nat → Prop} {out0 out out2 : List Int} {c : Bool} (h : PairSt n r out0 out c (k, m)) (hs : jA out2 < jA out) : PairSt n r out0 out2 true (k, m + 1) := by
 rcases h with ⟨_, h2, _⟩ | ⟨_, h⟩
 · exact .inr ⟨rfl, by rw [← h2]; exact hs⟩
 · exact .inr ⟨rfl, by omega⟩
theorem PairSt.done {n : Nat} {r : Nat → Nat → Prop} {out0 out : List Int} {c : Bool} (h : PairSt n r out0 out c (n, 0)) : (c = false ∧ out = out0 ∧ ∀ i k, i < n → k < i → r i k → out.getD i 0 = out.getD k 0) ∨ (c = true ∧ jA out < jA out0) := by
 rcases h with ⟨h1, h2, h3⟩ | h
 · exact .inl ⟨h1, h2, fun i k hi hk hr => h3 i k hi hk (by unfold yF; simp; omega) hr⟩
 · exact .inr h
set_option maxRecDepth 100000 in
theorem JP (A B : Option Addr) (ca cb n : Nat) (a b : List Int) (ha : a.length = n) (hbn : b.length = n) (hn : n ≤ 100000) (w : World) (hA : IAt w w.heap.size A a) (hB : IAt w w.heap.size B b) :
  Calls Tryz.prog 128 #[.slice A n ca, .slice B n cb] w (jR (yH n (orE a b)) w) := by
 have HA := zH hA
 have HB := zH hB
 have HLA := zH ha
 have HLB := zH hbn
 have hmk := ul n hn
 obtain ⟨Z, hZ⟩ : ∃ Z, ((List.replicate n 0).map (Value.int .i64)).toArray = Z := ⟨_, rfl⟩
 rw [hZ] at hmk
 have HZ := zH hZ
 clear hZ
 have HLB2 := zH (fun (A : Option Addr) (c : Nat) (X : World) (hI : IAt X X.heap.size A ((List.range n).map fun (i : Nat) => (kF n (orE a b) i : Int))) => uM A c _ (by simp; omega) X hI)
 clear hA hB ha hbn
 go_enter Tryz.func128, Tryz.ntmps128
 go_upto_region 2 with fail
 obtain ⟨w1, hw1, d1, hs1, hb1⟩ := zr w Z 3
 rw [hw1]
 have HR1 : Hid (RowAt w1 w.heap.size (jh n 0)) := by show RowAt _ _ _; rw [idxL_zero]; unfold RowAt; rw [HZ.out]; exact d1
 have HB1 := zH hb1
 clear hw1 d1 hb1 hmk
 go_wp2_with fail
 go_loopw [6] (fun i wr => ∃ k : Nat, k ≤ n ∧ i = .int .i64 (k : Int) ∧ Hid (RowAt wr w.heap.size (jh n k)) ∧ Hid (Below w.heap.size w wr)) (fun i _ => n - (intOf i).toNat)
 case atStart => exact ⟨0, by omega, rfl, HR1, HB1⟩
 case round =>
  obtain ⟨k, hk, rfl, HR, HBw⟩ := hrel
  clear HR1 HB1
  by_cases hlt : k < n
  · have y0 := HR.out.cell k (by rw [idxL_len]; exact hlt)
    have f0 := HR.out.froz k
    have l0 := HR.out.lt
    have hset := HR.out.set k (k : Int)
    rw [idxL_set n k hlt] at hset
    have HSET := zH hset
    have HBN := zH (HBw.out.setCell (p := ⟨w.heap.size, k, none⟩) (by show w.heap.size ≤ w.heap.size; omega) (.int .i64 (k : Int)))
    have hk0 : (0 : Int) ≤ (k : Int) := by omega
    have hk1 : (k : Int) < (n : Int) := by omega
    clear hset HR HBw
    go_wp2_with fail
    go_roundw
    case rel => exact ⟨k + 1, by omega, by go_num, HSET, HBN⟩
    case measure => simp [intOf]; omega
  · obtain rfl : n = k := by omega
    have HG0 : Hid (GlI n (orE a b) (jh n n)) := by show GlI _ _ _; rw [idxL_all]; exact GlI.start
    clear hlt
    go_wp2_with fail
    go_loopw [7] (fun ch wr => ∃ (c : Bool) (out : List Int), ch = .bool c ∧ Hid (GlI n (orE a b) out) ∧ Hid (RowAt wr w.heap.size out) ∧ Hid (Below w.heap.size w wr) ∧ Hid (c = false → ∀ i k, i < n → k < i → orE a b i k → out.getD i 0 = out.getD k 0)) (fun ch wr => match ch with | .bool true => JK wr.heap[w.heap.size]? + 1 | _ => 0)
    case atStart => exact ⟨true, _, rfl, HG0, HR, HBw, fun h => by cases h⟩
    case round =>
     obtain ⟨c, out0, rfl, HG, HR0, HB0, HST⟩ := hrel
     clear HG0 HR HBw
     cases c with
     | false =>
      have hd := HG.out.done (Y3 a b) (HST.out rfl)
      have HI9 : Hid (IAt wr wr.heap.size (some ⟨w.heap.size, 0, none⟩) ((List.range n).map fun (i : Nat) => (kF n (orE a b) i : Int))) := by
       rw [← hd]
       exact fun _ => ⟨w.heap.size, 0, rfl, HR0.out.lt, fun i hi => by rw [Nat.zero_add]; exact HR0.out.cell i hi⟩
      have HC := zH (HLB2.out _ n wr HI9.out)
      rw [lab_cmin] at HC
      simp only [List.length_map, List.length_range] at HC
      clear hd HG HST HLB2 HA HB HLA HLB
      go_wp2_with fail
      refine HC.out.mono ?_
      rintro e w3 ⟨A5, c5, rfl, ho5, hb5⟩
      have hsz2 := HB0.out.size
      have HO5 := zH ho5
      have HB5 := zH (HB0.out.trans (hb5.mono hsz2))
      clear hb5 ho5
      go_wp2_with fail
      go_ret
      exact ⟨A5, c5, rfl, HO5.out.low hsz2, HB5.out⟩
     | true =>
      have HM0 : Hid (JK wr.heap[w.heap.size]? = jA out0) := YM HR0.out
      obtain ⟨MS, hMS⟩ : ∃ MS, JK wr.heap[w.heap.size]? = MS := ⟨_, rfl⟩
      rw [hMS] at HM0
      have HMS := zH hMS
      clear HST hMS
      go_wp2_with fail
      go_loopw [7, 8] (fun ch i wr => ∃ (k : Nat) (out : List Int) (c : Bool), k ≤ n ∧ ch = .bool c ∧ i = .int .i64 (k : Int) ∧ Hid (GlI n (orE a b) out) ∧ Hid (RowAt wr w.heap.size out) ∧ Hid (Below w.heap.size w wr) ∧ Hid (PairSt n (orE a b) out0 out c (k, 0))) (fun _ i _ => n - (intOf i).toNat)
      case atStart => exact ⟨0, out0, false, by omega, rfl, rfl, HG, HR0, HB0, PairSt.start _ _ _⟩
      case round =>
       obtain ⟨k, out1, c1, hk, rfl, rfl, HG1, HR1, HB1, HS1⟩ := hrel
       clear HG HR0 HB0
       by_cases hlt : k < n
       · have hk0 : (0 : Int) ≤ (k : Int) := by omega
         have hk1 : (k : Int) < (n : Int) := by omega
         go_wp2_with fail
         go_loopw [7, 9] (fun ch j wr => ∃ (m : Nat) (out : List Int) (c : Bool), m ≤ k ∧ ch = .bool c ∧ j = .int .i64 (m : Int) ∧ Hid (GlI n (orE a b) out) ∧ Hid (RowAt wr w.heap.size out) ∧ Hid (Below w.heap.size w wr) ∧ Hid (PairSt n (orE a b) out0 out c (k, m))) (fun _ j _ => k - (intOf j).toNat)
         case atStart => exact ⟨0, out1, c1, by omega, rfl, rfl, HG1, HR1, HB1, HS1⟩
         case round =>
          obtain ⟨m, out, c, hm, rfl, rfl, HGw, HRw, HBw, HSw⟩ := hrel
          clear HG1 HR1 HB1 HS1
          by_cases hmk : m < k
          · have hol := HGw.out.len
            obtain ⟨ba, oa, eA, _, ya0⟩ := (HA.out.keep HBw.out).at_ k (by rw [HLA.out]; exact hlt)
            obtain ⟨ba', oa', eA', _, ya1⟩ := (HA.out.keep HBw.out).at_ m (by rw [HLA.out]; omega)
            rw [eA] at eA'
            simp only [Option.some.injEq, Addr.mk.injEq, and_true] at eA'
            obtain ⟨rfl, rfl⟩ := eA'
            obtain ⟨bb, ob, eB, _, yb0⟩ := (HB.out.keep HBw.out).at_ k (by rw [HLB.out]; exact hlt)
            obtain ⟨bb', ob', eB', _, yb1⟩ := (HB.out.keep HBw.out).at_ m (by rw [HLB.out]; omega)
            rw [eB] at eB'
            simp only [Option.some.injEq, Addr.mk.injEq, and_true] at eB'
            obtain ⟨rfl, rfl⟩ := eB'
            subst eA
            subst eB
            have yo0 := HRw.out.cell k (by omega)
            have yo1 := HRw.out.cell m (by omega)
            rw [← zX (by rw [HLA.out]; exact hlt) 0] at ya0
            rw [← zX (by rw [HLA.out]; omega) 0] at ya1
            rw [← zX (by rw [HLB.out]; exact hlt) 0] at yb0
            rw [← zX (by rw [HLB.out]; omega) 0] at yb1
            rw [← zX (by omega) 0] at yo0 yo1
            have ya0 : wr.drew.cell? ⟨ba, oa + k, none⟩ = some (.int .i64 (a.getD k 0)) := ya0
            have ya1 : wr.drew.cell? ⟨ba, oa + m, none⟩ = some (.int .i64 (a.getD m 0)) := ya1
            have yb0 : wr.drew.cell? ⟨bb, ob + k, none⟩ = some (.int .i64 (b.getD k 0)) := yb0
            have yb1 : wr.drew.cell? ⟨bb, ob + m, none⟩ = some (.int .i64 (b.getD m 0)) := yb1
            have yo0 : wr.drew.cell? ⟨w.heap.size, k, none⟩ = some (.int .i64 (out.getD k 0)) := yo0
            have yo1 : wr.drew.cell? ⟨w.heap.size, m, none⟩ = some (.int .i64 (out.getD m 0)) := yo1
            have hor : Hid (orE a b k m ↔ (a.getD k 0 = a.getD m 0 ∨ b.getD k 0 = b.getD m 0)) := Iff.rfl
            have hJ := zH (fun (hr : orE a b k m) (hne : out.getD k 0 ≠ out.getD m 0) => HGw.out.join (Y3 a b) hlt hmk hr hne)
            have HG0a := zH (HGw.out.low k hlt)
            have HG0b := zH (HGw.out.low m (by omega))
            have hst := HSw
            have hm0 : (0 : Int) ≤ (m : Int) := by omega
            have hm1 : (m : Int) < (k : Int) := by omega
            have hm2 : (m : Int) < (n : Int) := by omega
            obtain ⟨a0, ha0⟩ : ∃ x, a.getD k 0 = x := ⟨_, rfl⟩
            obtain ⟨a1, ha1⟩ : ∃ x, a.getD m 0 = x := ⟨_, rfl⟩
            obtain ⟨b0, hb0⟩ : ∃ x, b.getD k 0 = x := ⟨_, rfl⟩
            obtain ⟨b1, hb1⟩ : ∃ x, b.getD m 0 = x := ⟨_, rfl⟩
            obtain ⟨o0, ho0⟩ : ∃ x, out.getD k 0 = x := ⟨_, rfl⟩
            obtain ⟨o1, ho1⟩ : ∃ x, out.getD m 0 = x := ⟨_, rfl⟩
            rw [ha0] at ya0 hor
            rw [ha1] at ya1 hor
            rw [hb0] at yb0 hor
            rw [hb1] at yb1 hor
            rw [ho0] at yo0 hJ HG0a
            rw [ho1] at yo1 hJ HG0b
            have HOE : Hid (o0 = o1 → out.getD k 0 = out.getD m 0) := fun h => by rw [ho0, ho1, h]
            clear ha0 ha1 hb0 hb1 ho0 ho1 HSw
            by_cases hadj : a0 = a1 ∨ b0 = b1
            · by_cases hoo : o0 = o1
              · have HSK := zH (fun _ : orE a b k m => HOE.out hoo)
                subst hoo
                by_cases haa : a0 = a1
                · subst haa
                  have hst2 : Hid (PairSt n (orE a b) out0 out c (k, m + 1)) := hst.out.skip HSK.out
                  clear hst hadj hor hJ HOE HSK
                  go_wp2_with fail
                  refine zt [(0, true), (1, true), (2, true), (3, true), (4, true), (5, true), (6, true), (7, true), (8, true), (9, true), (10, true), (11, true), (12, true), (13, true), (14, true), (15, true), (16, true), (17, true), (18, true), (19, true), (20, true), (21, true), (22, true), (23, true), (24, true), (25, true), (26, true), (27, true), (28, true), (29, true), (30, true)] (fun X => X = wr.drew) (by kernel_rfl) (by kernel_rfl) rfl ?_
                  repeat
                   apply zy rfl
                   · rintro K' hK' X rfl
                     go_simp
                     exact hK'
                  refine zG ?_
                  have HRd : Hid (RowAt wr.drew w.heap.size out) := HRw.out
                  have HBd : Hid (Below w.heap.size w wr.drew) := HBw.out.drew
                  obtain ⟨W5, hW5⟩ : ∃ W5, wr.drew = W5 := ⟨_, rfl⟩
                  rw [hW5] at HRd HBd ⊢
                  clear hW5 ya0 ya1 yb0 yb1 yo0 yo1 HRw HBw
                  go_wp2_with fail
                  go_roundw
                  case rel => exact ⟨m + 1, out, c, by omega, rfl, by go_num, HGw, HRd, HBd, hst2⟩
                  case measure => simp [intOf]; omega
                · have hbb : b0 = b1 := hadj.resolve_left haa
                  subst hbb
                  have q1 : (a0 == a1) = false := by simpa using haa
                  have hst2 : Hid (PairSt n (orE a b) out0 out c (k, m + 1)) := hst.out.skip HSK.out
                  clear hst hadj hor hJ HOE HSK
                  go_wp2_with fail
                  refine zt [(0, true), (1, true), (2, true), (3, true), (4, true), (5, true), (6, true), (7, true), (8, true), (9, true), (10, true), (11, true), (12, true), (13, true), (14, true), (15, true), (16, true), (17, true), (18, true), (19, true), (20, true), (21, true), (22, true), (23, true), (24, true), (25, true), (26, true), (27, true), (28, true), (29, true), (30, true)] (fun X => X = wr.drew) (by kernel_rfl) (by kernel_rfl) rfl ?_
                  repeat
                   apply zy rfl
                   · rintro K' hK' X rfl
                     go_simp
                     exact hK'
                  refine zG ?_
                  have HRd : Hid (RowAt wr.drew w.heap.size out) := HRw.out
                  have HBd : Hid (Below w.heap.size w wr.drew) := HBw.out.drew
                  obtain ⟨W5, hW5⟩ : ∃ W5, wr.drew = W5 := ⟨_, rfl⟩
                  rw [hW5] at HRd HBd ⊢
                  clear hW5 ya0 ya1 yb0 yb1 yo0 yo1 HRw HBw
                  go_wp2_with fail
                  go_roundw
                  case rel => exact ⟨m + 1, out, c, by omega, rfl, by go_num, HGw, HRd, HBd, hst2⟩
                  case measure => simp [intOf]; omega
              · obtain ⟨hj1, hj2⟩ := hJ.out (hor.out.2 hadj) hoo
                have HJ1 := zH hj1
                have hst2 : Hid (PairSt n (orE a b) out0 ((out.set k (min o0 o1)).set m (min o0 o1)) true (k, m + 1)) := hst.out.less hj2
                have q2 : (o0 != o1) = true := by simpa using hoo
                have q3 : (o0 == o1) = false := by simpa using hoo
                clear hJ hj1 hj2 hst HOE
                by_cases haa : a0 = a1
                · subst haa
                  clear hadj hor
                  go_wp2_with fail
                  refine zt [(0, true), (1, true), (2, true), (3, true), (4, true), (5, true), (6, true), (7, true), (8, true), (9, true), (10, true), (11, true), (12, true), (13, true), (14, true), (15, true), (16, true), (17, true), (18, true), (19, true), (20, true), (21, true), (22, true), (23, true), (24, true), (25, true), (26, true), (27, true), (28, true), (29, true), (30, true)] (fun X => X = wr.drew) (by kernel_rfl) (by kernel_rfl) rfl ?_
                  repeat
                   apply zy rfl
                   · rintro K' hK' X rfl
                     go_simp
                     exact hK'
                  refine zG ?_
                  have HRd : Hid (RowAt wr.drew w.heap.size out) := HRw.out
                  have HBd : Hid (Below w.heap.size w wr.drew) := HBw.out.drew
                  have hdd : Hid (∀ p, wr.drew.cell? p = wr.cell? p) := fun _ => rfl
                  obtain ⟨W5, hW5⟩ : ∃ W5, wr.drew = W5 := ⟨_, rfl⟩
                  rw [hW5] at HRd HBd yo0 yo1 ⊢
                  clear hW5 ya0 ya1 yb0 yb1 HRw HBw hdd
                  go_wp2_with fail
                  go_quiet (fail)
                  have HRe : Hid (RowAt (W5.drewN nq) w.heap.size out) := HRd.out
                  have HBe : Hid (Below w.heap.size w (W5.drewN nq)) := zQ HBd.out nq
                  have yo0' : (W5.drewN nq).cell? ⟨w.heap.size, k, none⟩ = some (.int .i64 o0) := yo0
                  have yo1' : (W5.drewN nq).cell? ⟨w.heap.size, m, none⟩ = some (.int .i64 o1) := yo1
                  obtain ⟨W6, hW6⟩ : ∃ W6, W5.drewN nq = W6 := ⟨_, rfl⟩
                  rw [hW6] at HRe HBe yo0' yo1' ⊢
                  have fk := HRe.out.froz k
                  have fm := HRe.out.froz m
                  have lg := HRe.out.lt
                  have hkm : ¬ k = m := by omega
                  have hmk2 : ¬ m = k := by omega
                  clear hW6 yo0 yo1 HRd HBd
                  go_wp2_with fail
                  have HRs := zH ((HRe.out.set k (min o0 o1)).set m (min o0 o1))
                  have HBs := zH ((HBe.out.setCell (p := ⟨w.heap.size, k, none⟩) (by show w.heap.size ≤ w.heap.size; omega) (.int .i64 (min o0 o1))).setCell (p := ⟨w.heap.size, m, none⟩) (by show w.heap.size ≤ w.heap.size; omega) (.int .i64 (min o0 o1)))
                  go_roundw
                  case rel => exact ⟨m + 1, _, true, by omega, rfl, by go_num, HJ1, HRs, HBs, hst2⟩
                  case measure => simp [intOf]; omega
                · have hbb : b0 = b1 := hadj.resolve_left haa
                  subst hbb
                  have q1 : (a0 == a1) = false := by simpa using haa
                  clear hadj hor
                  go_wp2_with fail
                  refine zt [(0, true), (1, true), (2, true), (3, true), (4, true), (5, true), (6, true), (7, true), (8, true), (9, true), (10, true), (11, true), (12, true), (13, true), (14, true), (15, true), (16, true), (17, true), (18, true), (19, true), (20, true), (21, true), (22, true), (23, true), (24, true), (25, true), (26, true), (27, true), (28, true), (29, true), (30, true)] (fun X => X = wr.drew) (by kernel_rfl) (by kernel_rfl) rfl ?_
                  repeat
                   apply zy rfl
                   · rintro K' hK' X rfl
                     go_simp
                     exact hK'
                  refine zG ?_
                  have HRd : Hid (RowAt wr.drew w.heap.size out) := HRw.out
                  have HBd : Hid (Below w.heap.size w wr.drew) := HBw.out.drew
                  have hdd : Hid (∀ p, wr.drew.cell? p = wr.cell? p) := fun _ => rfl
                  obtain ⟨W5, hW5⟩ : ∃ W5, wr.drew = W5 := ⟨_, rfl⟩
                  rw [hW5] at HRd HBd yo0 yo1 ⊢
                  clear hW5 ya0 ya1 yb0 yb1 HRw HBw hdd
                  go_wp2_with fail
                  go_quiet (fail)
                  have HRe : Hid (RowAt (W5.drewN nq) w.heap.size out) := HRd.out
                  have HBe : Hid (Below w.heap.size w (W5.drewN nq)) := zQ HBd.out nq
                  have yo0' : (W5.drewN nq).cell? ⟨w.heap.size, k, none⟩ = some (.int .i64 o0) := yo0
                  have yo1' : (W5.drewN nq).cell? ⟨w.heap.size, m, none⟩ = some (.int .i64 o1) := yo1
                  obtain ⟨W6, hW6⟩ : ∃ W6, W5.drewN nq = W6 := ⟨_, rfl⟩
                  rw [hW6] at HRe HBe yo0' yo1' ⊢
                  have fk := HRe.out.froz k
                  have fm := HRe.out.froz m
                  have lg := HRe.out.lt
                  have hkm : ¬ k = m := by omega
                  have hmk2 : ¬ m = k := by omega
                  clear hW6 yo0 yo1 HRd HBd
                  go_wp2_with fail
                  have HRs := zH ((HRe.out.set k (min o0 o1)).set m (min o0 o1))
                  have HBs := zH ((HBe.out.setCell (p := ⟨w.heap.size, k, none⟩) (by show w.heap.size ≤ w.heap.size; omega) (.int .i64 (min o0 o1))).setCell (p := ⟨w.heap.size, m, none⟩) (by show w.heap.size ≤ w.heap.size; omega) (.int .i64 (min o0 o1)))
                  go_roundw
                  case rel => exact ⟨m + 1, _, true, by omega, rfl, by go_num, HJ1, HRs, HBs, hst2⟩
                  case measure => simp [intOf]; omega
            · have HSK := zH (fun h : orE a b k m => (absurd (hor.out.1 h) hadj : out.getD k 0 = out.getD m 0))
              have haa : ¬ a0 = a1 := fun h => hadj (.inl h)
              have hbb : ¬ b0 = b1 := fun h => hadj (.inr h)
              have q1 : (a0 == a1) = false := by simpa using haa
              have q2 : (b0 == b1) = false := by simpa using hbb
              have hst2 : Hid (PairSt n (orE a b) out0 out c (k, m + 1)) := hst.out.skip HSK.out
              clear hst hadj hor hJ HOE HSK
              go_wp2_with fail
              refine zt [(0, true), (1, true), (2, true), (3, true), (4, true), (5, true), (6, true), (7, true), (8, true), (9, true), (10, true), (11, true), (12, true), (13, true), (14, true), (15, true), (16, true), (17, true), (18, true), (19, true), (20, true), (21, true), (22, true), (23, true), (24, true), (25, true), (26, true), (27, true), (28, true), (29, true), (30, true)] (fun X => X = wr.drew) (by kernel_rfl) (by kernel_rfl) rfl ?_
              repeat
               apply zy rfl
               · rintro K' hK' X rfl
                 go_simp
                 exact hK'
              refine zG ?_
              have HRd : Hid (RowAt wr.drew w.heap.size out) := HRw.out
              have HBd : Hid (Below w.heap.size w wr.drew) := HBw.out.drew
              obtain ⟨W5, hW5⟩ : ∃ W5, wr.drew = W5 := ⟨_, rfl⟩
              rw [hW5] at HRd HBd ⊢
              clear hW5 ya0 ya1 yb0 yb1 yo0 yo1 HRw HBw
              go_wp2_with fail
              go_roundw
              case rel => exact ⟨m + 1, out, c, by omega, rfl, by go_num, HGw, HRd, HBd, hst2⟩
              case measure => simp [intOf]; omega
          · obtain rfl : m = k := by omega
            have hn2 := zH HSw.out.next
            have hmm : ¬ (m : Int) < (m : Int) := by omega
            clear HSw
            go_wp2_with fail
            go_roundw
            case rel => exact ⟨m + 1, out, c, by omega, rfl, by go_num, HGw, HRw, HBw, hn2⟩
            case measure => simp [intOf]; omega
       · obtain rfl : k = n := by omega
         have hkk : ¬ (k : Int) < (k : Int) := by omega
         have HD := zH HS1.out.done
         have HM9 : Hid (JK wr.heap[w.heap.size]? = jA out1) := YM HR1.out
         clear HS1
         go_wp2_with fail
         go_roundw
         case rel => exact ⟨c1, out1, rfl, HG1, HR1, HB1, fun hc => by
          rcases HD.out with ⟨_, _, h⟩ | ⟨h, _⟩
          · exact h
          · rw [h] at hc; cases hc⟩
         case measure =>
          have h1 := HM9.out
          have h2 := HM0.out
          have h3 := HMS.out
          rcases HD.out with ⟨h, _⟩ | ⟨h, h4⟩
          · subst h
            simp only
            omega
          · subst h
            simp only
            omega
end
section
open Go.RowKit Go.Shelf
attribute [local go_sem] Oper.semAt_some
set_option maxRecDepth 100000 in
theorem JJ (s : Sy) (K N : Nat) (hF : Fine s K N) (G : Nat) (hG : G < 2 ^ N) (A SV AV AX : Option Addr) (kc ks kv kx : Nat) (w : World) (hX : XAt w w.heap.size AX s.xs) :
  Calls Tryz.prog 68 #[.agg (s.vs_ A kc SV ks AV kv AX kx), .int .i64 (G : Int)] w (jR (yH (ptn s) (kZ s G)) w) := by
 obtain ⟨w1, hw1, d0, hs1, hB⟩ := zr w (s.vs_ A kc SV ks AV kv AX kx) 35
 have HSZ := zH (fun (X : World) => vW s K N hF A SV AV AX kc ks kv kx X)
 have HOW := zH (fun (q : Nat) (hq : q < N) (X : World) (hX : XAt X X.heap.size AX s.xs) => wX s K N hF q hq A SV AV AX kc ks kv kx X hX)
 have hpn : ptn s ≤ 700 := by
  have hk := hF.k
  have hk6 := hF.k6
  have := Nat.mul_le_mul hF.lx (show s.p.k.toNat + 1 ≤ 7 by omega)
  unfold ptn; omega
 have hn5 := hF.n5
 have hnn := hF.n
 have hT32 : 2 ^ N ≤ 32 := by
  have := Nat.pow_le_pow_right (n := 2) (by omega) hn5
  omega
 have hG32 : G < 32 := by omega
 have HHA := zH (fun (p : Nat) (hp : p < N) (X : World) => jx G p hG32 (by omega) X)
 have HEND : Hid (kZ s G = kJ (yn G N) (xa s)) := by
  unfold kZ psG
  rw [hnn, Int.toNat_natCast, Int.toNat_natCast]; rfl
 have HLN := zH (fun q => yY s q)
 obtain ⟨n, hn⟩ : ∃ n, ptn s = n := ⟨_, rfl⟩
 obtain ⟨CLS, hCLS⟩ : ∃ CLS, xa s = CLS := ⟨_, rfl⟩
 rw [HEND.out]
 rw [hCLS] at HOW HLN HEND ⊢
 rw [hn] at HSZ HLN hpn ⊢
 have HST := zH (fun k => comp_snoc n (yn G k) k CLS)
 have HS0 := gZ n CLS
 have HS0 := zH HS0
 have HGL := zH (fun (A B : Option Addr) (ca cb : Nat) (a b : List Int) (ha : a.length = n) (hb : b.length = n) (X : World) (hA : IAt X X.heap.size A a) (hB : IAt X X.heap.size B b) => JP A B ca cb n a b ha hb (by omega) X hA hB)
 have HX := zH (hX.keep hB)
 unfold Sy.vs_ at hw1 d0 HSZ HOW ⊢
 have HW1 := zH hw1
 have HB := zH hB
 have HD := zH d0
 have HN := zH hnn
 clear hw1 d0 hB hF hX hn hCLS hnn HS0 hG hT32
 have HS0 := gZ n CLS
 have HS0 := zH HS0
 go_enter Tryz.func68, Tryz.ntmps68
 go_wp2_with fail
 rw [HW1.out]
 go_wp2_with fail
 clear HW1
 go_loopw [5, 6] (fun o i wr => ∃ k : Nat, k ≤ n ∧ i = .int .i64 (k : Int) ∧ Hid (Own wr w1.heap.size o ((List.range k).map fun (i : Nat) => (i : Int))) ∧ Hid (Below w1.heap.size w1 wr)) (fun _ i _ => n - (intOf i).toNat)
 case atStart => exact ⟨0, by omega, rfl, Own.nil _ _, Below.refl _ _⟩
 case round =>
  obtain ⟨k, hk, rfl, HO, hb⟩ := hrel
  obtain ⟨Ao, co, rfl, _, _, _⟩ := HO.out.form
  have htl : ((List.range k).map fun (i : Nat) => (i : Int)).length = k := by simp
  rw [htl] at HO ⊢
  have dd := (hb.out.block _ (zj HD.out)).trans HD.out
  obtain ⟨p0, p1, p2, p3, p4, p5, p6, p7, p8, p9⟩ := zu dd
  clear dd
  go_wp2_with fail
  refine (HSZ.out wr).mono ?_
  rintro e w2 ⟨rfl, hb2⟩
  have hsz := hb.out.size
  have HB2 := zH (hb.out.trans (hb2.mono hsz))
  have HO2 := zH (HO.out.below hb2 (Nat.le_refl _))
  have hsz2 := HB2.out.size
  clear p0 p1 p2 p3 p4 p5 p6 p7 p8 p9 hb2 HO
  by_cases hlt : k < n
  · have hkn : (k : Int) < (n : Int) := by omega
    go_wp2_with (at_builtin; go_must (refine yA rfl _ _ rfl w1.heap.size (.slice Ao k co) ((List.range k).map fun (i : Nat) => (i : Int)) (k : Int) rfl HO2.out rfl (by omega) hsz2 ?_); intro v' w5 hown1 hg1 hb1)
    go_roundw
    case rel => exact ⟨k + 1, by omega, by go_num, by rw [Hid, List.range_succ, List.map_append]; exact hown1, HB2.out.trans hb1⟩
    case measure => simp [intOf]; omega
  · obtain rfl : k = n := by omega
    have hO9 := HO2.out
    rw [← HS0.out] at hO9
    have HO9 := zH hO9
    have hnk : ¬ (k : Int) < (k : Int) := by omega
    clear hO9 HO2 HSZ
    go_wp2_with fail
    go_loopw [5, 7] (fun o i wr => ∃ (p : Nat) (Ap : Option Addr) (cp : Nat), p ≤ N ∧ i = .int .i64 (p : Int) ∧ o = .slice Ap k cp ∧ Hid (Own wr w1.heap.size (.slice Ap k cp) (yH k (kJ (yn G p) CLS))) ∧ Hid (Below w1.heap.size w1 wr)) (fun _ i _ => N - (intOf i).toNat)
    case atStart => exact ⟨0, Ao, co, by omega, rfl, rfl, HO9, HB2⟩
    case round =>
     obtain ⟨p, Ap, cp, hp, rfl, rfl, HOp, hbp⟩ := hrel
     clear HO9 HB2
     have hszp := hbp.out.size
     have dd := (hbp.out.block _ (zj HD.out)).trans HD.out
     have HDD := zH dd
     obtain ⟨p0, p1, p2, p3, p4, p5, p6, p7, p8, p9⟩ := zu dd
     clear dd
     by_cases hlt2 : p < N
     · have hpn1 : (p : Int) < s.n := by have := HN.out; omega
       by_cases hbit : G.testBit p = true
       · have HC := HHA.out p hlt2 wr
         rw [hbit] at HC
         have HC := zH HC
         have hE : yn G (p + 1) = yn G p ++ [p] := by rw [qY, if_pos hbit]
         have HE := zH hE
         have HC2 := zH (HOW.out p hlt2 wr ((HX.out.keep (hbp.out.mono (by omega))).more (by omega)))
         clear hE hbit
         go_wp2_with fail
         refine HC.out.mono ?_
         rintro e w3 ⟨rfl, hw3⟩
         obtain rfl := hw3
         clear HC
         go_wp2_with fail
         refine HC2.out.mono ?_
         rintro e w4 ⟨A4, c4, rfl, ho4, hb4⟩
         have hsz4 := hb4.size
         rw [HLN.out] at ho4 ⊢
         have HI4 : Hid (IAt w4 w4.heap.size A4 (CLS p)) := by
          obtain ⟨A', c', e', _, _, hI'⟩ := ho4.form
          simp only [Value.slice.injEq] at e'
          obtain ⟨e1', -, -⟩ := e'
          subst e1'
          exact hI'
         have HOp4 := zH (HOp.out.below hb4 (Nat.le_refl _))
         have HIp : Hid (IAt w4 w4.heap.size Ap (yH k (kJ (yn G p) CLS))) := by
          obtain ⟨A', c', e', _, _, hI'⟩ := HOp4.out.form
          simp only [Value.slice.injEq] at e'
          obtain ⟨e1', -, -⟩ := e'
          subst e1'
          exact hI'
         have HB4 := zH (hbp.out.trans (hb4.mono hszp))
         have HG4 := HGL.out Ap A4 cp c4 _ _ (xz _ _) (HLN.out p) w4 HIp.out HI4.out
         rw [HST.out, ← HE.out] at HG4
         have HG4 := zH HG4
         clear ho4 hb4 p0 p1 p2 p3 p4 p5 p6 p7 p8 p9 HC2 HI4 HIp HOp HOp4
         go_wp2_with fail
         refine HG4.out.mono ?_
         rintro e w5 ⟨A5, c5, rfl, ho5, hb5⟩
         rw [xz] at ho5 ⊢
         have HO5 := zH (ho5.low (by have := HB4.out.size; omega : w1.heap.size ≤ w4.heap.size))
         have HB5 := zH (HB4.out.trans (hb5.mono HB4.out.size))
         clear ho5 hb5 HG4
         go_wp2_with fail
         go_roundw
         case rel => exact ⟨p + 1, A5, c5, by omega, by go_num, rfl, HO5, HB5⟩
         case measure => simp [intOf]; omega
       · have hbf : G.testBit p = false := by simpa using hbit
         have hc := HHA.out p hlt2 wr
         rw [hbf] at hc
         have HC := zH hc
         clear hc
         have hE : yn G (p + 1) = yn G p := by rw [qY, if_neg hbit]
         have HE := zH hE
         clear hE hbit hbf
         go_wp2_with fail
         refine HC.out.mono ?_
         rintro e w3 ⟨rfl, hw3⟩
         obtain rfl := hw3
         clear HC p0 p1 p2 p3 p4 p5 p6 p7 p8 p9
         go_wp2_with fail
         go_roundw
         case rel => exact ⟨p + 1, Ap, cp, by omega, by go_num, rfl, by rw [HE.out]; exact HOp, hbp⟩
         case measure => simp [intOf]; omega
     · obtain rfl : N = p := by omega
       have hnn : ¬ (N : Int) < s.n := by have := HN.out; omega
       go_wp2_with fail
       go_ret
       refine ⟨Ap, cp, by rw [xz]; rfl, ?_, HB.out.trans (hbp.out.mono (by omega))⟩
       rw [xz]
       exact HOp.out.low (by omega)
end
section
open Go.RowKit Go.Shelf
attribute [local go_sem] Oper.semAt_some
theorem zip_a {a b : List Int} (h : a.length = b.length) : (List.zipWith K2.mk a b).map (·.a) = a ∧ (List.zipWith K2.mk a b).map (·.b) = b := by
 constructor
 · refine List.ext_getElem (by simp [h]) fun i h1 h2 => by simp
 · refine List.ext_getElem (by simp [h]) fun i h1 h2 => by simp
theorem JY {w : World} {g base n : Nat} {xs : List Int} (h : w.heap[g]? = some (.cells ((xs.map (Value.int .i64)).toArray) 3 (0, 0))) (hb : base ≤ g) (hn : xs.length = n) (hm : n ≤ maxLen) : Own w base (.slice (some ⟨g, 0, none⟩) n n) xs := by
 have h4 := OwnR.of_block (K := kIn) (base := base) (n := n) h hb (by simp [hn]; exact (Nat.mul_one n).symm) hm
 unfold OwnR at h4
 show Own w _ _ _
 unfold Own
 rw [hn]
 rw [show ((xs.map (Value.int .i64)).toArray).toList = xs.map (Value.int .i64) by simp] at h4
 exact h4
set_option maxRecDepth 100000 in
theorem rall_any (s : Sy) (K N : Nat) (hF : Fine s K N) (G : Nat) (hG : G < 2 ^ N) (A SV AV AX : Option Addr) (kc ks kv kx : Nat) (w : World) (hX : XAt w w.heap.size AX s.xs) :
  Calls Tryz.prog 91 #[.agg (s.vs_ A kc SV ks AV kv AX kx), .int .i64 (G : Int)] w (jR (tgP s G N) w) := by
 obtain ⟨w1, hw1, d0, hs1, hB⟩ := zr w (s.vs_ A kc SV ks AV kv AX kx) 35
 have HSZ := zH (fun (X : World) => vW s K N hF A SV AV AX kc ks kv kx X)
 have HOW := zH (fun (q : Nat) (hq : q < N) (X : World) (hX : XAt X X.heap.size AX s.xs) => wX s K N hF q hq A SV AV AX kc ks kv kx X hX)
 have hpn : ptn s ≤ 700 := by
  have hk := hF.k
  have hk6 := hF.k6
  have := Nat.mul_le_mul hF.lx (show s.p.k.toNat + 1 ≤ 7 by omega)
  unfold ptn; omega
 have hn5 := hF.n5
 have hnn := hF.n
 have hT32 : 2 ^ N ≤ 32 := by
  have := Nat.pow_le_pow_right (n := 2) (by omega) hn5
  omega
 have hG32 : G < 32 := by omega
 have HHA := zH (fun (p : Nat) (hp : p < N) (X : World) => jx G p hG32 (by omega) X)
 have HLN := zH (fun q => yY s q)
 have HTL := zH (fun q => ws s G q)
 have HT0 := zH (tgP_zero s G)
 have HTN := zH (fun (q : Nat) (h : G.testBit q = false) => tgP_not (s := s) h)
 have HTH := zH (fun (q : Nat) (hq : q < 5) (h : G.testBit q = true) => tgP_hit (s := s) h hq)
 obtain ⟨n, hn⟩ : ∃ n, ptn s = n := ⟨_, rfl⟩
 obtain ⟨CLS, hCLS⟩ : ∃ CLS, xa s = CLS := ⟨_, rfl⟩
 obtain ⟨TG, hTG⟩ : ∃ TG, tgP s G = TG := ⟨_, rfl⟩
 rw [hCLS] at HOW HLN HTH
 rw [hTG] at HTL HT0 HTN HTH ⊢
 rw [hn] at HSZ HLN HTL HT0 hpn
 have HCT := zH (fun (A B : Option Addr) (ca cb q : Nat) (X : World) (hA : IAt X X.heap.size A (TG q)) (hB : IAt X X.heap.size B (CLS q)) => (by
  have hz := zip_a ((HTL.out q).trans (HLN.out q).symm)
  have hl : (List.zipWith K2.mk (TG q) (CLS q)).length = n := by rw [List.length_zipWith, HTL.out, HLN.out, Nat.min_self]
  have := rcut_any A B ca cb (List.zipWith K2.mk (TG q) (CLS q)) (by omega) X (by rw [hz.1]; exact hA) (by rw [hz.2]; exact hB)
  rw [hl] at this
  exact this : Calls Tryz.prog 146 #[.slice A n ca, .slice B n cb] X (jR (zY (List.zipWith K2.mk (TG q) (CLS q))) X)))
 have HX := zH (hX.keep hB)
 unfold Sy.vs_ at hw1 d0 HSZ HOW ⊢
 have HW1 := zH hw1
 have HB := zH hB
 have HD := zH d0
 have HN := zH hnn
 obtain ⟨p0, p1, p2, p3, p4, p5, p6, p7, p8, p9⟩ := zu (d0)
 clear hw1 d0 hB hF hX hn hCLS hTG hnn hG hT32
 go_enter Tryz.func91, Tryz.ntmps91
 go_wp2_with fail
 rw [HW1.out]
 go_wp2_with fail
 refine (HSZ.out w1).mono ?_
 rintro e w2 ⟨rfl, hb2⟩
 have hmk := ul n (by omega)
 have HB2 := zH hb2
 clear hb2 HW1 HSZ p0 p1 p2 p3 p4 p5 p6 p7 p8 p9
 go_upto_region 2 with fail
 obtain ⟨w3, hw3, d3, hs3, hb3⟩ := zr w2 ((List.replicate n 0).map (Value.int .i64)).toArray 3
 rw [show (w2.alloc (.cells (Array.replicate n (Value.int .i64 0)) 3)) = w3 from (by rw [show Array.replicate n (Value.int .i64 0) = ((List.replicate n 0).map (Value.int .i64)).toArray by simp]; exact hw3)]
 have B3 := zH (HB2.out.trans (hb3.mono HB2.out.size))
 have HO0 : Hid (Own w3 w1.heap.size (.slice (some ⟨w2.heap.size, 0, none⟩) n n) (TG 0)) := by rw [HT0.out]; exact JY d3 HB2.out.size (by simp) (by show n ≤ maxLen; unfold maxLen; omega)
 clear hw3 d3 hs3 hb3 HB2 hmk HT0
 go_wp2_with fail
 go_loopw [5, 6] (fun o i wr => ∃ (p : Nat) (Ap : Option Addr) (cp : Nat), p ≤ N ∧ i = .int .i64 (p : Int) ∧ o = .slice Ap n cp ∧ Hid (Own wr w1.heap.size (.slice Ap n cp) (TG p)) ∧ Hid (Below w1.heap.size w1 wr)) (fun _ i _ => N - (intOf i).toNat)
 case atStart => exact ⟨0, _, _, by omega, rfl, rfl, HO0, B3⟩
 case round =>
  obtain ⟨p, Ap, cp, hp, rfl, rfl, HOp, hbp⟩ := hrel
  clear HO0 B3
  have hszp := hbp.out.size
  have dd := (hbp.out.block _ (zj HD.out)).trans HD.out
  obtain ⟨p0, p1, p2, p3, p4, p5, p6, p7, p8, p9⟩ := zu (dd)
  clear dd
  by_cases hlt2 : p < N
  · have hpn1 : (p : Int) < s.n := by have := HN.out; omega
    by_cases hbit : G.testBit p = true
    · have HC := HHA.out p hlt2 wr
      rw [hbit] at HC
      have HC := zH HC
      have HE := zH (HTH.out p (by omega) hbit)
      have HC2 := zH (HOW.out p hlt2 wr ((HX.out.keep (hbp.out.mono (by omega))).more (by omega)))
      clear hbit
      go_wp2_with fail
      refine HC.out.mono ?_
      rintro e w4 ⟨rfl, hw4⟩
      obtain rfl := hw4
      clear HC
      go_wp2_with fail
      refine HC2.out.mono ?_
      rintro e w5 ⟨A4, c4, rfl, ho4, hb4⟩
      have hsz4 := hb4.size
      rw [HLN.out] at ho4 ⊢
      have HI4 : Hid (IAt w5 w5.heap.size A4 (CLS p)) := by
       obtain ⟨A', c', e', _, _, hI'⟩ := ho4.form
       simp only [Value.slice.injEq] at e'
       obtain ⟨e1', -, -⟩ := e'
       subst e1'
       exact hI'
      have HOp4 := zH (HOp.out.below hb4 (Nat.le_refl _))
      have HIp : Hid (IAt w5 w5.heap.size Ap (TG p)) := by
       obtain ⟨A', c', e', _, _, hI'⟩ := HOp4.out.form
       simp only [Value.slice.injEq] at e'
       obtain ⟨e1', -, -⟩ := e'
       subst e1'
       exact hI'
      have HB4 := zH (hbp.out.trans (hb4.mono hszp))
      have HG4 := HCT.out Ap A4 cp c4 p w5 HIp.out HI4.out
      rw [HE.out] at HG4
      have HG4 := zH HG4
      clear ho4 hb4 p0 p1 p2 p3 p4 p5 p6 p7 p8 p9 HC2 HI4 HIp HOp HOp4
      go_wp2_with fail
      refine HG4.out.mono ?_
      rintro e w6 ⟨A5, c5, rfl, ho5, hb5⟩
      rw [HTL.out] at ho5 ⊢
      have HO5 := zH (ho5.low (by have := HB4.out.size; omega : w1.heap.size ≤ w5.heap.size))
      have HB5 := zH (HB4.out.trans (hb5.mono HB4.out.size))
      clear ho5 hb5 HG4
      go_wp2_with fail
      go_roundw
      case rel => exact ⟨p + 1, A5, c5, by omega, by go_num, rfl, HO5, HB5⟩
      case measure => simp [intOf]; omega
    · have hbf : G.testBit p = false := by simpa using hbit
      have hc := HHA.out p hlt2 wr
      rw [hbf] at hc
      have HC := zH hc
      have HE := zH (HTN.out p hbf)
      clear hc hbit hbf
      go_wp2_with fail
      refine HC.out.mono ?_
      rintro e w4 ⟨rfl, hw4⟩
      obtain rfl := hw4
      clear HC p0 p1 p2 p3 p4 p5 p6 p7 p8 p9
      go_wp2_with fail
      go_roundw
      case rel => exact ⟨p + 1, Ap, cp, by omega, by go_num, rfl, by rw [HE.out]; exact HOp, hbp⟩
      case measure => simp [intOf]; omega
  · obtain rfl : N = p := by omega
    have hnn : ¬ (N : Int) < s.n := by have := HN.out; omega
    go_wp2_with fail
    go_ret
    refine ⟨Ap, cp, by rw [HTL.out]; rfl, ?_, HB.out.trans (hbp.out.mono (by omega))⟩
    rw [HTL.out]
    exact HOp.out.low (by omega)
set_option maxRecDepth 100000 in
theorem jM (s : Sy) (hs : LowS s) (hf : xP s.p) (g : Int) (A SV AV AX : Option Addr) (kc ks kv kx : Nat) (w : World) (hS : SyAt w w.heap.size A SV AV AX s) :
  Calls Tryz.prog 90 #[.agg (s.vs_ A kc SV ks AV kv AX kx), .int .i64 g] w fun e w' => e = .returned (.int .i64 (zO s g)) ∧ Below w.heap.size w w' := by
 obtain ⟨w1, hw1, d0, hs1, hB⟩ := zr w (s.vs_ A kc SV ks AV kv AX kx) 35
 have HV := zH (YJ s hs hf A SV AV AX kc ks kv kx w1 (hS.up hB))
 have HE0 : Hid (yf s ≠ 0 → zO s g = yf s) := fun h => if_pos h
 have HE1 : Hid (yf s = 0 → zO s g = if g < 0 ∨ (2 : Int) ^ s.n.toNat ≤ g then 2 else 0) := fun h => if_neg (by simpa using h)
 have HVF := zH (fun h => yw hf h)
 obtain ⟨r, hr⟩ : ∃ r, yf s = r := ⟨_, rfl⟩
 rw [hr] at HV HE0 HE1 HVF
 obtain ⟨R, hRR⟩ : ∃ R, zO s g = R := ⟨_, rfl⟩
 rw [hRR] at HE0 HE1 ⊢
 unfold Sy.vs_ at hw1 d0 HV ⊢
 have HW1 := zH hw1
 have HB := zH hB
 have HD := zH d0
 obtain ⟨p0, p1, p2, p3, p4, p5, p6, p7, p8, p9⟩ := zu (d0)
 clear hw1 d0 hB hS hr hRR hs hf
 go_enter Tryz.func90, Tryz.ntmps90
 go_wp2_with fail
 rw [HW1.out]
 go_wp2_with fail
 refine HV.out.mono ?_
 rintro e w2 ⟨rfl, hb2⟩
 have HB2 := zH (HB.out.trans (hb2.mono (by omega)))
 have d0 := (hb2.block _ (by omega : w.heap.size < w1.heap.size)).trans HD.out
 clear p0 p1 p2 p3 p4 p5 p6 p7 p8 p9 hb2 HV HW1 HD
 by_cases h0 : r = 0
 case neg =>
  have hR : Hid (R = r) := HE0.out h0
  have e0 : (r != 0) = true := by simpa using h0
  clear HE0 HE1 d0 HVF
  go_wp2_with fail
  go_ret
  rw [hR.out]
  exact ⟨rfl, HB2.out⟩
 case pos =>
 subst h0
 obtain ⟨hsb, K, N, hF⟩ := HVF.out rfl
 clear hsb
 have hE := HE1.out rfl
 have hn := hF.n
 have h1 := hF.n1
 have h5 := hF.n5
 rw [hn, Int.toNat_natCast] at hE
 rw [hn] at d0
 have HE := zH hE
 have p7 := zh d0 7 rfl
 clear hE hn HE0 HE1 HVF hF d0
 by_cases hg : g < 0
 · have hR : Hid (R = 2) := HE.out.trans (if_pos (.inl hg))
   have e0 : decide (g < 0) = true := decide_eq_true hg
   clear HE
   go_wp2_with fail
   go_ret
   rw [hR.out]
   exact ⟨rfl, HB2.out⟩
 have e0 : decide (g < 0) = false := decide_eq_false hg
 obtain rfl | rfl | rfl | rfl | rfl : N = 1 ∨ N = 2 ∨ N = 3 ∨ N = 4 ∨ N = 5 := by omega
 · by_cases hb : (2 : Int) ≤ g
   · have hR : Hid (R = 2) := HE.out.trans (if_pos (.inr (by show (2 : Int) ^ 1 ≤ g; omega)))
     have e1 : decide (g ≥ (2 : Int)) = true := decide_eq_true hb
     clear HE
     go_wp2_with fail
     go_ret
     rw [hR.out]
     exact ⟨rfl, HB2.out⟩
   · have hR : Hid (R = 0) := HE.out.trans (if_neg (by show ¬ (g < 0 ∨ (2 : Int) ^ 1 ≤ g); omega))
     have e1 : decide (g ≥ (2 : Int)) = false := decide_eq_false hb
     clear HE
     go_wp2_with fail
     go_ret
     rw [hR.out]
     exact ⟨rfl, HB2.out⟩
 · by_cases hb : (4 : Int) ≤ g
   · have hR : Hid (R = 2) := HE.out.trans (if_pos (.inr (by show (2 : Int) ^ 2 ≤ g; omega)))
     have e1 : decide (g ≥ (4 : Int)) = true := decide_eq_true hb
     clear HE
     go_wp2_with fail
     go_ret
     rw [hR.out]
     exact ⟨rfl, HB2.out⟩
   · have hR : Hid (R = 0) := HE.out.trans (if_neg (by show ¬ (g < 0 ∨ (2 : Int) ^ 2 ≤ g); omega))
     have e1 : decide (g ≥ (4 : Int)) = false := decide_eq_false hb
     clear HE
     go_wp2_with fail
     go_ret
     rw [hR.out]
     exact ⟨rfl, HB2.out⟩
 · by_cases hb : (8 : Int) ≤ g
   · have hR : Hid (R = 2) := HE.out.trans (if_pos (.inr (by show (2 : Int) ^ 3 ≤ g; omega)))
     have e1 : decide (g ≥ (8 : Int)) = true := decide_eq_true hb
     clear HE
     go_wp2_with fail
     go_ret
     rw [hR.out]
     exact ⟨rfl, HB2.out⟩
   · have hR : Hid (R = 0) := HE.out.trans (if_neg (by show ¬ (g < 0 ∨ (2 : Int) ^ 3 ≤ g); omega))
     have e1 : decide (g ≥ (8 : Int)) = false := decide_eq_false hb
     clear HE
     go_wp2_with fail
     go_ret
     rw [hR.out]
     exact ⟨rfl, HB2.out⟩
 · by_cases hb : (16 : Int) ≤ g
   · have hR : Hid (R = 2) := HE.out.trans (if_pos (.inr (by show (2 : Int) ^ 4 ≤ g; omega)))
     have e1 : decide (g ≥ (16 : Int)) = true := decide_eq_true hb
     clear HE
     go_wp2_with fail
     go_ret
     rw [hR.out]
     exact ⟨rfl, HB2.out⟩
   · have hR : Hid (R = 0) := HE.out.trans (if_neg (by show ¬ (g < 0 ∨ (2 : Int) ^ 4 ≤ g); omega))
     have e1 : decide (g ≥ (16 : Int)) = false := decide_eq_false hb
     clear HE
     go_wp2_with fail
     go_ret
     rw [hR.out]
     exact ⟨rfl, HB2.out⟩
 · by_cases hb : (32 : Int) ≤ g
   · have hR : Hid (R = 2) := HE.out.trans (if_pos (.inr (by show (2 : Int) ^ 5 ≤ g; omega)))
     have e1 : decide (g ≥ (32 : Int)) = true := decide_eq_true hb
     clear HE
     go_wp2_with fail
     go_ret
     rw [hR.out]
     exact ⟨rfl, HB2.out⟩
   · have hR : Hid (R = 0) := HE.out.trans (if_neg (by show ¬ (g < 0 ∨ (2 : Int) ^ 5 ≤ g); omega))
     have e1 : decide (g ≥ (32 : Int)) = false := decide_eq_false hb
     clear HE
     go_wp2_with fail
     go_ret
     rw [hR.out]
     exact ⟨rfl, HB2.out⟩
set_option maxRecDepth 100000 in
theorem rtog_any (s : Sy) (hs : LowS s) (hf : xP s.p) (g : Int) (A SV AV AX : Option Addr) (kc ks kv kx : Nat) (w : World) (hS : SyAt w w.heap.size A SV AV AX s) :
  Calls Tryz.prog 38 #[.agg (s.vs_ A kc SV ks AV kv AX kx), .int .i64 g] w (vP (jU s g).1 (jU s g).2 w) := by
 obtain ⟨w1, hw1, d0, hs1, hB⟩ := zr w (s.vs_ A kc SV ks AV kv AX kx) 35
 have HG := zH (jM s hs hf g A SV AV AX kc ks kv kx w1 (hS.up hB))
 have HE0 : Hid (zO s g ≠ 0 → jU s g = ([], zO s g)) := fun h => if_pos h
 have HE1 : Hid (zO s g = 0 → ∃ L, jU s g = (L, 0) ∧ ∀ X, Below w1.heap.size w1 X → Calls Tryz.prog 91 #[.agg (s.vs_ A kc SV ks AV kv AX kx), .int .i64 g] X (jR L X)) := fun h => by
  obtain ⟨hv, hg0, hg1⟩ := qp h
  obtain ⟨_, K, N, hF⟩ := yw hf hv
  obtain ⟨G, rfl⟩ := Int.eq_ofNat_of_zero_le hg0
  have hG : G < 2 ^ N := by
   rw [hF.n, Int.toNat_natCast] at hg1
   have h2 : ((2 ^ N : Nat) : Int) = (2 : Int) ^ N := by push_cast; rfl
   omega
  refine ⟨_, if_neg (by simpa using h), fun X hX => ?_⟩
  rw [togL_tgP hF.n]
  exact rall_any s K N hF G hG A SV AV AX kc ks kv kx X (hS.up hB |>.up hX).fx
 obtain ⟨r, hr⟩ : ∃ r, zO s g = r := ⟨_, rfl⟩
 rw [hr] at HG HE0 HE1
 obtain ⟨R, hRR⟩ : ∃ R, jU s g = R := ⟨_, rfl⟩
 rw [hRR] at HE0 HE1 ⊢
 unfold Sy.vs_ at hw1 d0 HG HE1 ⊢
 have HW1 := zH hw1
 have HB := zH hB
 have HD := zH d0
 obtain ⟨p0, p1, p2, p3, p4, p5, p6, p7, p8, p9⟩ := zu (d0)
 clear hw1 d0 hB hS hr hRR hs hf
 go_enter Tryz.func38, Tryz.ntmps38
 go_wp2_with fail
 rw [HW1.out]
 go_wp2_with fail
 refine HG.out.mono ?_
 rintro e w2 ⟨rfl, hb2⟩
 have HB2 := zH (HB.out.trans (hb2.mono (by omega)))
 have HB12 := zH hb2
 have d0 := (hb2.block _ (by omega : w.heap.size < w1.heap.size)).trans HD.out
 clear p0 p1 p2 p3 p4 p5 p6 p7 p8 p9 hb2 HG HW1 HD
 by_cases h0 : r = 0
 case neg =>
  have hR : Hid (R = ([], r)) := HE0.out h0
  have e0 : (r != 0) = true := by simpa using h0
  clear HE0 HE1 d0
  go_wp2_with fail
  go_ret2
  rw [hR.out]
  exact ⟨none, 0, rfl, Own.nil _ _, HB2.out⟩
 case pos =>
 subst h0
 obtain ⟨L, hRL, hc⟩ := HE1.out rfl
 have HR := zH hRL
 have HC := zH (hc w2 HB12.out)
 obtain ⟨p0, p1, p2, p3, p4, p5, p6, p7, p8, p9⟩ := zu (d0)
 clear HE0 HE1 d0 hRL hc HB12
 go_wp2_with fail
 refine HC.out.mono ?_
 rintro e w3 ⟨A4, c4, rfl, ho4, hb4⟩
 have HO4 := zH (ho4.low HB2.out.size)
 have HB4 := zH (HB2.out.trans (hb4.mono HB2.out.size))
 clear ho4 hb4 HC p0 p1 p2 p3 p4 p5 p6 p7 p8 p9
 go_wp2_with fail
 go_ret2
 rw [HR.out]
 exact ⟨A4, c4, rfl, HO4.out, HB4.out⟩
set_option maxRecDepth 100000 in
theorem XX (s : Sy) (hs : LowS s) (hf : xP s.p) (g : Int) (A SV AV AX : Option Addr) (kc ks kv kx : Nat) (w : World) (hS : SyAt w w.heap.size A SV AV AX s) :
  Calls Tryz.prog 40 #[.agg (s.vs_ A kc SV ks AV kv AX kx), .int .i64 g] w (vP (xN s g).1 (xN s g).2 w) := by
 obtain ⟨w1, hw1, d0, hs1, hB⟩ := zr w (s.vs_ A kc SV ks AV kv AX kx) 35
 have HG := zH (jM s hs hf g A SV AV AX kc ks kv kx w1 (hS.up hB))
 have HE0 : Hid (zO s g ≠ 0 → xN s g = ([], zO s g)) := fun h => if_pos h
 have HE1 : Hid (zO s g = 0 → ∃ L, xN s g = (L, 0) ∧ ∀ X, Below w1.heap.size w1 X → Calls Tryz.prog 68 #[.agg (s.vs_ A kc SV ks AV kv AX kx), .int .i64 g] X (jR L X)) := fun h => by
  obtain ⟨hv, hg0, hg1⟩ := qp h
  obtain ⟨_, K, N, hF⟩ := yw hf hv
  obtain ⟨G, rfl⟩ := Int.eq_ofNat_of_zero_le hg0
  have hG : G < 2 ^ N := by
   rw [hF.n, Int.toNat_natCast] at hg1
   have h2 : ((2 ^ N : Nat) : Int) = (2 : Int) ^ N := by push_cast; rfl
   omega
  refine ⟨_, if_neg (by simpa using h), fun X hX => ?_⟩
  exact JJ s K N hF G hG A SV AV AX kc ks kv kx X (hS.up hB |>.up hX).fx
 obtain ⟨r, hr⟩ : ∃ r, zO s g = r := ⟨_, rfl⟩
 rw [hr] at HG HE0 HE1
 obtain ⟨R, hRR⟩ : ∃ R, xN s g = R := ⟨_, rfl⟩
 rw [hRR] at HE0 HE1 ⊢
 unfold Sy.vs_ at hw1 d0 HG HE1 ⊢
 have HW1 := zH hw1
 have HB := zH hB
 have HD := zH d0
 obtain ⟨p0, p1, p2, p3, p4, p5, p6, p7, p8, p9⟩ := zu (d0)
 clear hw1 d0 hB hS hr hRR hs hf
 go_enter Tryz.func40, Tryz.ntmps40
 go_wp2_with fail
 rw [HW1.out]
 go_wp2_with fail
 refine HG.out.mono ?_
 rintro e w2 ⟨rfl, hb2⟩
 have HB2 := zH (HB.out.trans (hb2.mono (by omega)))
 have HB12 := zH hb2
 have d0 := (hb2.block _ (by omega : w.heap.size < w1.heap.size)).trans HD.out
 clear p0 p1 p2 p3 p4 p5 p6 p7 p8 p9 hb2 HG HW1 HD
 by_cases h0 : r = 0
 case neg =>
  have hR : Hid (R = ([], r)) := HE0.out h0
  have e0 : (r != 0) = true := by simpa using h0
  clear HE0 HE1 d0
  go_wp2_with fail
  go_ret2
  rw [hR.out]
  exact ⟨none, 0, rfl, Own.nil _ _, HB2.out⟩
 case pos =>
 subst h0
 obtain ⟨L, hRL, hc⟩ := HE1.out rfl
 have HR := zH hRL
 have HC := zH (hc w2 HB12.out)
 obtain ⟨p0, p1, p2, p3, p4, p5, p6, p7, p8, p9⟩ := zu (d0)
 clear HE0 HE1 d0 hRL hc HB12
 go_wp2_with fail
 refine HC.out.mono ?_
 rintro e w3 ⟨A4, c4, rfl, ho4, hb4⟩
 have HO4 := zH (ho4.low HB2.out.size)
 have HB4 := zH (HB2.out.trans (hb4.mono HB2.out.size))
 clear ho4 hb4 HC p0 p1 p2 p3 p4 p5 p6 p7 p8 p9
 go_wp2_with fail
 go_ret2
 rw [HR.out]
 exact ⟨A4, c4, rfl, HO4.out, HB4.out⟩
set_option maxRecDepth 100000 in
theorem Yd (s : Sy) (hs : LowS s) (hf : xP s.p) (g : Int) (A SV AV AX : Option Addr) (kc ks kv kx : Nat) (w : World) (hS : SyAt w w.heap.size A SV AV AX s) :
  Calls Tryz.prog 36 #[.agg (s.vs_ A kc SV ks AV kv AX kx), .int .i64 g] w (vP (jp s g).1 (jp s g).2 w) := by
 obtain ⟨w1, hw1, d0, hs1, hB⟩ := zr w (s.vs_ A kc SV ks AV kv AX kx) 35
 have HV := zH (YJ s hs hf A SV AV AX kc ks kv kx w1 (hS.up hB))
 have HE : Hid (jp s g = if yf s ≠ 0 then ([], yf s) else if g < 0 ∨ s.n ≤ g then ([], 2) else (xa s g.toNat, 0)) := rfl
 have HE1 := zH (fun (h : yf s = 0) (q : Nat) (hq : (q : Int) < s.n) (X : World) (hX : Below w1.heap.size w1 X) => (by
  obtain ⟨_, K, N, hF⟩ := yw hf h
  exact wX s K N hF q (by have := hF.n; omega) A SV AV AX kc ks kv kx X (hS.up hB |>.up hX).fx : Calls Tryz.prog 86 #[.agg (s.vs_ A kc SV ks AV kv AX kx), .int .i64 (q : Int)] X (jR (xa s q) X)))
 obtain ⟨r, hr⟩ : ∃ r, yf s = r := ⟨_, rfl⟩
 rw [hr] at HV HE HE1
 obtain ⟨R, hRR⟩ : ∃ R, jp s g = R := ⟨_, rfl⟩
 rw [hRR] at HE ⊢
 unfold Sy.vs_ at hw1 d0 HV HE1 ⊢
 have HW1 := zH hw1
 have HB := zH hB
 have HD := zH d0
 obtain ⟨p0, p1, p2, p3, p4, p5, p6, p7, p8, p9⟩ := zu (d0)
 clear hw1 d0 hB hS hr hRR hs hf
 go_enter Tryz.func36, Tryz.ntmps36
 go_wp2_with fail
 rw [HW1.out]
 go_wp2_with fail
 refine HV.out.mono ?_
 rintro e w2 ⟨rfl, hb2⟩
 have HB2 := zH (HB.out.trans (hb2.mono (by omega)))
 have HB12 := zH hb2
 have d0 := (hb2.block _ (by omega : w.heap.size < w1.heap.size)).trans HD.out
 clear p0 p1 p2 p3 p4 p5 p6 p7 p8 p9 hb2 HV HW1 HD
 by_cases h0 : r = 0
 case neg =>
  have hR : Hid (R = ([], r)) := HE.out.trans (if_pos h0)
  have e0 : (r != 0) = true := by simpa using h0
  clear HE HE1 d0
  go_wp2_with fail
  go_ret2
  rw [hR.out]
  exact ⟨none, 0, rfl, Own.nil _ _, HB2.out⟩
 case pos =>
 subst h0
 have HE2 := zH (HE.out.trans (if_neg (by simp)))
 have HE3 := zH (HE1.out rfl)
 obtain ⟨p0, p1, p2, p3, p4, p5, p6, p7, p8, p9⟩ := zu (d0)
 clear HE HE1 d0
 by_cases hg : g < 0
 · have hR : Hid (R = ([], 2)) := HE2.out.trans (if_pos (.inl hg))
   have e0 : decide (g < 0) = true := decide_eq_true hg
   clear HE2 HE3
   go_wp2_with fail
   go_ret2
   rw [hR.out]
   exact ⟨none, 0, rfl, Own.nil _ _, HB2.out⟩
 have e0 : decide (g < 0) = false := decide_eq_false hg
 by_cases hb : s.n ≤ g
 · have hR : Hid (R = ([], 2)) := HE2.out.trans (if_pos (.inr hb))
   have e1 : decide (g ≥ s.n) = true := decide_eq_true hb
   clear HE2 HE3
   go_wp2_with fail
   go_ret2
   rw [hR.out]
   exact ⟨none, 0, rfl, Own.nil _ _, HB2.out⟩
 have e1 : decide (g ≥ s.n) = false := decide_eq_false hb
 obtain ⟨q, rfl⟩ := Int.eq_ofNat_of_zero_le (show 0 ≤ g by omega)
 have HR := zH (HE2.out.trans (if_neg (by omega)))
 rw [Int.toNat_natCast] at HR
 have HC := zH (HE3.out q (by omega) w2 HB12.out)
 clear HE2 HE3 HB12
 go_wp2_with fail
 refine HC.out.mono ?_
 rintro e w3 ⟨A4, c4, rfl, ho4, hb4⟩
 have HO4 := zH (ho4.low HB2.out.size)
 have HB4 := zH (HB2.out.trans (hb4.mono HB2.out.size))
 clear ho4 hb4 HC p0 p1 p2 p3 p4 p5 p6 p7 p8 p9
 go_wp2_with fail
 go_ret2
 rw [HR.out]
 exact ⟨A4, c4, rfl, HO4.out, HB4.out⟩
end
section
open Go.RowKit
attribute [local go_sem] Oper.semAt_some
theorem cls_lens {s : Sy} (hf : xP s.p) (a b : Int) : (jp s a).1.length ≤ 700 ∧ (jU s b).1.length ≤ 700 ∧ (xN s b).1.length ≤ 700 := by
 have hp : yf s = 0 → ptn s ≤ 700 := fun h => by
  obtain ⟨_, K, N, hF⟩ := yw hf h
  have hk := hF.k
  have hk6 := hF.k6
  have := Nat.mul_le_mul hF.lx (show s.p.k.toNat + 1 ≤ 7 by omega)
  unfold ptn; omega
 refine ⟨?_, ?_, ?_⟩
 · unfold jp
   split
   · simp
   · rename_i h
     split
     · simp
     · rw [yY]; exact hp (by simpa using h)
 · unfold jU
   split
   · simp
   · rename_i h
     rw [togL_len]; exact hp (qp (by simpa using h)).1
 · unfold xN
   split
   · simp
   · rename_i h
     rw [xz]; exact hp (qp (by simpa using h)).1
set_option maxRecDepth 100000 in
theorem Yn (s : Sy) (hl : LowSy s) (A SV AV AX : Option Addr) (kc ks kv kx : Nat) (a b : Int) (w : World) (hS : SyAt w w.heap.size A SV AV AX s) :
  Calls Tryz.prog 8 #[.agg (s.vs_ A kc SV ks AV kv AX kx), .int .i64 a, .int .i64 b] w fun e w' => e = .returned (.bool true) ∧ Below w.heap.size w w' := by
 obtain ⟨w1, hw1, d0, hs1, hB1⟩ := zr w (s.vs_ A kc SV ks AV kv AX kx) 35
 have hS1 := hS.up hB1
 have HF := zH (fewS_any s hl A SV AV AX kc ks kv kx w1 hS1)
 have HLN := zH (fun (h : kD s = true) => cls_lens (yp hl h).1 a b)
 have C0 := zH (fun (h : kD s = true) (X : World) (hX : Below w1.heap.size w1 X) => qX s (yp hl h).2.2.1 (yp hl h).1 a A SV AV AX kc ks kv kx X (hS1.up hX))
 have C1 := zH (fun (h : kD s = true) (X : World) (hX : Below w1.heap.size w1 X) => Yd s (yp hl h).2.2.1 (yp hl h).1 a A SV AV AX kc ks kv kx X (hS1.up hX))
 have C2 := zH (fun (h : kD s = true) (X : World) (hX : Below w1.heap.size w1 X) => vm s (yp hl h).2.2.1 (yp hl h).1 b A SV AV AX kc ks kv kx X (hS1.up hX))
 have C3 := zH (fun (h : kD s = true) (X : World) (hX : Below w1.heap.size w1 X) => rtog_any s (yp hl h).2.2.1 (yp hl h).1 b A SV AV AX kc ks kv kx X (hS1.up hX))
 have C4 := zH (fun (h : kD s = true) (X : World) (hX : Below w1.heap.size w1 X) => ZI s (yp hl h).2.2.1 (yp hl h).1 b A SV AV AX kc ks kv kx X (hS1.up hX))
 have C5 := zH (fun (h : kD s = true) (X : World) (hX : Below w1.heap.size w1 X) => XX s (yp hl h).2.2.1 (yp hl h).1 b A SV AV AX kc ks kv kx X (hS1.up hX))
 obtain ⟨R0, hR0⟩ : ∃ R, jp s a = R := ⟨_, rfl⟩
 obtain ⟨R2, hR2⟩ : ∃ R, jU s b = R := ⟨_, rfl⟩
 obtain ⟨R4, hR4⟩ : ∃ R, xN s b = R := ⟨_, rfl⟩
 rw [hR0] at C0 C1 HLN
 rw [hR2] at C2 C3 HLN
 rw [hR4] at C4 C5 HLN
 unfold vP at C0 C1 C2 C3 C4 C5
 unfold Sy.vs_ at hw1 d0 HF C0 C1 C2 C3 C4 C5 ⊢
 have HW1 := zH hw1
 have HB1 := zH hB1
 have HDB : Hid (∀ X, Below w1.heap.size w1 X → X.heap[w.heap.size]? = some (.cells #[.int .i64 s.p.t.n, .int .i64 s.p.t.ins, .int .i64 s.p.t.outs, .slice A s.p.t.cases.length kc, .int .i64 s.p.a.n, .slice SV s.p.a.sts.length ks, .int .i64 s.p.k, .int .i64 s.n, .slice AV s.vs.length kv, .slice AX s.xs.length kx] 35 (0, 0))) := fun X hX => (hX.block _ (zj d0)).trans d0
 have G1 : Hid (Below w1.heap.size w1 w1) := Below.refl _ _
 obtain ⟨F, hF⟩ : ∃ F, kD s = F := ⟨_, rfl⟩
 rw [hF] at HF C0 C1 C2 C3 C4 C5 HLN
 clear hw1 d0 hB1 hS hS1 hF hl hR0 hR2 hR4
 obtain ⟨p0, p1, p2, p3, p4, p5, p6, p7, p8, p9⟩ := zu (HDB.out _ G1.out)
 go_enter Tryz.func8, Tryz.ntmps8
 go_wp2_with fail
 rw [HW1.out]
 go_wp2_with fail
 refine HF.out.mono ?_
 rintro e w2 ⟨rfl, hb2⟩
 have G2 := zH (G1.out.trans (hb2.mono G1.out.size))
 clear hb2 HF HW1 p0 p1 p2 p3 p4 p5 p6 p7 p8 p9
 cases F with
 | false =>
  clear C0 C1 C2 C3 C4 C5 HLN
  go_wp2_with fail
  refine (xV w2).mono ?_
  rintro e v3 ⟨rfl, hb3⟩
  have B3 := zH (HB1.out.trans ((G2.out.trans (hb3.mono G2.out.size)).mono HB1.out.size))
  clear hb3
  go_wp2_with fail
  go_ret
  exact ⟨rfl, B3.out⟩
 | true =>
 have D0 := zH (C0.out rfl)
 have D1 := zH (C1.out rfl)
 have D2 := zH (C2.out rfl)
 have D3 := zH (C3.out rfl)
 have D4 := zH (C4.out rfl)
 have D5 := zH (C5.out rfl)
 have LN := zH (HLN.out rfl)
 clear C0 C1 C2 C3 C4 C5 HLN
 obtain ⟨p0, p1, p2, p3, p4, p5, p6, p7, p8, p9⟩ := zu (HDB.out _ G2.out)
 go_wp2_with fail
 refine (D0.out w2 G2.out).mono ?_
 rintro e w3 ⟨A0, c0, rfl, ho3, hb3⟩
 have G3 := zH (G2.out.trans (hb3.mono G2.out.size))
 have I0 := zH (xv ho3)
 clear hb3 ho3 D0 p0 p1 p2 p3 p4 p5 p6 p7 p8 p9
 obtain ⟨p0, p1, p2, p3, p4, p5, p6, p7, p8, p9⟩ := zu (HDB.out _ G3.out)
 go_wp2_with fail
 refine (D1.out w3 G3.out).mono ?_
 rintro e w4 ⟨A1, c1, rfl, ho4, hb4⟩
 have G4 := zH (G3.out.trans (hb4.mono G3.out.size))
 have I1 := zH (xv ho4)
 have I0 := zH (I0.out.up hb4)
 clear hb4 ho4 D1 p0 p1 p2 p3 p4 p5 p6 p7 p8 p9
 obtain ⟨p0, p1, p2, p3, p4, p5, p6, p7, p8, p9⟩ := zu (HDB.out _ G4.out)
 go_wp2_with fail
 refine (D2.out w4 G4.out).mono ?_
 rintro e w5 ⟨A2, c2, rfl, ho5, hb5⟩
 have G5 := zH (G4.out.trans (hb5.mono G4.out.size))
 have I2 := zH (xv ho5)
 have I0 := zH (I0.out.up hb5)
 have I1 := zH (I1.out.up hb5)
 clear hb5 ho5 D2 p0 p1 p2 p3 p4 p5 p6 p7 p8 p9
 obtain ⟨p0, p1, p2, p3, p4, p5, p6, p7, p8, p9⟩ := zu (HDB.out _ G5.out)
 go_wp2_with fail
 refine (D3.out w5 G5.out).mono ?_
 rintro e w6 ⟨A3, c3, rfl, ho6, hb6⟩
 have G6 := zH (G5.out.trans (hb6.mono G5.out.size))
 have I3 := zH (xv ho6)
 have I0 := zH (I0.out.up hb6)
 have I1 := zH (I1.out.up hb6)
 have I2 := zH (I2.out.up hb6)
 clear hb6 ho6 D3 p0 p1 p2 p3 p4 p5 p6 p7 p8 p9
 obtain ⟨p0, p1, p2, p3, p4, p5, p6, p7, p8, p9⟩ := zu (HDB.out _ G6.out)
 go_wp2_with fail
 refine (D4.out w6 G6.out).mono ?_
 rintro e w7 ⟨A4, c4, rfl, ho7, hb7⟩
 have G7 := zH (G6.out.trans (hb7.mono G6.out.size))
 have I4 := zH (xv ho7)
 have I0 := zH (I0.out.up hb7)
 have I1 := zH (I1.out.up hb7)
 have I2 := zH (I2.out.up hb7)
 have I3 := zH (I3.out.up hb7)
 clear hb7 ho7 D4 p0 p1 p2 p3 p4 p5 p6 p7 p8 p9
 obtain ⟨p0, p1, p2, p3, p4, p5, p6, p7, p8, p9⟩ := zu (HDB.out _ G7.out)
 go_wp2_with fail
 refine (D5.out w7 G7.out).mono ?_
 rintro e w8 ⟨A5, c5, rfl, ho8, hb8⟩
 have G8 := zH (G7.out.trans (hb8.mono G7.out.size))
 have I5 := zH (xv ho8)
 have I0 := zH (I0.out.up hb8)
 have I1 := zH (I1.out.up hb8)
 have I2 := zH (I2.out.up hb8)
 have I3 := zH (I3.out.up hb8)
 have I4 := zH (I4.out.up hb8)
 clear hb8 ho8 D5 p0 p1 p2 p3 p4 p5 p6 p7 p8 p9
 have KI : Hid (∀ X, Below w8.heap.size w8 X → IAt X X.heap.size A0 R0.1 ∧ IAt X X.heap.size A1 R0.1 ∧ IAt X X.heap.size A2 R2.1 ∧ IAt X X.heap.size A3 R2.1 ∧ IAt X X.heap.size A4 R4.1 ∧ IAt X X.heap.size A5 R4.1) := fun X hX => ⟨I0.out.up hX, I1.out.up hX, I2.out.up hX, I3.out.up hX, I4.out.up hX, I5.out.up hX⟩
 clear I0 I1 I2 I3 I4 I5
 go_wp2_with fail
 refine (xV w8).mono ?_
 rintro e w9 ⟨rfl, hb9⟩
 have F9 : Hid (Below w8.heap.size w8 w9) := hb9
 clear hb9
 have EQ := zH (ql A0 A1 c0 c1 R0.1 R0.1 w9 w9.heap.size (KI.out _ F9.out).1 (KI.out _ F9.out).2.1 (by have := LN.out; omega) (by have := LN.out; omega))
 rw [show decide (R0.1 = R0.1) = true by simp] at EQ
 go_wp2_with fail
 refine EQ.out.mono ?_
 rintro e w10 ⟨rfl, n10, hn10⟩
 have F10 : Hid (Below w8.heap.size w8 w10) := by rw [Hid, hn10]; exact zQ F9.out n10
 clear EQ hn10 F9
 have EQ := zH (ql A2 A3 c2 c3 R2.1 R2.1 w10 w10.heap.size (KI.out _ F10.out).2.2.1 (KI.out _ F10.out).2.2.2.1 (by have := LN.out; omega) (by have := LN.out; omega))
 rw [show decide (R2.1 = R2.1) = true by simp] at EQ
 go_wp2_with fail
 refine EQ.out.mono ?_
 rintro e w11 ⟨rfl, n11, hn11⟩
 have F11 : Hid (Below w8.heap.size w8 w11) := by rw [Hid, hn11]; exact zQ F10.out n11
 clear EQ hn11 F10
 have EQ := zH (ql A4 A5 c4 c5 R4.1 R4.1 w11 w11.heap.size (KI.out _ F11.out).2.2.2.2.1 (KI.out _ F11.out).2.2.2.2.2 (by have := LN.out; omega) (by have := LN.out; omega))
 rw [show decide (R4.1 = R4.1) = true by simp] at EQ
 go_wp2_with fail
 refine EQ.out.mono ?_
 rintro e w12 ⟨rfl, n12, hn12⟩
 have F12 : Hid (Below w8.heap.size w8 w12) := by rw [Hid, hn12]; exact zQ F11.out n12
 clear EQ hn12 F11
 have HFF := zH (HB1.out.trans ((G8.out.trans (F12.out.mono G8.out.size)).mono HB1.out.size))
 clear KI LN F12
 go_wp2_with fail
 go_ret
 exact ⟨rfl, HFF.out⟩
end
end Go.Proofs.YtdkmpccfnnpnbaaGreat
