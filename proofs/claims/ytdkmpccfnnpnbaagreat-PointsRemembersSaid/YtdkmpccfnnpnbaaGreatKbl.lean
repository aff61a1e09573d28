/- Parts LwRem. -/
import Derived.Test.YtdkmpccfnnpnbaaGreatProg
import Derived.Test.YtdkmpccfnnpnbaaGreatKbh
import Derived.Test.YtdkmpccfnnpnbaaGreatKbi
import Derived.Test.YtdkmpccfnnpnbaaGreatKbf
import Derived.Test.YtdkmpccfnnpnbaaGreatKbc

namespace Go.Proofs.YtdkmpccfnnpnbaaGreat
set_option maxHeartbeats 4000000
open Go.RowKit
attribute [local go_sem] Oper.semAt_some
set_option maxRecDepth 100000 in
theorem gJ (p : Pb) (hl : uw p) (A : Option Addr) (kc : Nat) (SV : Option Addr) (ks : Nat) (mr : Nat) (hmr : mr < 256) (w : World) (hA : CAt w w.heap.size A p.t.cases) (hS : SAt w w.heap.size SV p.a.sts) :
  Calls Tryz.prog 10 #[.agg (p.vs A kc SV ks), .int .u8 (mr : Int)] w fun e w' => e = .returned (.bool true) ∧ Below w.heap.size w w' := by
 obtain ⟨w1, hw1, d0, hs1, hB1⟩ := zr w (p.vs A kc SV ks) 29
 have HS6 := zH (uH p hl A kc SV ks w1 ((hA.keep hB1).more hB1.size) ((hS.keep hB1).more hB1.size))
 have HFS := zH (fun (h : xu p = true) => ZA h)
 have HLW : Hid (xu p = true → LowS (zw p)) := fun h => by
  obtain ⟨hbE, _, hf, _⟩ := qU h
  have := kH hl hf
  rwa [hbE] at this
 have HBb := zH hB1
 unfold Pb.vs at hw1 d0 HS6 ⊢
 have HW1 := zH hw1
 have HD0 := zH d0
 have p0 := zh (d0) 0 rfl
 have p1 := zh (d0) 1 rfl
 have p2 := zh (d0) 2 rfl
 have p3 := zh (d0) 3 rfl
 have p4 := zh (d0) 4 rfl
 have p5 := zh (d0) 5 rfl
 have p6 := zh (d0) 6 rfl
 clear hw1 d0 hB1 hA hS hs1 hl
 go_enter Tryz.func10, Tryz.ntmps10
 go_wp2_with fail
 rw [HW1.out]
 go_wp2_with fail
 refine HS6.out.mono ?_
 rintro e w2 ⟨hb2, hcase⟩
 have B2 := zH (HBb.out.trans (hb2.mono HBb.out.size))
 have hs2 := hb2.size
 have HD2 := zH ((hb2.block _ (zj HD0.out)).trans HD0.out)
 clear hb2 HS6 HW1 HBb HD0 p0 p1 p2 p3 p4 p5 p6
 rcases hcase with ⟨_, rfl⟩ | ⟨hr, A2, kc2, SV2, ks2, AV, kv, AX, kx, rfl, hSY⟩
 · clear HFS HLW HD2
   go_upto_region 2 with fail
   obtain ⟨WF, hWF, dz, hsF, hBa2⟩ := zr w2 #[.int .i64 0, .int .i64 0, .int .i64 0, .slice none 0 0, .int .i64 0, .slice none 0 0, .int .i64 0, .int .i64 0, .slice none 0 0, .slice none 0 0] 35
   rw [hWF]
   clear hWF dz
   go_wp2_with fail
   refine (xV WF).mono ?_
   rintro e v3 ⟨rfl, hb3⟩
   have B3 := zH (B2.out.trans ((hBa2.trans (hb3.mono (by omega))).mono B2.out.size))
   clear hb3 hBa2
   go_wp2_with fail
   go_ret
   exact ⟨rfl, B3.out⟩
 obtain ⟨K, N, hF, hSe, hTn, hpk, hN1, hN3, hK6, hfx, hvE, hpn, hM60, hn7⟩ := HFS.out hr
 have HR := zH hr
 have HLO := zH (HLW.out hr)
 have HFi := zH hF
 have HSe := zH hSe
 have hpk2 : (zw p).p.k = (K : Int) := hpk
 rw [hpk] at HD2
 have HPK := zH hpk
 clear hF hSe HFS HLW hr
 have hqN := Nat.mod_lt mr (show 0 < N by omega)
 obtain ⟨q, hq⟩ : ∃ q, mr % N = q := ⟨_, rfl⟩
 rw [hq] at hqN
 have hRM := zH (fun (i k : Nat) (hi : i < ptn (zw p)) (hk : k < ptn (zw p)) (e : (xa (zw p) q).getD i 0 = (xa (zw p) q).getD k 0) => JS HR.out HFi.out HSe.out hqN hi hk e)
 have HCE : Hid (jp (zw p) (q : Int) = (xa (zw p) q, 0)) := by
  unfold jp
  rw [Hid, if_neg (by simpa using hvE), hTn, if_neg (by omega), Int.toNat_natCast]
 have htm : Int.tmod (mr : Int) (N : Int) = (q : Int) := by rw [← hq]; exact (Int.ofNat_tmod mr N).symm
 have hcw : IntKind.i64.wrap (mr : Int) = (mr : Int) := by rw [IntKind.wrap_i64]; omega
 have hN0 : ¬ (N : Int) = 0 := by omega
 have hN00 : ¬ N = 0 := by omega
 have HLL := zH (yY (zw p) q)
 obtain ⟨T, hT⟩ : ∃ T, zw p = T := ⟨_, rfl⟩
 rw [hT] at hTn hpk2 hfx hvE hpn hM60 hn7 HLO hSY HCE HLL hRM ⊢
 have C1 := zH (fun (X : World) (h : SyAt X X.heap.size A2 SV2 AV AX T) => qX T HLO.out hfx (q : Int) A2 SV2 AV AX kc2 ks2 kv kx X h)
 rw [HCE.out] at C1
 obtain ⟨L, hL⟩ : ∃ L, xa T q = L := ⟨_, rfl⟩
 rw [hL] at C1 hRM HLL
 unfold vP Sy.vs_ at C1
 rw [hTn] at C1
 rw [HLL.out] at C1
 obtain ⟨n, hn⟩ : ∃ n, ptn T = n := ⟨_, rfl⟩
 rw [hn] at hpn hn7 C1 HLL hRM
 clear HCE HFi HSe HR hT hpk hpk2 hvE hfx hn HLO hL hq
 unfold Sy.vs_
 rw [hTn]
 go_upto_region 2 with fail
 obtain ⟨W3, hW3, d3, hs3, hb3⟩ := zr w2 #[.int .i64 T.p.t.n, .int .i64 T.p.t.ins, .int .i64 T.p.t.outs, .slice A2 T.p.t.cases.length kc2, .int .i64 T.p.a.n, .slice SV2 T.p.a.sts.length ks2, .int .i64 T.p.k, .int .i64 (N : Int), .slice AV T.vs.length kv, .slice AX T.xs.length kx] 35
 rw [hW3]
 have HDB : Hid (∀ X, Below W3.heap.size W3 X → X.heap[w2.heap.size]? = some (.cells #[.int .i64 T.p.t.n, .int .i64 T.p.t.ins, .int .i64 T.p.t.outs, .slice A2 T.p.t.cases.length kc2, .int .i64 T.p.a.n, .slice SV2 T.p.a.sts.length ks2, .int .i64 T.p.k, .int .i64 (N : Int), .slice AV T.vs.length kv, .slice AX T.xs.length kx] 35 (0, 0)) ∧ X.heap[w.heap.size]? = some (.cells #[.int .i64 p.t.n, .int .i64 p.t.ins, .int .i64 p.t.outs, .slice A p.t.cases.length kc, .int .i64 p.a.n, .slice SV p.a.sts.length ks, .int .i64 (K : Int)] 29 (0, 0))) := fun X hX => ⟨(hX.block _ (by omega)).trans d3, (hX.block _ (by have := zj HD2.out; omega)).trans ((hb3.block _ (zj HD2.out)).trans HD2.out)⟩
 have HSB : Hid (∀ X, Below W3.heap.size W3 X → SyAt X X.heap.size A2 SV2 AV AX T) := fun X hX => (hSY.up hb3).up hX
 have HB3 := zH (B2.out.trans (hb3.mono B2.out.size))
 have G3 : Hid (Below W3.heap.size W3 W3) := Below.refl _ _
 have HS3 := zH hs3
 clear hW3 d3 hb3 hSY hs3 B2 HD2 hs2
 obtain ⟨M, hM⟩ : ∃ M, T.xs.length = M := ⟨_, rfl⟩
 rw [hM] at hpn hM60 C1 HDB ⊢
 clear hM hTn
 have HPN := zH hpn
 obtain ⟨nn, hnn⟩ : ∃ nn, K + 1 = nn := ⟨_, rfl⟩
 rw [hnn] at hRM hpn
 have hwK : IntKind.i64.wrap ((K : Int) + 1) = (nn : Int) := by rw [IntKind.wrap_i64]; omega
 have hmul : (M : Int) * (nn : Int) = (n : Int) := by rw [hpn]; push_cast; rfl
 have hwM : IntKind.i64.wrap (n : Int) = (n : Int) := by rw [IntKind.wrap_i64]; omega
 have hn0 : ¬ (nn : Int) = 0 := by omega
 have hn00 : ¬ nn = 0 := by omega
 have hnn7 : 1 ≤ nn ∧ nn ≤ 7 := by omega
 clear hpn hnn
 obtain ⟨D0, D1⟩ := HDB.out _ G3.out
 obtain ⟨p0, p1, p2, p3, p4, p5, p6, p7, p8, p9⟩ := zu (D0)
 have r6 := zh D1 6 rfl
 clear D0 D1
 go_upto_region 4 with fail
 refine zt [(0, true), (1, true), (2, true), (3, true), (4, true), (5, true), (6, true), (7, false), (8, true), (9, true), (10, true), (11, true), (12, true)] (fun X => X.heap[w2.heap.size]? = some (.cells #[.int .i64 T.p.t.n, .int .i64 T.p.t.ins, .int .i64 T.p.t.outs, .slice A2 T.p.t.cases.length kc2, .int .i64 T.p.a.n, .slice SV2 T.p.a.sts.length ks2, .int .i64 T.p.k, .int .i64 (N : Int), .slice AV T.vs.length kv, .slice AX M kx] 35 (0, 0))) (by kernel_rfl) (by kernel_rfl) (HDB.out _ G3.out.drew).1 ?_
 repeat
  apply zy rfl
  · rintro K' hK' X u
    obtain ⟨p0, p1, p2, p3, p4, p5, p6, p7, p8, p9⟩ := zu (u)
    clear u
    go_simp
    exact hK'
 refine zE rfl ?_
 intro K' hK'
 go_simp
 refine (C1.out W3.drew (HSB.out _ G3.out.drew)).mono ?_
 rintro e w4 ⟨A4, c4, rfl, ho4, hb4⟩
 have G4 := zH (G3.out.drew.trans (hb4.mono (show W3.heap.size ≤ W3.drew.heap.size from G3.out.size)))
 refine hK' _ _ (HDB.out _ G4.out).1 ?_
 clear hK' K'
 repeat
  apply zy rfl
  · rintro K' hK' X u
    clear u
    go_simp
    exact hK'
 refine zG ?_
 have HI4 : Hid (∀ X, Below w4.heap.size w4 X → IAt X X.heap.size A4 L) := fun X hX => (xv ho4).up hX
 have F4 : Hid (Below w4.heap.size w4 w4) := Below.refl _ _
 clear ho4 hb4 C1 p0 p1 p2 p3 p4 p5 p6 p7 p8 p9 r6
 obtain ⟨D0, D1⟩ := HDB.out _ G4.out
 obtain ⟨p0, p1, p2, p3, p4, p5, p6, p7, p8, p9⟩ := zu (D0)
 have r6 := zh D1 6 rfl
 clear D0 D1
 go_wp2_with fail
 go_loopw [48] (fun i wr => ∃ x : Nat, x ≤ n ∧ i = .int .i64 (x : Int) ∧ Hid (Below w4.heap.size w4 wr)) (fun i _ => n - (intOf i).toNat)
 case atStart => exact ⟨0, by omega, rfl, F4⟩
 case round =>
  obtain ⟨x, hx, rfl, F5⟩ := hrel
  clear p0 p1 p2 p3 p4 p5 p6 p7 p8 p9 r6
  by_cases hxl : x < n
  · have hx0 : (0 : Int) ≤ (x : Int) := by omega
    have hx1 : (x : Int) < (n : Int) := by omega
    go_wp2_with fail
    obtain ⟨wE, rfl⟩ : ∃ y, y = wr := ⟨_, rfl⟩
    go_loopw [52] (fun i wr => ∃ k : Nat, k ≤ x ∧ i = .int .i64 (k : Int) ∧ Hid (Below w4.heap.size w4 wr)) (fun i _ => x - (intOf i).toNat)
    case atStart => exact ⟨0, by omega, rfl, F5⟩
    case round =>
     obtain ⟨k, hk, rfl, F6⟩ := hrel
     clear F5
     by_cases hkl : k < x
     · have hk0 : (0 : Int) ≤ (k : Int) := by omega
       have hk1 : (k : Int) < (n : Int) := by omega
       have hkx : (k : Int) < (x : Int) := by omega
       have hIw := HI4.out wr F6.out
       obtain ⟨b4, o4, rfl, hb4, z1⟩ := hIw.at_ x (by rw [HLL.out]; exact hxl)
       obtain ⟨b4', o4', e4, _, z2⟩ := hIw.at_ k (by rw [HLL.out]; omega)
       cases e4
       have hRx := hRM.out x k hxl (by omega)
       rw [zI (by rw [HLL.out]; exact hxl), zI (by rw [HLL.out]; omega)] at hRx
       obtain ⟨y1, hy1⟩ : ∃ y, L[x]'(by rw [HLL.out]; exact hxl) = y := ⟨_, rfl⟩
       obtain ⟨y2, hy2⟩ : ∃ y, L[k]'(by rw [HLL.out]; omega) = y := ⟨_, rfl⟩
       rw [hy1] at z1 hRx
       rw [hy2] at z2 hRx
       clear hy1 hy2
       by_cases hyy : y1 = y2
       · obtain ⟨hmod, hpre⟩ := hRx hyy
         have t1 : Int.tmod (x : Int) (nn : Int) = ((x % nn : Nat) : Int) := (Int.ofNat_tmod x nn).symm
         have t2 : Int.tmod (k : Int) (nn : Int) = ((x % nn : Nat) : Int) := by rw [hmod]; exact (Int.ofNat_tmod k nn).symm
         subst hyy
         by_cases hz : 0 < x % nn
         · have hkp : 0 < k := by
            have := Nat.mod_le k nn
            omega
           have hpr := hpre hz
           obtain ⟨x1, rfl⟩ : ∃ x1, x = x1 + 1 := ⟨x - 1, by omega⟩
           obtain ⟨k1, rfl⟩ : ∃ k1, k = k1 + 1 := ⟨k - 1, by omega⟩
           rw [Nat.add_sub_cancel, Nat.add_sub_cancel, zI (by rw [HLL.out]; omega), zI (by rw [HLL.out]; omega)] at hpr
           obtain ⟨b5, o5, e5, _, z3⟩ := hIw.at_ x1 (by rw [HLL.out]; omega)
           cases e5
           obtain ⟨b5, o5, e5, _, z4⟩ := hIw.at_ k1 (by rw [HLL.out]; omega)
           cases e5
           rw [← hpr] at z4
           obtain ⟨y3, hy3⟩ : ∃ y, L[x1]'(by rw [HLL.out]; omega) = y := ⟨_, rfl⟩
           rw [hy3] at z3 z4
           have hw1 : IntKind.i64.wrap (((x1 + 1 : Nat) : Int) - 1) = (x1 : Int) := by rw [IntKind.wrap_i64]; omega
           have hw2 : IntKind.i64.wrap (((k1 + 1 : Nat) : Int) - 1) = (k1 : Int) := by rw [IntKind.wrap_i64]; omega
           have hwk : IntKind.i64.wrap (((k1 + 1 : Nat) : Int) + 1) = ((k1 + 1 + 1 : Nat) : Int) := by rw [IntKind.wrap_i64]; omega
           have i1 : (0 : Int) ≤ (x1 : Int) := by omega
           have i2 : (x1 : Int) < (n : Int) := by omega
           have i3 : (0 : Int) ≤ (k1 : Int) := by omega
           have i4 : (k1 : Int) < (n : Int) := by omega
           obtain ⟨rr, hrr⟩ : ∃ rr, ((x1 + 1) % nn : Nat) = rr := ⟨_, rfl⟩
           rw [hrr] at t1 t2 hz
           have hrz : decide ((rr : Int) > 0) = true := decide_eq_true (by omega)
           have hrz2 : (0 : Int) < (rr : Int) := by omega
           obtain ⟨X1, hX1⟩ : ∃ X1 : Nat, x1 + 1 = X1 := ⟨_, rfl⟩
           obtain ⟨K1, hK1⟩ : ∃ K1 : Nat, k1 + 1 = K1 := ⟨_, rfl⟩
           have hkl' := hkl
           have hxl' := hxl
           rw [hX1] at hx0 hx1 hkx hk z1 t1 hw1 hkl hkl' hxl' hxl hx ⊢
           rw [hK1] at hk0 hk1 hkx hk z2 t2 hw2 hwk hkl hkl' ⊢
           have F7 : Hid (Below w4.heap.size w4 wr.drew.drew) := F6.out.drew.drew
           clear hpr hpre hRx hmod hy3 hrr hX1 hK1 hIw
           go_upto_region 14 with fail
           refine zt [(0, true), (1, true), (2, true), (3, true), (4, true), (5, true), (6, true), (7, true), (8, true), (9, true), (10, true), (11, true), (12, true), (13, true), (14, true), (15, true), (16, true), (17, true)] (fun X => X = wr.drew) (by kernel_rfl) (by kernel_rfl) rfl ?_
           repeat
            apply zy rfl
            · rintro K' hK' X rfl
              go_simp
              exact hK'
           refine zG ?_
           go_upto_region 16 with fail
           refine zt [(0, true), (1, true), (2, true), (3, true), (4, true), (5, true), (6, true), (7, true), (8, true), (9, true), (10, true), (11, true), (12, true), (13, true), (14, true), (15, true), (16, true), (17, true), (18, true), (19, true), (20, true), (21, true), (22, true), (23, true), (24, true), (25, true), (26, true), (27, true)] (fun X => X = wr.drew.drew) (by kernel_rfl) (by kernel_rfl) rfl ?_
           repeat
            apply zy rfl
            · rintro K' hK' X rfl
              go_simp
              exact hK'
           refine zG ?_
           go_wp2_with fail
           go_roundw
           case rel => exact ⟨K1 + 1, by omega, by first | go_num | rw [← Int.natCast_succ], F7⟩
           case measure => simp [intOf]; omega
         · have hz0 : x % nn = 0 := by omega
           rw [hz0] at t1 t2
           have F7 : Hid (Below w4.heap.size w4 wr.drew.drew) := F6.out.drew.drew
           clear hpre hRx hmod hz hIw hz0
           go_upto_region 14 with fail
           refine zt [(0, true), (1, true), (2, true), (3, true), (4, true), (5, true), (6, true), (7, true), (8, true), (9, true), (10, true), (11, true), (12, true), (13, true), (14, true), (15, true), (16, true), (17, true)] (fun X => X = wr.drew) (by kernel_rfl) (by kernel_rfl) rfl ?_
           repeat
            apply zy rfl
            · rintro K' hK' X rfl
              go_simp
              exact hK'
           refine zG ?_
           go_upto_region 16 with fail
           refine zt [(0, true), (1, true), (2, true), (3, true), (4, true), (5, true), (6, true), (7, true), (8, true), (9, true), (10, true), (11, true), (12, true), (13, true), (14, true), (15, true), (16, true), (17, true), (18, true), (19, true), (20, true), (21, true), (22, true), (23, true), (24, true), (25, true), (26, true), (27, true)] (fun X => X = wr.drew.drew) (by kernel_rfl) (by kernel_rfl) rfl ?_
           repeat
            apply zy rfl
            · rintro K' hK' X rfl
              go_simp
              exact hK'
           refine zG ?_
           go_wp2_with fail
           go_roundw
           case rel => exact ⟨k + 1, by omega, by go_num, F7⟩
           case measure => simp [intOf]; omega
       · have F7 : Hid (Below w4.heap.size w4 wr.drew.drew) := F6.out.drew.drew
         have hyb : decide (y1 = y2) = false := decide_eq_false hyy
         clear hRx hIw
         go_upto_region 14 with fail
         refine zt [(0, true), (1, true), (2, true), (3, true), (4, true), (5, true), (6, true), (7, true), (8, true), (9, true), (10, true), (11, true), (12, true), (13, true), (14, true), (15, true), (16, true), (17, true)] (fun X => X = wr.drew) (by kernel_rfl) (by kernel_rfl) rfl ?_
         repeat
          apply zy rfl
          · rintro K' hK' X rfl
            go_simp
            exact hK'
         refine zG ?_
         go_upto_region 16 with fail
         refine zt [(0, true), (1, true), (2, true), (3, true), (4, true), (5, true), (6, true), (7, true), (8, true), (9, true), (10, true), (11, true), (12, true), (13, true), (14, true), (15, true), (16, true), (17, true), (18, true), (19, true), (20, true), (21, true), (22, true), (23, true), (24, true), (25, true), (26, true), (27, true)] (fun X => X = wr.drew.drew) (by kernel_rfl) (by kernel_rfl) rfl ?_
         repeat
          apply zy rfl
          · rintro K' hK' X rfl
            go_simp
            exact hK'
         refine zG ?_
         go_wp2_with fail
         go_roundw
         case rel => exact ⟨k + 1, by omega, by go_num, F7⟩
         case measure => simp [intOf]; omega
     · obtain rfl : k = x := by omega
       have hkx : ¬ (k : Int) < (k : Int) := by omega
       go_wp2_with fail
       go_roundw
       case rel => exact ⟨k + 1, by omega, by go_num, F6⟩
       case measure => simp [intOf]; omega
  · obtain rfl : x = n := by omega
    have G9 := zH (G4.out.trans (F5.out.mono G4.out.size))
    clear HI4 F5
    go_wp2_with fail
    refine (xV wr).mono ?_
    rintro e v9 ⟨rfl, hb9⟩
    have HF := zH (HB3.out.trans ((G9.out.trans (hb9.mono G9.out.size)).mono HB3.out.size))
    clear hb9
    go_wp2_with fail
    go_ret
    exact ⟨rfl, HF.out⟩
end Go.Proofs.YtdkmpccfnnpnbaaGreat
