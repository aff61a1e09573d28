/- Parts PtNum LwPla. -/
import Derived.Test.YtdkmpccfnnpnbaaGreatProg
import Derived.Test.YtdkmpccfnnpnbaaGreatKbg
import Derived.Test.YtdkmpccfnnpnbaaGreatKbh
import Derived.Test.YtdkmpccfnnpnbaaGreatKbi

namespace Go.Proofs.YtdkmpccfnnpnbaaGreat
set_option maxHeartbeats 4000000
section
open Go.RowKit Go.Shelf
attribute [local go_sem] Oper.semAt_some
def Qg (s : Sy) (a b : Int) : Int × Int := if yf s ≠ 0 then (0, yf s) else if a < 0 ∨ (s.xs.length : Int) ≤ a then (0, 6) else if b < 0 ∨ s.p.k < b then (0, 2) else (a * (s.p.k + 1) + b, 0)
set_option maxRecDepth 100000 in
theorem JV (s : Sy) (hs : LowS s) (hf : xP s.p) (a b : Int) (A SV AV AX : Option Addr) (kc ks kv kx : Nat) (w : World) (hS : SyAt w w.heap.size A SV AV AX s) :
  Calls Tryz.prog 50 #[.agg (s.vs_ A kc SV ks AV kv AX kx), .int .i64 a, .int .i64 b] w fun e w' => e = .returned (.tuple #[.int .i64 (Qg s a b).1, .int .i64 (Qg s a b).2]) ∧ Below w.heap.size w w' := by
 obtain ⟨w1, hw1, d0, hs1, hB⟩ := zr w (s.vs_ A kc SV ks AV kv AX kx) 35
 have HV := zH (jr s hs hf A SV AV AX kc ks kv kx w1 (hS.up hB))
 have HE0 : Hid (yf s ≠ 0 → Qg s a b = (0, yf s)) := fun h => if_pos h
 have HE1 : Hid (yf s = 0 → Qg s a b = if a < 0 ∨ (s.xs.length : Int) ≤ a then (0, 6) else if b < 0 ∨ s.p.k < b then (0, 2) else (a * (s.p.k + 1) + b, 0)) := fun h => if_neg (by simpa using h)
 have HF : Hid (yf s = 0 → s.xs.length ≤ 60 ∧ ∃ K : Nat, s.p.k = (K : Int) ∧ K ≤ 6) := fun h => by
  obtain ⟨_, K, N, hF⟩ := yw hf h
  exact ⟨hF.lx, K, hF.k, hF.k6⟩
 obtain ⟨r, hr⟩ : ∃ r, yf s = r := ⟨_, rfl⟩
 rw [hr] at HV HE0 HE1 HF
 obtain ⟨R, hRR⟩ : ∃ R, Qg s a b = R := ⟨_, rfl⟩
 rw [hRR] at HE0 HE1 ⊢
 obtain ⟨n, hn⟩ : ∃ n, s.xs.length = n := ⟨_, rfl⟩
 unfold Sy.vs_ at hw1 d0 HV ⊢
 rw [hn] at HE1 HF hw1 d0 HV ⊢
 have HW1 := zH hw1
 have HB := zH hB
 have HD := zH d0
 obtain ⟨p0, p1, p2, p3, p4, p5, p6, p7, p8, p9⟩ := zu (d0)
 clear hw1 d0 hB hS hr hRR hs hf hn
 go_enter Tryz.func50, Tryz.ntmps50
 go_wp2_with fail
 rw [HW1.out]
 go_wp2_with fail
 refine HV.out.mono ?_
 rintro e w2 ⟨rfl, hb2⟩
 have HB2 := zH (HB.out.trans (hb2.mono (by omega)))
 have HD := zH ((hb2.block _ (by omega : w.heap.size < w1.heap.size)).trans HD.out)
 clear p0 p1 p2 p3 p4 p5 p6 p7 p8 p9 hb2 HV HW1
 by_cases h0 : r = 0
 case neg =>
  have hR : Hid (R = (0, r)) := HE0.out h0
  have e0 : (r != 0) = true := by simpa using h0
  clear HE0 HE1 HD HF
  go_wp2_with fail
  go_ret2
  rw [hR.out]
  exact ⟨rfl, HB2.out⟩
 case pos =>
 subst h0
 obtain ⟨hx60, K, hK, hK6⟩ := HF.out rfl
 have HE := zH (HE1.out rfl)
 rw [hK] at HE HD
 clear HE0 HE1 HF hK
 obtain ⟨p0, p1, p2, p3, p4, p5, p6, p7, p8, p9⟩ := zu (HD.out)
 by_cases hneg : a < 0
 · have hR : Hid (R = (0, 6)) := HE.out.trans (if_pos (.inl hneg))
   have e0 : (decide (a < 0)) = true := decide_eq_true hneg
   clear HE HD
   go_wp2_with fail
   go_ret2
   rw [hR.out]
   exact ⟨rfl, HB2.out⟩
 have e0 : (decide (a < 0)) = false := decide_eq_false hneg
 by_cases hbig : (n : Int) ≤ a
 · have hR : Hid (R = (0, 6)) := HE.out.trans (if_pos (.inr hbig))
   have e1 : decide (a ≥ (n : Int)) = true := decide_eq_true hbig
   clear HE HD
   go_wp2_with fail
   go_ret2
   rw [hR.out]
   exact ⟨rfl, HB2.out⟩
 have e1 : decide (a ≥ (n : Int)) = false := decide_eq_false hbig
 have HE2 := zH (HE.out.trans (if_neg (by omega)))
 clear HE
 by_cases hb0 : b < 0
 · have hR : Hid (R = (0, 2)) := HE2.out.trans (if_pos (.inl hb0))
   have e2 : (decide (b < 0)) = true := decide_eq_true hb0
   clear HE2 HD
   go_wp2_with fail
   go_ret2
   rw [hR.out]
   exact ⟨rfl, HB2.out⟩
 have e2 : (decide (b < 0)) = false := decide_eq_false hb0
 by_cases hb1 : (K : Int) < b
 · have hR : Hid (R = (0, 2)) := HE2.out.trans (if_pos (.inr hb1))
   have e3 : decide (b > (K : Int)) = true := decide_eq_true hb1
   clear HE2 HD
   go_wp2_with fail
   go_ret2
   rw [hR.out]
   exact ⟨rfl, HB2.out⟩
 have e3 : decide (b > (K : Int)) = false := decide_eq_false hb1
 have hR : Hid (R = (a * ((K : Int) + 1) + b, 0)) := HE2.out.trans (if_neg (by omega))
 obtain ⟨x, rfl⟩ := Int.eq_ofNat_of_zero_le (show 0 ≤ a by omega)
 have hm := Nat.mul_le_mul (show x ≤ 60 by omega) (show K + 1 ≤ 7 by omega)
 have hm2 : ((x * (K + 1) : Nat) : Int) = (x : Int) * ((K : Int) + 1) := by push_cast; rfl
 obtain ⟨y, hy⟩ : ∃ y, (x : Int) * ((K : Int) + 1) = y := ⟨_, rfl⟩
 rw [hy] at hR hm2
 have hw0 : IntKind.i64.wrap ((K : Int) + 1) = (K : Int) + 1 := by rw [IntKind.wrap_i64]; omega
 have hw1 : IntKind.i64.wrap y = y := by rw [IntKind.wrap_i64]; omega
 have hw2 : IntKind.i64.wrap (y + b) = y + b := by rw [IntKind.wrap_i64]; omega
 clear HE2 HD hm hm2
 go_wp2_with fail
 go_ret2
 rw [hR.out]
 exact ⟨rfl, HB2.out⟩
end
section
open Go.RowKit
attribute [local go_sem] Oper.semAt_some
set_option maxRecDepth 100000 in
theorem Xe (p : Pb) (hl : uw p) (A : Option Addr) (kc : Nat) (SV : Option Addr) (ks : Nat) (w : World) (hA : CAt w w.heap.size A p.t.cases) (hS : SAt w w.heap.size SV p.a.sts) :
  Calls Tryz.prog 13 #[.agg (p.vs A kc SV ks)] w fun e w' => e = .returned (.bool true) ∧ Below w.heap.size w w' := by
 obtain ⟨w1, hw1, d0, hs1, hB1⟩ := zr w (p.vs A kc SV ks) 29
 have HS6 := zH (uH p hl A kc SV ks w1 ((hA.keep hB1).more hB1.size) ((hS.keep hB1).more hB1.size))
 have HFS := zH (fun (h : xu p = true) => ZA h)
 have HLW : Hid (xu p = true → LowS (zw p)) := fun h => by
  obtain ⟨hbE, _, hf, _⟩ := qU h
  have := kH hl hf
  rwa [hbE] at this
 have HBb := zH hB1
 unfold Pb.vs at hw1 d0 HS6 ⊢
 have HW1 := zH hw1
 have HD0 := zH d0
 have p0 := zh (d0) 0 rfl
 have p1 := zh (d0) 1 rfl
 have p2 := zh (d0) 2 rfl
 have p3 := zh (d0) 3 rfl
 have p4 := zh (d0) 4 rfl
 have p5 := zh (d0) 5 rfl
 have p6 := zh (d0) 6 rfl
 clear hw1 d0 hB1 hA hS hs1 hl
 go_enter Tryz.func13, Tryz.ntmps13
 go_wp2_with fail
 rw [HW1.out]
 go_wp2_with fail
 refine HS6.out.mono ?_
 rintro e w2 ⟨hb2, hcase⟩
 have B2 := zH (HBb.out.trans (hb2.mono HBb.out.size))
 have hs2 := hb2.size
 have HD2 := zH ((hb2.block _ (zj HD0.out)).trans HD0.out)
 clear hb2 HS6 HW1 HBb HD0 p0 p1 p2 p3 p4 p5 p6
 rcases hcase with ⟨_, rfl⟩ | ⟨hr, A2, kc2, SV2, ks2, AV, kv, AX, kx, rfl, hSY⟩
 · clear HFS HLW HD2
   go_upto_region 2 with fail
   obtain ⟨WF, hWF, dz, hsF, hBa2⟩ := zr w2 #[.int .i64 0, .int .i64 0, .int .i64 0, .slice none 0 0, .int .i64 0, .slice none 0 0, .int .i64 0, .int .i64 0, .slice none 0 0, .slice none 0 0] 35
   rw [hWF]
   clear hWF dz
   go_wp2_with fail
   refine (xV WF).mono ?_
   rintro e v3 ⟨rfl, hb3⟩
   have B3 := zH (B2.out.trans ((hBa2.trans (hb3.mono (by omega))).mono B2.out.size))
   clear hb3 hBa2
   go_wp2_with fail
   go_ret
   exact ⟨rfl, B3.out⟩
 obtain ⟨K, N, hF, hSe, hTn, hpk, hN1, hN3, hK6, hfx, hvE, hpn, hM60, hn7⟩ := HFS.out hr
 have HR := zH hr
 have HLO := zH (HLW.out hr)
 have HFi := zH hF
 have HSe := zH hSe
 have hpk2 : (zw p).p.k = (K : Int) := hpk
 rw [hpk] at HD2
 have HPK := zH hpk
 clear hF hSe HFS HLW hr
 have HNE : Hid (∀ x k : Nat, x < (zw p).xs.length → k ≤ K → Qg (zw p) (x : Int) (k : Int) = (((x * (K + 1) + k : Nat) : Int), 0)) := fun x k hx hk => by
  unfold Qg
  rw [if_neg (by simpa using hvE), if_neg (by omega), hpk2, if_neg (by omega)]
  congr 1
 have HPE : Hid (∀ x k : Nat, x < (zw p).xs.length → k ≤ K → j5 (zw p) ((x * (K + 1) + k : Nat) : Int) = (((x : Int), (k : Int)), 0)) := fun x k hx hk => by
  have h1 : x * (K + 1) + k < ptn (zw p) := by
   rw [hpn]
   have := Nat.mul_le_mul_right (K + 1) (show x + 1 ≤ (zw p).xs.length by omega)
   rw [Nat.succ_mul] at this
   omega
  unfold j5
  rw [if_neg (by simpa using hvE), if_neg (by omega), Int.toNat_natCast, hpk2, Int.toNat_natCast]
  have e1 : (x * (K + 1) + k) / (K + 1) = x := by rw [Nat.mul_comm, Nat.mul_add_div (by omega), Nat.div_eq_of_lt (by omega), Nat.add_zero]
  have e2 : (x * (K + 1) + k) % (K + 1) = k := by rw [Nat.mul_comm, Nat.mul_add_mod, Nat.mod_eq_of_lt (by omega)]
  rw [e1, e2]
 have HPN : Hid (j5 (zw p) (ptn (zw p) : Int) = ((0, 0), 6)) := by
  unfold j5
  rw [Hid, if_neg (by simpa using hvE), if_pos (.inr (Int.le_refl _))]
 have HCE : Hid (Yt (zw p) = ((ptn (zw p) : Int), 0)) := by
  unfold Yt
  rw [Hid, if_neg (by simpa using hvE)]
 obtain ⟨T, hT⟩ : ∃ T, zw p = T := ⟨_, rfl⟩
 rw [hT] at hTn hpk2 hfx hvE hpn hM60 hn7 HLO hSY HNE HPE HPN HCE ⊢
 have C1 := zH (fun (X : World) (h : SyAt X X.heap.size A2 SV2 AV AX T) => gA T HLO.out hfx A2 SV2 AV AX kc2 ks2 kv kx X h)
 have C2 := zH (fun (x k : Nat) (hx : x < T.xs.length) (hk : k ≤ K) (X : World) (h : SyAt X X.heap.size A2 SV2 AV AX T) => (by have := JV T HLO.out hfx (x : Int) (k : Int) A2 SV2 AV AX kc2 ks2 kv kx X h; rw [HNE.out x k hx hk] at this; exact this : Calls Tryz.prog 50 #[.agg (T.vs_ A2 kc2 SV2 ks2 AV kv AX kx), .int .i64 (x : Int), .int .i64 (k : Int)] X fun e w' => e = .returned (.tuple #[.int .i64 ((x * (K + 1) + k : Nat) : Int), .int .i64 0]) ∧ Below X.heap.size X w'))
 have C3 := zH (fun (x k : Nat) (hx : x < T.xs.length) (hk : k ≤ K) (X : World) (h : SyAt X X.heap.size A2 SV2 AV AX T) => (by have := ue T HLO.out hfx ((x * (K + 1) + k : Nat) : Int) A2 SV2 AV AX kc2 ks2 kv kx X h; rw [HPE.out x k hx hk] at this; exact this : Calls Tryz.prog 52 #[.agg (T.vs_ A2 kc2 SV2 ks2 AV kv AX kx), .int .i64 ((x * (K + 1) + k : Nat) : Int)] X fun e w' => e = .returned (.tuple #[.int .i64 (x : Int), .int .i64 (k : Int), .int .i64 0]) ∧ Below X.heap.size X w'))
 have C4 := zH (fun (X : World) (h : SyAt X X.heap.size A2 SV2 AV AX T) => ue T HLO.out hfx (ptn T : Int) A2 SV2 AV AX kc2 ks2 kv kx X h)
 rw [HCE.out] at C1
 rw [HPN.out] at C4
 unfold Sy.vs_ at C1 C2 C3 C4
 rw [hTn] at C1 C2 C3 C4
 obtain ⟨n, hn⟩ : ∃ n, ptn T = n := ⟨_, rfl⟩
 rw [hn] at hpn hn7 C1 C4
 clear HNE HPE HPN HCE HFi HSe HR hT hpk hpk2 hvE hfx hn HLO
 unfold Sy.vs_
 rw [hTn]
 go_upto_region 2 with fail
 obtain ⟨W3, hW3, d3, hs3, hb3⟩ := zr w2 #[.int .i64 T.p.t.n, .int .i64 T.p.t.ins, .int .i64 T.p.t.outs, .slice A2 T.p.t.cases.length kc2, .int .i64 T.p.a.n, .slice SV2 T.p.a.sts.length ks2, .int .i64 T.p.k, .int .i64 (N : Int), .slice AV T.vs.length kv, .slice AX T.xs.length kx] 35
 rw [hW3]
 have HDB : Hid (∀ X, Below W3.heap.size W3 X → X.heap[w2.heap.size]? = some (.cells #[.int .i64 T.p.t.n, .int .i64 T.p.t.ins, .int .i64 T.p.t.outs, .slice A2 T.p.t.cases.length kc2, .int .i64 T.p.a.n, .slice SV2 T.p.a.sts.length ks2, .int .i64 T.p.k, .int .i64 (N : Int), .slice AV T.vs.length kv, .slice AX T.xs.length kx] 35 (0, 0)) ∧ X.heap[w.heap.size]? = some (.cells #[.int .i64 p.t.n, .int .i64 p.t.ins, .int .i64 p.t.outs, .slice A p.t.cases.length kc, .int .i64 p.a.n, .slice SV p.a.sts.length ks, .int .i64 (K : Int)] 29 (0, 0))) := fun X hX => ⟨(hX.block _ (by omega)).trans d3, (hX.block _ (by have := zj HD2.out; omega)).trans ((hb3.block _ (zj HD2.out)).trans HD2.out)⟩
 have HSB : Hid (∀ X, Below W3.heap.size W3 X → SyAt X X.heap.size A2 SV2 AV AX T) := fun X hX => (hSY.up hb3).up hX
 have HB3 := zH (B2.out.trans (hb3.mono B2.out.size))
 have G3 : Hid (Below W3.heap.size W3 W3) := Below.refl _ _
 have HS3 := zH hs3
 clear hW3 d3 hb3 hSY hs3 B2 HD2 hs2
 obtain ⟨M, hM⟩ : ∃ M, T.xs.length = M := ⟨_, rfl⟩
 rw [hM] at hpn hM60 C1 C2 C3 C4 HDB ⊢
 clear hM hTn
 have HPN := zH hpn
 have hwK : IntKind.i64.wrap ((K : Int) + 1) = (K : Int) + 1 := by rw [IntKind.wrap_i64]; omega
 have hmul : (M : Int) * ((K : Int) + 1) = (n : Int) := by rw [hpn]; push_cast; rfl
 have hwM : IntKind.i64.wrap (n : Int) = (n : Int) := by rw [IntKind.wrap_i64]; omega
 clear hpn
 obtain ⟨D0, D1⟩ := HDB.out _ G3.out
 obtain ⟨p0, p1, p2, p3, p4, p5, p6, p7, p8, p9⟩ := zu (D0)
 have r6 := zh D1 6 rfl
 clear D0 D1
 go_wp2_with fail
 refine (C1.out W3 (HSB.out _ G3.out)).mono ?_
 rintro e w4 ⟨rfl, hb4⟩
 have G4 := zH (G3.out.trans (hb4.mono G3.out.size))
 clear hb4 C1 p0 p1 p2 p3 p4 p5 p6 p7 p8 p9 r6
 obtain ⟨D0, D1⟩ := HDB.out _ G4.out
 obtain ⟨p0, p1, p2, p3, p4, p5, p6, p7, p8, p9⟩ := zu (D0)
 have r6 := zh D1 6 rfl
 clear D0 D1
 go_wp2_with fail
 go_loopw [7, 44] (fun at' i wr => ∃ x : Nat, x ≤ M ∧ i = .int .i64 (x : Int) ∧ at' = .int .i64 ((x * (K + 1) : Nat) : Int) ∧ Hid (Below W3.heap.size W3 wr)) (fun _ i _ => M - (intOf i).toNat)
 case atStart => exact ⟨0, by omega, rfl, by simp, G4⟩
 case round =>
  obtain ⟨x, hx, rfl, rfl, G5⟩ := hrel
  clear p0 p1 p2 p3 p4 p5 p6 p7 p8 p9 r6
  by_cases hxl : x < M
  · have hxn : (x + 1) * (K + 1) ≤ n := by rw [HPN.out]; exact Nat.mul_le_mul_right _ hxl
    rw [Nat.succ_mul] at hxn
    obtain ⟨D0, D1⟩ := HDB.out _ G5.out
    obtain ⟨p0, p1, p2, p3, p4, p5, p6, p7, p8, p9⟩ := zu (D0)
    have r6 := zh D1 6 rfl
    clear D0 D1
    clear p0 p1 p2 p3 p4 p5 p6 p7 p8 p9
    go_wp2_with fail
    obtain ⟨wE, rfl⟩ : ∃ y, y = wr := ⟨_, rfl⟩
    go_loopw [7, 50] (fun at' i wr => ∃ k : Nat, k ≤ K + 1 ∧ i = .int .i64 (k : Int) ∧ at' = .int .i64 ((x * (K + 1) + k : Nat) : Int) ∧ Hid (Below W3.heap.size W3 wr)) (fun _ i _ => K + 1 - (intOf i).toNat)
    case atStart => exact ⟨0, by omega, rfl, rfl, G5⟩
    case round =>
     obtain ⟨k, hk, rfl, rfl, G6⟩ := hrel
     clear r6 G5
     by_cases hkl : k < K + 1
     · have hkI : (k : Int) < (K : Int) + 1 := by omega
       have E2 := zH (C2.out x k hxl (by omega))
       have E3 := zH (C3.out x k hxl (by omega))
       obtain ⟨z, hz⟩ : ∃ z : Nat, x * (K + 1) + k = z := ⟨_, rfl⟩
       have hz2 : Hid (x * (K + 1) + (k + 1) = z + 1) := by rw [Hid]; omega
       rw [hz] at E2 E3 ⊢
       have hzn : z ≤ 1000 := by omega
       have hwz : IntKind.i64.wrap ((z : Int) + 1) = ((z + 1 : Nat) : Int) := by rw [IntKind.wrap_i64]; omega
       clear hz hxn
       obtain ⟨D0, D1⟩ := HDB.out _ G6.out
       obtain ⟨p0, p1, p2, p3, p4, p5, p6, p7, p8, p9⟩ := zu (D0)
       clear D0 D1
       go_wp2_with fail
       refine (E2.out wr (HSB.out _ G6.out)).mono ?_
       rintro e w7 ⟨rfl, hb7⟩
       have G7 := zH (G6.out.trans (hb7.mono G6.out.size))
       clear hb7 E2 p0 p1 p2 p3 p4 p5 p6 p7 p8 p9
       obtain ⟨D0, D1⟩ := HDB.out _ G7.out
       obtain ⟨p0, p1, p2, p3, p4, p5, p6, p7, p8, p9⟩ := zu (D0)
       clear D0 D1
       go_wp2_with fail
       refine (E3.out w7 (HSB.out _ G7.out)).mono ?_
       rintro e w8 ⟨rfl, hb8⟩
       have G8 := zH (G7.out.trans (hb8.mono G7.out.size))
       clear hb8 E3 p0 p1 p2 p3 p4 p5 p6 p7 p8 p9
       go_wp2_with fail
       go_roundw
       case rel => exact ⟨k + 1, by omega, by go_num, by rw [hz2.out]; go_num, G8⟩
       case measure => simp [intOf]; omega
     · obtain rfl : k = K + 1 := by omega
       have hkI : ¬ (((K + 1 : Nat) : Int) < (K : Int) + 1) := by omega
       go_wp2_with fail
       go_roundw
       case rel => exact ⟨x + 1, by omega, by go_num, by rw [Nat.succ_mul], G6⟩
       case measure => simp [intOf]; omega
  · obtain rfl : x = M := by omega
    have hxn : Hid (x * (K + 1) = n) := HPN.out.symm
    rw [hxn.out]
    obtain ⟨D0, D1⟩ := HDB.out _ G5.out
    obtain ⟨p0, p1, p2, p3, p4, p5, p6, p7, p8, p9⟩ := zu (D0)
    clear D0 D1
    go_wp2_with fail
    refine (C4.out wr (HSB.out _ G5.out)).mono ?_
    rintro e w7 ⟨rfl, hb7⟩
    have G7 := zH (G5.out.trans (hb7.mono G5.out.size))
    clear hb7 C4 p0 p1 p2 p3 p4 p5 p6 p7 p8 p9
    go_wp2_with fail
    refine (xV w7).mono ?_
    rintro e v9 ⟨rfl, hb9⟩
    have HF := zH (HB3.out.trans ((G7.out.trans (hb9.mono G7.out.size)).mono HB3.out.size))
    clear hb9
    go_wp2_with fail
    go_ret
    exact ⟨rfl, HF.out⟩
end
end Go.Proofs.YtdkmpccfnnpnbaaGreat
