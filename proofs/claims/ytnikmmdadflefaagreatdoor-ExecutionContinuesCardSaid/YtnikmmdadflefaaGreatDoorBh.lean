/- Part Bl23. What each part says stands at its head; no part has a condition beyond its own statements. -/
import Derived.Test.YtnikmmdadflefaaGreatDoorProg
import Derived.Test.YtnikmmdadflefaaGreatDoorBa
import Derived.Test.YtnikmmdadflefaaGreatDoorBf

namespace Go.Proofs.YtnikmmdadflefaaGreatDoor
open Go.RowKit
attribute [local go_sem] Oper.semAt_some
theorem right_built {p : Pb} (h : rightB p = true) : buildE p = (builtE p, 0) ∧ verE (builtE p) = 0 ∧ FewX p ∧ probE p = 0 ∧ execT p ≤ 60 ∧ p.t.n ≤ 3 ∧ ∃ K N, Fine (builtE p) K N ∧ Sees (builtE p) K N := by
  unfold rightB at h
  rw [Bool.and_eq_true] at h
  obtain ⟨h1, h2⟩ := h
  obtain ⟨hf, h3⟩ := few_x h1
  have h4 : (buildE p).2 = 0 := of_decide_eq_true h2
  have h0 : probE p = 0 := by
    by_cases h0 : probE p = 0
    · exact h0
    · rw [buildE_bad h0] at h4; exact absurd h4 h0
  have hm : ¬ 4096 < execT p := fun hm => by rw [buildE_many h0 hm] at h4; exact absurd h4 (by decide)
  have h60 : execT p ≤ 60 := by
    rcases hf.2 h0 with h | h
    · exact h
    · exact absurd h hm
  have hb := buildE_ok h0 (by omega)
  obtain ⟨hpt, _⟩ := prob_fine h0
  obtain ⟨_, hn1, hn5⟩ := task_cases hpt
  obtain ⟨K, N, hF⟩ := built_fine hf h0 h60
  refine ⟨hb, ?_, hf, h0, h60, by omega, K, N, hF, built_sees hF⟩
  unfold verE
  have e : (builtE p).p = p := rfl
  rw [e, hb, if_neg (by simp), if_pos rfl]
set_option maxHeartbeats 400000 in
theorem bld1_any (x : Int) (m kv : Nat) (AV : Option Addr) (c0 c1 c2 c3 c4 c5 c6 c7 c9 : Value) (bm : Nat) (w : World) (hb : w.heap[bm]? = some (.cells #[c0, c1, c2, c3, c4, c5, c6, c7, .slice AV m kv, c9] 36 (0, 0))) :
    Calls Tryz.prog 74 #[.int .i64 x, .pointer (some ⟨bm, 0, none⟩)] w fun e w' => e = .returned (.bool (outB (m : Int) x)) ∧ w = w' := by
  have H : Hid (outB (m : Int) x = decide (x < 0 ∨ (m : Int) ≤ x)) := rfl
  have c8 := blk_cell hb 8 rfl
  clear hb
  go_enter Tryz.func74, Tryz.ntmps74
  go_wp2
  all_goals
    go_ret
    refine ⟨ret_bool ?_, rfl⟩
    rw [H.out]
    simp
    try omega
set_option maxHeartbeats 1000000 in
theorem bldidx_any (A : Option Addr) (c : Nat) (xs : List Int) (m kv : Nat) (AV : Option Addr) (c0 c1 c2 c3 c4 c5 c6 c7 c9 : Value) (bm : Nat) (hl : xs.length ≤ 17592186044416) (w : World) (hA : IAt w w.heap.size A xs) (hb : w.heap[bm]? = some (.cells #[c0, c1, c2, c3, c4, c5, c6, c7, .slice AV m kv, c9] 36 (0, 0))) :
    Calls Tryz.prog 136 #[.slice A xs.length c, .func (.func 74) #[] #[.pointer (some ⟨bm, 0, none⟩)]] w (RetIdx (xs.any (outB (m : Int))) w) := by
  have HA := Lib.hid hA
  have HV := Lib.hid (fun x => bld1_any x m kv AV c0 c1 c2 c3 c4 c5 c6 c7 c9 bm w hb)
  obtain ⟨r, hr⟩ : ∃ r, xs.any (outB (m : Int)) = r := ⟨_, rfl⟩
  rw [hr]
  have HR : Hid (r = (xs.drop 0).any (outB (m : Int))) := by rw [List.drop_zero]; exact hr.symm
  clear hA hb hr
  go_enter Tryz.func136, Tryz.ntmps136
  go_wp2_with fail
  go_loop [8] (fun i => ∃ k : Nat, k ≤ xs.length ∧ i = .int .i64 (k : Int) ∧ Hid (r = (xs.drop k).any (outB (m : Int)))) (fun i => xs.length - (intOf i).toNat)
  case atStart => exact ⟨0, by omega, rfl, HR⟩
  case round =>
    obtain ⟨k, hk, rfl, hrk⟩ := hrel
    clear HR
    by_cases hlt : k < xs.length
    · obtain ⟨b, o, rfl, hbB, cc⟩ := HA.out.at_ k hlt
      have hs := any_step (p := outB (m : Int)) hlt
      obtain ⟨x, hx⟩ : ∃ x, xs[k] = x := ⟨_, rfl⟩
      rw [hx] at cc hs
      have HS := Lib.hid hs
      have HC := Lib.hid (HV.out x)
      obtain ⟨bo, hbo⟩ : ∃ bo, outB (m : Int) x = bo := ⟨_, rfl⟩
      rw [hbo] at HS HC
      clear hs hx hbo
      go_wp2_with fail
      refine HC.out.mono ?_
      rintro e w' ⟨rfl, rfl⟩
      cases bo with
      | true =>
        have hR : r = true := by rw [hrk.out, HS.out]; rfl
        subst hR
        go_wp2_with fail
        go_ret
        exact ⟨(k : Int), rfl, by simp, 0, rfl⟩
      | false =>
        have HR2 : Hid (r = (xs.drop (k + 1)).any (outB (m : Int))) := by rw [hrk.out, HS.out]; rfl
        clear HS HC
        go_wp2_with fail
        go_round
        case rel => exact ⟨k + 1, by omega, by go_num, HR2⟩
        case measure => simp [intOf]; omega
    · obtain rfl : k = xs.length := by omega
      have hR : r = false := hrk.out.trans (any_end rfl)
      subst hR
      go_wp2_with fail
      go_ret
      exact ⟨-1, rfl, by decide, 0, rfl⟩
set_option maxHeartbeats 400000 in
theorem bldcont_any (A : Option Addr) (c : Nat) (xs : List Int) (m kv : Nat) (AV : Option Addr) (c0 c1 c2 c3 c4 c5 c6 c7 c9 : Value) (bm : Nat) (hl : xs.length ≤ 17592186044416) (w : World) (hA : IAt w w.heap.size A xs) (hb : w.heap[bm]? = some (.cells #[c0, c1, c2, c3, c4, c5, c6, c7, .slice AV m kv, c9] 36 (0, 0))) :
    Calls Tryz.prog 73 #[.slice A xs.length c, .func (.func 74) #[] #[.pointer (some ⟨bm, 0, none⟩)]] w fun e w' => e = .returned (.bool (xs.any (outB (m : Int)))) ∧ ∃ n, w' = w.drewN n := by
  have hc := bldidx_any A c xs m kv AV c0 c1 c2 c3 c4 c5 c6 c7 c9 bm hl w hA hb
  obtain ⟨r, hr⟩ : ∃ r, xs.any (outB (m : Int)) = r := ⟨_, rfl⟩
  rw [hr] at hc ⊢
  have HC := Lib.hid hc
  clear hc hA hb hr
  go_enter Tryz.func73, Tryz.ntmps73
  go_wp2_with fail
  refine HC.out.mono ?_
  rintro e w' ⟨i, rfl, hi, n, rfl⟩
  have HI := Lib.hid hi
  clear hi HC
  go_wp2_with fail
  go_ret
  exact ⟨ret_bool HI.out, _, rfl⟩
def RetBl (p : Pb) (w : World) (e : Ending) (w' : World) : Prop :=
  (rightB p = false → e = .returned (.tuple #[.agg #[.int .i64 0, .int .i64 0, .int .i64 0, .slice none 0 0, .int .i64 0, .slice none 0 0, .int .i64 0, .int .i64 0, .slice none 0 0, .slice none 0 0], .bool false, .bool true])) ∧
  (rightB p = true → ∃ A kc SV ks AV kv AX kx, e = .returned (.tuple #[.agg ((builtE p).vs_ A kc SV ks AV kv AX kx), .bool true, .bool true]) ∧ SyAt w' w'.heap.size A SV AV AX (builtE p) ∧ (builtE p).vs.length ≤ kv ∧ kv ≤ maxLen) ∧ Below w.heap.size w w'
theorem any_out {m : Nat} {l : List Int} (h : ∀ i ∈ l, 0 ≤ i ∧ i < (m : Int)) : l.any (outB (m : Int)) = false := by
  rw [Bool.eq_false_iff]
  intro ha
  obtain ⟨i, hi, hb⟩ := List.any_eq_true.1 ha
  have := h i hi
  unfold outB at hb
  have h2 : i < 0 ∨ (m : Int) ≤ i := by simpa using hb
  omega
set_option maxRecDepth 100000 in
set_option maxHeartbeats 2000000 in
theorem bld_any (p : Pb) (hl : LowP p) (A : Option Addr) (kc : Nat) (SV : Option Addr) (ks : Nat) (w : World) (hA : CAt w w.heap.size A p.t.cases) (hS : SAt w w.heap.size SV p.a.sts) :
    Calls Tryz.prog 27 #[.agg (p.vs A kc SV ks)] w (RetBl p w) := by
  obtain ⟨w1, hw1, d0, d1, hs1, hB1⟩ := cboxes w (p.vs A kc SV ks) #[.int .i64 0, .int .i64 0, .int .i64 0, .slice none 0 0, .int .i64 0, .slice none 0 0, .int .i64 0, .int .i64 0, .slice none 0 0, .slice none 0 0] 29 36
  have hA1 := (hA.keep hB1).more hB1.size
  have hS1 := (hS.keep hB1).more hB1.size
  have HR := Lib.hid (right_any p hl A kc SV ks w1 hA1 hS1)
  have hAB := hA.keep hB1
  have hSB := hS.keep hB1
  have HBD := Lib.hid (fun (hf : FewX p) (X : World) (hX : Below w1.heap.size w1 X) => buildF_any p hf A kc SV ks X w.heap.size (Nat.le_trans hB1.size hX.size) (hAB.keep (hX.mono hB1.size)) (hSB.keep (hX.mono hB1.size)))
  have HRB := Lib.hid (fun h => right_built (p := p) h)
  have HLW := Lib.hid (fun (hf : FewX p) => built_low hl hf)
  have HVF := Lib.hid (fun (hs : LowS (builtE p)) (hf : FewX p) (A2 SV2 AV AX : Option Addr) (kc2 ks2 kv kx : Nat) (X : World) (hX : SyAt X X.heap.size A2 SV2 AV AX (builtE p)) => rver_any (builtE p) hs hf A2 SV2 AV AX kc2 ks2 kv kx X hX)
  have HX1 : Hid (rightB p = false → ∀ W, Below w.heap.size w W → RetBl p w (.returned (.tuple #[.agg #[.int .i64 0, .int .i64 0, .int .i64 0, .slice none 0 0, .int .i64 0, .slice none 0 0, .int .i64 0, .int .i64 0, .slice none 0 0, .slice none 0 0], .bool false, .bool true])) W) := fun h W hb => ⟨fun _ => rfl, fun h2 => (by rw [h] at h2; cases h2), hb⟩
  have HX2 : Hid (rightB p = true → ∀ A kc SV ks AV kv AX kx W, SyAt W W.heap.size A SV AV AX (builtE p) → (builtE p).vs.length ≤ kv → kv ≤ maxLen → Below w.heap.size w W → RetBl p w (.returned (.tuple #[.agg ((builtE p).vs_ A kc SV ks AV kv AX kx), .bool true, .bool true])) W) := fun h A kc SV ks AV kv AX kx W h1 h2 h3 hb => ⟨fun h4 => (by rw [h] at h4; cases h4), fun _ => ⟨A, kc, SV, ks, AV, kv, AX, kx, rfl, h1, h2, h3⟩, hb⟩
  obtain ⟨RB, hRB⟩ : ∃ RB, RetBl p w = RB := ⟨_, rfl⟩
  rw [hRB] at HX1 HX2 ⊢
  clear hRB
  unfold Pb.vs at hw1 d0 HR HBD ⊢
  have HW1 := Lib.hid hw1
  have HD0 := Lib.hid d0
  have HD1 := Lib.hid d1
  have HB1 := Lib.hid hB1
  have p0 := blk_cell d0 0 rfl
  have p1 := blk_cell d0 1 rfl
  have p2 := blk_cell d0 2 rfl
  have p3 := blk_cell d0 3 rfl
  have p4 := blk_cell d0 4 rfl
  have p5 := blk_cell d0 5 rfl
  have p6 := blk_cell d0 6 rfl
  obtain ⟨r, hr⟩ : ∃ r, rightB p = r := ⟨_, rfl⟩
  rw [hr] at HR HX1 HX2
  have HRR := Lib.hid hr
  clear hw1 d0 d1 hB1 hA hS hA1 hS1 hAB hSB hr hl
  go_enter Tryz.func27, Tryz.ntmps27
  go_wp2_with fail
  rw [HW1.out]
  go_wp2_with fail
  refine HR.out.mono ?_
  rintro e w2 ⟨rfl, hb2⟩
  have B2 := Lib.hid (HB1.out.trans (hb2.mono (by omega)))
  have G2 := Lib.hid hb2
  have hs2 := hb2.size
  have d0 := (hb2.block _ (blk_lt HD0.out)).trans HD0.out
  have d1 := (hb2.block _ (blk_lt HD1.out)).trans HD1.out
  clear hb2 HR HW1 p0 p1 p2 p3 p4 p5 p6
  cases r with
  | false =>
    clear HBD HRB HLW HVF HX2
    have y0 := blk_cell d1 0 rfl
    have f0 := blk_froz d1 0
    have y1 := blk_cell d1 1 rfl
    have f1 := blk_froz d1 1
    have y2 := blk_cell d1 2 rfl
    have f2 := blk_froz d1 2
    have y3 := blk_cell d1 3 rfl
    have f3 := blk_froz d1 3
    have y4 := blk_cell d1 4 rfl
    have f4 := blk_froz d1 4
    have y5 := blk_cell d1 5 rfl
    have f5 := blk_froz d1 5
    have y6 := blk_cell d1 6 rfl
    have f6 := blk_froz d1 6
    have y7 := blk_cell d1 7 rfl
    have f7 := blk_froz d1 7
    have y8 := blk_cell d1 8 rfl
    have f8 := blk_froz d1 8
    have y9 := blk_cell d1 9 rfl
    have f9 := blk_froz d1 9
    obtain ⟨k1, k2, k3⟩ := sys_store10 (.int .i64 0) (.int .i64 0) (.int .i64 0) (.slice none 0 0) (.int .i64 0) (.slice none 0 0) (.int .i64 0) (.int .i64 0) (.slice none 0 0) (.slice none 0 0) d1 B2.out (by omega : w.heap.size ≤ w.heap.size + 1)
    obtain ⟨WF, hWF⟩ : ∃ WF, ((((((((((w2.setCell ⟨w.heap.size + 1, 0, none⟩ (.int .i64 0)).setCell ⟨w.heap.size + 1, 1, none⟩ (.int .i64 0)).setCell ⟨w.heap.size + 1, 2, none⟩ (.int .i64 0)).setCell ⟨w.heap.size + 1, 3, none⟩ (.slice none 0 0)).setCell ⟨w.heap.size + 1, 4, none⟩ (.int .i64 0)).setCell ⟨w.heap.size + 1, 5, none⟩ (.slice none 0 0)).setCell ⟨w.heap.size + 1, 6, none⟩ (.int .i64 0)).setCell ⟨w.heap.size + 1, 7, none⟩ (.int .i64 0)).setCell ⟨w.heap.size + 1, 8, none⟩ (.slice none 0 0)).setCell ⟨w.heap.size + 1, 9, none⟩ (.slice none 0 0)) = WF := ⟨_, rfl⟩
    rw [hWF] at k1 k2 k3
    have HK1 := Lib.hid k1
    have HK2 := Lib.hid k2
    have HK3 := Lib.hid k3
    have HWF := Lib.hid hWF
    clear k1 k2 k3 hWF
    clear d0 d1
    go_wp2_with fail
    rw [HWF.out]
    have z0 := blk_cell HK1.out 0 rfl
    have z1 := blk_cell HK1.out 1 rfl
    have z2 := blk_cell HK1.out 2 rfl
    have z3 := blk_cell HK1.out 3 rfl
    have z4 := blk_cell HK1.out 4 rfl
    have z5 := blk_cell HK1.out 5 rfl
    have z6 := blk_cell HK1.out 6 rfl
    have z7 := blk_cell HK1.out 7 rfl
    have z8 := blk_cell HK1.out 8 rfl
    have z9 := blk_cell HK1.out 9 rfl
    refine bodyPost_ret (v := .tuple #[.agg #[.int .i64 0, .int .i64 0, .int .i64 0, .slice none 0 0, .int .i64 0, .slice none 0 0, .int .i64 0, .int .i64 0, .slice none 0 0, .slice none 0 0], .bool false, .bool true]) (by simp [results, Tryz.results27, go_sem, z0, z1, z2, z3, z4, z5, z6, z7, z8, z9]) rfl ?_
    exact HX1.out (by simp) _ HK2.out
  | true =>
  obtain ⟨hbE, hvE, hf, h0, h60, hn3, K, N, hF, hSe⟩ := HRB.out HRR.out
  have HB := Lib.hid (HBD.out hf w2 G2.out)
  have HVV := Lib.hid (HVF.out (by have := HLW.out hf; rw [hbE] at this; exact this) hf)
  have HFF := Lib.hid hF
  have HSS := Lib.hid hSe
  rw [hbE] at HB
  rw [hvE] at HVV
  have hpk : Hid (p.k = (K : Int)) := hF.k
  have hpn : Hid (p.t.n = (N : Int)) := hF.pn
  have hk6 := hF.k6
  have HN5 := Lib.hid hF.n5
  have hcs := Lib.hid hSe.cs
  have hwd := Lib.hid hF.word
  have hvw := Lib.hid hF.views
  have hlx := hF.lx
  have hlv := hF.lv
  have hlp : Hid ((builtE p).p.t.cases.length = p.t.cases.length) := rfl
  obtain ⟨T, hT⟩ : ∃ T, builtE p = T := ⟨_, rfl⟩
  have HX3 := Lib.hid (HX2.out (by simp))
  rw [hT] at HB HVV hcs hwd hvw hlx hlv hlp HX3
  have HPT : Hid (T.p = p) := by rw [← hT]; rfl
  clear HX1 HX2 HRB HBD HVF HLW hbE hvE hf h0 h60 hn3 hF hSe hT
  have p0 := blk_cell d0 0 rfl
  have p1 := blk_cell d0 1 rfl
  have p2 := blk_cell d0 2 rfl
  have p3 := blk_cell d0 3 rfl
  have p4 := blk_cell d0 4 rfl
  have p5 := blk_cell d0 5 rfl
  have p6 := blk_cell d0 6 rfl
  have HE0 := Lib.hid d0
  have HE1 := Lib.hid d1
  have HLTW : Hid (w.heap.size + 1 < w2.heap.size) := blk_lt d1
  clear d0 d1
  go_wp2_with fail
  refine HB.out.mono ?_
  rintro e w3 ⟨A2, kc2, SV2, ks2, AV, kv, AX, kx, rfl, hS3F, hv1, hv2, hb3⟩
  have hS3 := hS3F w3 (Nat.le_refl _) (fun _ _ _ => rfl)
  have HSF := Lib.hid hS3F
  clear hS3F
  have B3 := Lib.hid (B2.out.trans (hb3.mono (by omega)))
  have hs3 := hb3.size
  have HV1 := Lib.hid hv1
  have HV2 := Lib.hid hv2
  have HF0 := Lib.hid ((hb3.block _ (blk_lt HE0.out)).trans HE0.out)
  have HF1 := Lib.hid ((hb3.block _ (blk_lt HE1.out)).trans HE1.out)
  obtain ⟨W3, hW3, b3, hz3, hB3⟩ := onebox w3 (T.vs_ A2 kc2 SV2 ks2 AV kv AX kx) 36
  have HS3 := Lib.hid (hS3.up hB3)
  have HC3 := Lib.hid (B3.out.trans (hB3.mono B3.out.size))
  have HB33 := Lib.hid hB3
  have e0 := (hB3.block _ (by have := blk_lt HF0.out; omega)).trans HF0.out
  have e1 := (hB3.block _ (by have := blk_lt HF1.out; omega)).trans HF1.out
  have HVX := Lib.hid (HVV.out A2 SV2 AV AX kc2 ks2 kv kx W3 HS3.out)
  unfold Sy.vs_ at hW3 b3 HVX ⊢
  have HW3 := Lib.hid hW3
  have HD3 := Lib.hid b3
  have HG0 := Lib.hid e0
  have HG1 := Lib.hid e1
  clear hb3 hS3 hW3 hB3 hv1 hv2 HB HF0 HF1 HE0 HE1 p0 p1 p2 p3 p4 p5 p6 e0 e1
  go_wp2_with fail
  rw [HW3.out]
  refine HVX.out.mono ?_
  rintro e w4 ⟨rfl, hb4⟩
  have HC4 := Lib.hid (HC3.out.trans (hb4.mono HC3.out.size))
  have HS4 := Lib.hid (HS3.out.up hb4)
  have HD4 := Lib.hid ((hb4.block _ (blk_lt HD3.out)).trans HD3.out)
  have HG04 := Lib.hid ((hb4.block _ (blk_lt HG0.out)).trans HG0.out)
  have HG14 := Lib.hid ((hb4.block _ (blk_lt HG1.out)).trans HG1.out)
  have d4 := HD4.out
  have x2 := blk_cell d4 9 rfl
  have hs4 := hb4.size
  have HLT : Hid (w.heap.size + 1 < w3.heap.size) := by show _ < _; have := HLTW.out; omega
  have HLT2 : Hid (w.heap.size + 1 < w2.heap.size) := HLTW
  have HBLK : Hid (∀ k, k < w3.heap.size → w4.heap[k]? = w3.heap[k]?) := fun k hk => (hb4.block k (by have := HB33.out.size; omega)).trans (HB33.out.block k hk)
  clear hb4 HVX HC3 HS3 HD3 HG0 HG1 d4 HVV
  go_wp2_with fail
  go_loopw [31] (fun i wr => ∃ k : Nat, k ≤ T.xs.length ∧ i = .int .i64 (k : Int) ∧ Hid (Below w4.heap.size w4 wr)) (fun i _ => T.xs.length - (intOf i).toNat)
  case atStart => exact ⟨0, by omega, rfl, Below.refl _ _⟩
  case round =>
    obtain ⟨k, hk, rfl, hb⟩ := hrel
    have hw0 : w.heap.size + 1 < w4.heap.size := blk_lt HG14.out
    have hw3 : w3.heap.size < w4.heap.size := blk_lt HD4.out
    have hw3' : w.heap.size + 1 < w3.heap.size := HLT.out
    have e0 := (hb.out.block _ (by omega)).trans HG04.out
    have e1 := (hb.out.block _ (by omega)).trans HG14.out
    have e5 := (hb.out.block _ (by omega)).trans HD4.out
    by_cases hlt : k < T.xs.length
    case neg =>
      obtain rfl : k = T.xs.length := by omega
      have y0 := blk_cell e1 0 rfl
      have f0 := blk_froz e1 0
      have y1 := blk_cell e1 1 rfl
      have f1 := blk_froz e1 1
      have y2 := blk_cell e1 2 rfl
      have f2 := blk_froz e1 2
      have y3 := blk_cell e1 3 rfl
      have f3 := blk_froz e1 3
      have y4 := blk_cell e1 4 rfl
      have f4 := blk_froz e1 4
      have y5 := blk_cell e1 5 rfl
      have f5 := blk_froz e1 5
      have y6 := blk_cell e1 6 rfl
      have f6 := blk_froz e1 6
      have y7 := blk_cell e1 7 rfl
      have f7 := blk_froz e1 7
      have y8 := blk_cell e1 8 rfl
      have f8 := blk_froz e1 8
      have y9 := blk_cell e1 9 rfl
      have f9 := blk_froz e1 9
      have z0' := blk_cell e5 0 rfl
      have z1' := blk_cell e5 1 rfl
      have z2' := blk_cell e5 2 rfl
      have z3' := blk_cell e5 3 rfl
      have z4' := blk_cell e5 4 rfl
      have z5' := blk_cell e5 5 rfl
      have z6' := blk_cell e5 6 rfl
      have z7' := blk_cell e5 7 rfl
      have z8' := blk_cell e5 8 rfl
      have z9' := blk_cell e5 9 rfl
      obtain ⟨k1, k2, k3⟩ := sys_store10 (.int .i64 T.p.t.n) (.int .i64 T.p.t.ins) (.int .i64 T.p.t.outs) (.slice A2 T.p.t.cases.length kc2) (.int .i64 T.p.a.n) (.slice SV2 T.p.a.sts.length ks2) (.int .i64 T.p.k) (.int .i64 T.n) (.slice AV T.vs.length kv) (.slice AX T.xs.length kx) e1 (HC4.out.trans (hb.out.mono HC4.out.size)) (by omega : w.heap.size ≤ w.heap.size + 1)
      obtain ⟨WF, hWF⟩ : ∃ WF, ((((((((((wr.setCell ⟨w.heap.size + 1, 0, none⟩ (.int .i64 T.p.t.n)).setCell ⟨w.heap.size + 1, 1, none⟩ (.int .i64 T.p.t.ins)).setCell ⟨w.heap.size + 1, 2, none⟩ (.int .i64 T.p.t.outs)).setCell ⟨w.heap.size + 1, 3, none⟩ (.slice A2 T.p.t.cases.length kc2)).setCell ⟨w.heap.size + 1, 4, none⟩ (.int .i64 T.p.a.n)).setCell ⟨w.heap.size + 1, 5, none⟩ (.slice SV2 T.p.a.sts.length ks2)).setCell ⟨w.heap.size + 1, 6, none⟩ (.int .i64 T.p.k)).setCell ⟨w.heap.size + 1, 7, none⟩ (.int .i64 T.n)).setCell ⟨w.heap.size + 1, 8, none⟩ (.slice AV T.vs.length kv)).setCell ⟨w.heap.size + 1, 9, none⟩ (.slice AX T.xs.length kx)) = WF := ⟨_, rfl⟩
      rw [hWF] at k1 k2 k3
      have HK1 := Lib.hid k1
      have HK2 := Lib.hid k2
      have HK3 := Lib.hid k3
      have HWF := Lib.hid hWF
      have hz2 := HLT2.out
      have hz4 := hb.out.size
      have hsame : ∀ k, (k < w.heap.size ∨ w2.heap.size ≤ k) → k < w3.heap.size → WF.heap[k]? = w3.heap[k]? := fun k h1 h2 => (HK3.out.2.1 k (by omega)).trans ((hb.out.block k (by omega)).trans (HBLK.out k h2))
      have hzF : w3.heap.size ≤ WF.heap.size := by have := HK3.out.2.2; omega
      clear k1 k2 k3 hWF e1 e5 e0
      go_wp2_with fail
      rw [HWF.out]
      have z0 := blk_cell HK1.out 0 rfl
      have z1 := blk_cell HK1.out 1 rfl
      have z2 := blk_cell HK1.out 2 rfl
      have z3 := blk_cell HK1.out 3 rfl
      have z4 := blk_cell HK1.out 4 rfl
      have z5 := blk_cell HK1.out 5 rfl
      have z6 := blk_cell HK1.out 6 rfl
      have z7 := blk_cell HK1.out 7 rfl
      have z8 := blk_cell HK1.out 8 rfl
      have z9 := blk_cell HK1.out 9 rfl
      refine bodyPost_ret (v := .tuple #[.agg #[.int .i64 T.p.t.n, .int .i64 T.p.t.ins, .int .i64 T.p.t.outs, .slice A2 T.p.t.cases.length kc2, .int .i64 T.p.a.n, .slice SV2 T.p.a.sts.length ks2, .int .i64 T.p.k, .int .i64 T.n, .slice AV T.vs.length kv, .slice AX T.xs.length kx], .bool true, .bool true]) (by simp [results, Tryz.results27, go_sem, z0, z1, z2, z3, z4, z5, z6, z7, z8, z9]) rfl ?_
      exact HX3.out A2 kc2 SV2 ks2 AV kv AX kx WF (HSF.out WF hzF hsame) HV1.out HV2.out HK2.out
    case pos =>
    obtain ⟨bx, ox, A1, c1, B2, c2, eX, hbx, x0, x1, x2', hRw, hLv⟩ := (HS4.out.fx.keep hb.out).row k hlt
    subst eX
    have hxm := List.getElem_mem hlt
    obtain ⟨cN, hcN, hcl, _⟩ := hcs.out _ hxm
    obtain ⟨hwl, _⟩ := hwd.out _ hxm
    obtain ⟨hvl, hvr⟩ := hvw.out _ hxm
    rw [hlp.out] at hcl
    have HCL := Lib.hid hcl
    obtain ⟨x, hx⟩ : ∃ x, T.xs[k] = x := ⟨_, rfl⟩
    rw [hx] at x0 x1 x2' hcN hwl hvl hvr hLv
    rw [hcN] at x0
    rw [hwl] at x1
    rw [hvl] at x2'
    obtain ⟨W5, hW5, b5, hz5, hB5⟩ := onebox wr #[.int .i64 (cN : Int), .slice A1 K c1, .slice B2 (K + 1) c2] 42
    have HC5 := Lib.hid (hb.out.trans (hB5.mono hb.out.size))
    have HL5 := Lib.hid (((hLv.more (by have := hb.out.size; omega : w4.heap.size ≤ wr.heap.size)).keep hB5).more hB5.size)
    have d0 := (hB5.block _ (by have := hb.out.size; omega)).trans e0
    have d5 := (hB5.block _ (by have := hb.out.size; omega)).trans e5
    have p0 := blk_cell d0 0 rfl
    have p3 := blk_cell d0 3 rfl
    have p6 := blk_cell d0 6 rfl
    rw [hpn.out] at p0
    rw [hpk.out] at p6
    have g0 := blk_cell b5 0 rfl
    have g1 := blk_cell b5 1 rfl
    have g2 := blk_cell b5 2 rfl
    have r0 := blk_cell e0 0 rfl
    have r3 := blk_cell e0 3 rfl
    have r6 := blk_cell e0 6 rfl
    rw [hpn.out] at r0
    rw [hpk.out] at r6
    have hl0 : w.heap.size < wr.heap.size := by have := hb.out.size; omega
    have HW5 := Lib.hid hW5
    have HD0 := Lib.hid d0
    have HD5 := Lib.hid d5
    have HVR := Lib.hid hvr
    have HVL := Lib.hid hvl
    have hk0 : (0 : Int) ≤ (k : Int) := by omega
    have hk1 : (k : Int) < (T.xs.length : Int) := by omega
    have hc0 : ¬ ((cN : Int) < 0) := by omega
    have hc1 : ¬ ((p.t.cases.length : Int) ≤ (cN : Int)) := by have := HCL.out; omega
    have hKw : IntKind.i64.wrap ((K : Int) + 1) = ((K + 1 : Nat) : Int) := by rw [IntKind.wrap_i64]; omega
    clear hW5 b5 hB5 hLv hRw hx hcN hcl hwl hvl hvr hxm d0 d5 e0 e1 e5
    go_wp2_with fail
    rw [HW5.out]
    go_wp2_with fail
    clear g0 g1 p0 p3 p6 r0 r3 r6 x0 x1 x2' HW5
    go_loopw [68] (fun i wx => ∃ j : Nat, j ≤ K + 1 ∧ i = .int .i64 (j : Int) ∧ Hid (Below W5.heap.size W5 wx)) (fun i _ => K + 1 - (intOf i).toNat)
    case atStart => exact ⟨0, by omega, by simp, Below.refl _ _⟩
    case round =>
      obtain ⟨j, hj, rfl, hbx⟩ := hrel
      have HB6 := Lib.hid (HC5.out.trans (hbx.out.mono HC5.out.size))
      by_cases hjl : j < K + 1
      case neg =>
        obtain rfl : j = K + 1 := by omega
        go_wp2_with fail
        go_roundw
        case rel => exact ⟨k + 1, by omega, by go_num, HB6⟩
        case measure => simp [intOf]; omega
      case pos =>
        obtain ⟨bl, ol, A3, c3, eL, hbl, y1, hI⟩ := (HL5.out.keep hbx.out).at_ j (by have := HVL.out; omega)
        subst eL
        have hjv : j < x.views.length := by have := HVL.out; omega
        obtain ⟨hrl, hri⟩ := HVR.out _ (List.getElem_mem hjv)
        obtain ⟨row, hrw⟩ : ∃ row, x.views[j] = row := ⟨_, rfl⟩
        rw [hrw] at y1 hI hrl hri
        have e0 := (hbx.out.block _ (blk_lt HD0.out)).trans HD0.out
        have e5 := (hbx.out.block _ (blk_lt HD5.out)).trans HD5.out
        have p0 := blk_cell e0 0 rfl
        rw [hpn.out] at p0
        have HCT := Lib.hid (fun c0 c1 c2 c3' c4 c5 c6 c7 c9 (h : wr.heap[w3.heap.size]? = some (.cells #[c0, c1, c2, c3', c4, c5, c6, c7, .slice AV T.vs.length kv, c9] 36 (0, 0))) => bldcont_any A3 c3 row T.vs.length kv AV c0 c1 c2 c3' c4 c5 c6 c7 c9 w3.heap.size (by have := HN5.out; omega) wr (hI.more hbx.out.size) h)
        have HCT' := Lib.hid (HCT.out _ _ _ _ _ _ _ _ _ e5)
        rw [any_out hri] at HCT'
        rw [hrl] at y1 HCT'
        have hj0 : (0 : Int) ≤ (j : Int) := by omega
        have hj1 : (j : Int) < ((K + 1 : Nat) : Int) := by omega
        clear HCT hrl hri hI e0 e5 hrw
        go_wp2_with fail
        refine HCT'.out.mono ?_
        rintro e w7 ⟨rfl, n, rfl⟩
        have HB7 := Lib.hid (belN hbx.out n)
        clear HCT'
        go_wp2_with fail
        go_roundw
        case rel => exact ⟨j + 1, by omega, by go_num, HB7⟩
        case measure => simp [intOf]; omega
end Go.Proofs.YtnikmmdadflefaaGreatDoor
