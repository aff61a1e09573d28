/- Part OpenW. Part Bl23. Part LwDe. What each part says stands at its head; no part has a condition beyond its own statements. -/
import Derived.Test.YtnikmmdadflefaaGreatDoorBc
import Derived.Test.YtnikmmdadflefaaGreatDoorProg
import Derived.Test.YtnikmmdadflefaaGreatDoorBa
import Derived.Test.YtnikmmdadflefaaGreatDoorBf
import Derived.Test.YtnikmmdadflefaaGreatDoorBg
import Derived.Deep.QuietTactic
import Derived.BigQuiet

namespace Go.Proofs.YtnikmmdadflefaaGreatDoor
open Go.ChangeShapes Go.WideShapes Go.ChangeAt Go.RowKit Go.Deep
theorem okWide_arr {P : Program} {w : World} {r : Reach} {base : Nat} {t e : TypeId} {n : Nat} {v : Value} (ht : P.underlying t = some (.array n e)) (h : Value.okWide P w r base t v) : ∃ cs, v = .agg cs ∧ cs.size = P.cellsOf t := by
  simp only [Value.okWide, ht] at h
  obtain ⟨cs, h1, h2, _⟩ := h
  exact ⟨cs, h1, h2⟩
section
variable {H : Type} {enc : TypeId × Value → H} {W : World} {base : Nat} {spare : Nat → Bool} {held : Bool}
theorem cells2u : Tryz.prog.cellsOf 69 = 2 := by kernel_rfl
theorem cellsU8 : Tryz.prog.cellsOf 5 = 1 := by kernel_rfl
theorem u8_nat {n : Int} (h : (Lit.int .u8 n).wf = true) : ∃ m : Nat, n = (m : Int) ∧ m < 256 := by
  have h2 : IntKind.u8.min ≤ n ∧ n ≤ IntKind.u8.max := by simpa [Lit.wf] using h
  have m0 : IntKind.u8.min = 0 := by decide
  have m1 : IntKind.u8.max = 255 := by decide
  rw [m0, m1] at h2
  exact ⟨n.toNat, by omega, by omega⟩
set_option maxRecDepth 100000 in
theorem open_pairArg {b0 : Nat} {v : Value} {d : DataW H} {ps : List MemPlace} (hv : Value.okWide Tryz.prog W .any b0 69 v) (h : DataW.Trod enc Tryz.prog W base spare held 69 v d ps) :
    ∃ a b : Nat, v = .agg #[.int .u8 a, .int .u8 b] ∧ a < 256 ∧ b < 256 := by
  obtain ⟨cs, rfl, _⟩ := okWide_arr Tryz.underlying69 hv
  obtain ⟨fuel, hf⟩ := h
  obtain ⟨ys, m, rfl, _, hl, hyl, hi⟩ := DataW.trod_array Tryz.underlying69 hf
  rw [cells2u] at hl
  obtain ⟨cl⟩ := cs
  match cl, hl with
  | [c0, c1], _ =>
    have k0 := hi 0 (by decide)
    have k1 := hi 1 (by decide)
    match ys, hyl with
    | [y0, y1], _ =>
      have j0 : DataW.trod enc Tryz.prog W base spare held m 5 [c0] = some y0 := by simpa [cellsU8, Value.cells] using k0
      have j1 : DataW.trod enc Tryz.prog W base spare held m 5 [c1] = some y1 := by simpa [cellsU8, Value.cells] using k1
      obtain ⟨a0, b0, _, w0⟩ := DataW.trod_int Tryz.underlying5 j0
      obtain ⟨a1, b1, _, w1⟩ := DataW.trod_int Tryz.underlying5 j1
      cases b0; cases b1
      obtain ⟨m0, rfl, h0⟩ := u8_nat w0
      obtain ⟨m1, rfl, h1⟩ := u8_nat w1
      exact ⟨m0, m1, rfl, h0, h1⟩
end
end Go.Proofs.YtnikmmdadflefaaGreatDoor
namespace Go.Proofs.YtnikmmdadflefaaGreatDoor
open Go.RowKit
attribute [local go_sem] Oper.semAt_some
theorem right_built {p : Pb} (h : rightB p = true) : buildE p = (builtE p, 0) ∧ verE (builtE p) = 0 ∧ FewX p ∧ probE p = 0 ∧ execT p ≤ 60 ∧ p.t.n ≤ 3 ∧ ∃ K N, Fine (builtE p) K N ∧ Sees (builtE p) K N := by
  unfold rightB at h
  rw [Bool.and_eq_true] at h
  obtain ⟨h1, h2⟩ := h
  obtain ⟨hf, h3⟩ := few_x h1
  have h4 : (buildE p).2 = 0 := of_decide_eq_true h2
  have h0 : probE p = 0 := by
    by_cases h0 : probE p = 0
    · exact h0
    · rw [buildE_bad h0] at h4; exact absurd h4 h0
  have hm : ¬ 4096 < execT p := fun hm => by rw [buildE_many h0 hm] at h4; exact absurd h4 (by decide)
  have h60 : execT p ≤ 60 := by
    rcases hf.2 h0 with h | h
    · exact h
    · exact absurd h hm
  have hb := buildE_ok h0 (by omega)
  obtain ⟨hpt, _⟩ := prob_fine h0
  obtain ⟨_, hn1, hn5⟩ := task_cases hpt
  obtain ⟨K, N, hF⟩ := built_fine hf h0 h60
  refine ⟨hb, ?_, hf, h0, h60, by omega, K, N, hF, built_sees hF⟩
  unfold verE
  have e : (builtE p).p = p := rfl
  rw [e, hb, if_neg (by simp), if_pos rfl]
set_option maxHeartbeats 400000 in
theorem bld1_any (x : Int) (m kv : Nat) (AV : Option Addr) (c0 c1 c2 c3 c4 c5 c6 c7 c9 : Value) (bm : Nat) (w : World) (hb : w.heap[bm]? = some (.cells #[c0, c1, c2, c3, c4, c5, c6, c7, .slice AV m kv, c9] 36 (0, 0))) :
    Calls Tryz.prog 74 #[.int .i64 x, .pointer (some ⟨bm, 0, none⟩)] w fun e w' => e = .returned (.bool (outB (m : Int) x)) ∧ w = w' := by
  have H : Hid (outB (m : Int) x = decide (x < 0 ∨ (m : Int) ≤ x)) := rfl
  have c8 := blk_cell hb 8 rfl
  clear hb
  go_enter Tryz.func74, Tryz.ntmps74
  go_wp2
  all_goals
    go_ret
    refine ⟨ret_bool ?_, rfl⟩
    rw [H.out]
    simp
    try omega
set_option maxHeartbeats 1000000 in
theorem bldidx_any (A : Option Addr) (c : Nat) (xs : List Int) (m kv : Nat) (AV : Option Addr) (c0 c1 c2 c3 c4 c5 c6 c7 c9 : Value) (bm : Nat) (hl : xs.length ≤ 17592186044416) (w : World) (hA : IAt w w.heap.size A xs) (hb : w.heap[bm]? = some (.cells #[c0, c1, c2, c3, c4, c5, c6, c7, .slice AV m kv, c9] 36 (0, 0))) :
    Calls Tryz.prog 136 #[.slice A xs.length c, .func (.func 74) #[] #[.pointer (some ⟨bm, 0, none⟩)]] w (RetIdx (xs.any (outB (m : Int))) w) := by
  have HA := Lib.hid hA
  have HV := Lib.hid (fun x => bld1_any x m kv AV c0 c1 c2 c3 c4 c5 c6 c7 c9 bm w hb)
  obtain ⟨r, hr⟩ : ∃ r, xs.any (outB (m : Int)) = r := ⟨_, rfl⟩
  rw [hr]
  have HR : Hid (r = (xs.drop 0).any (outB (m : Int))) := by rw [List.drop_zero]; exact hr.symm
  clear hA hb hr
  go_enter Tryz.func136, Tryz.ntmps136
  go_wp2_with fail
  go_loop [8] (fun i => ∃ k : Nat, k ≤ xs.length ∧ i = .int .i64 (k : Int) ∧ Hid (r = (xs.drop k).any (outB (m : Int)))) (fun i => xs.length - (intOf i).toNat)
  case atStart => exact ⟨0, by omega, rfl, HR⟩
  case round =>
    obtain ⟨k, hk, rfl, hrk⟩ := hrel
    clear HR
    by_cases hlt : k < xs.length
    · obtain ⟨b, o, rfl, hbB, cc⟩ := HA.out.at_ k hlt
      have hs := any_step (p := outB (m : Int)) hlt
      obtain ⟨x, hx⟩ : ∃ x, xs[k] = x := ⟨_, rfl⟩
      rw [hx] at cc hs
      have HS := Lib.hid hs
      have HC := Lib.hid (HV.out x)
      obtain ⟨bo, hbo⟩ : ∃ bo, outB (m : Int) x = bo := ⟨_, rfl⟩
      rw [hbo] at HS HC
      clear hs hx hbo
      go_wp2_with fail
      refine HC.out.mono ?_
      rintro e w' ⟨rfl, rfl⟩
      cases bo with
      | true =>
        have hR : r = true := by rw [hrk.out, HS.out]; rfl
        subst hR
        go_wp2_with fail
        go_ret
        exact ⟨(k : Int), rfl, by simp, 0, rfl⟩
      | false =>
        have HR2 : Hid (r = (xs.drop (k + 1)).any (outB (m : Int))) := by rw [hrk.out, HS.out]; rfl
        clear HS HC
        go_wp2_with fail
        go_round
        case rel => exact ⟨k + 1, by omega, by go_num, HR2⟩
        case measure => simp [intOf]; omega
    · obtain rfl : k = xs.length := by omega
      have hR : r = false := hrk.out.trans (any_end rfl)
      subst hR
      go_wp2_with fail
      go_ret
      exact ⟨-1, rfl, by decide, 0, rfl⟩
set_option maxHeartbeats 400000 in
theorem bldcont_any (A : Option Addr) (c : Nat) (xs : List Int) (m kv : Nat) (AV : Option Addr) (c0 c1 c2 c3 c4 c5 c6 c7 c9 : Value) (bm : Nat) (hl : xs.length ≤ 17592186044416) (w : World) (hA : IAt w w.heap.size A xs) (hb : w.heap[bm]? = some (.cells #[c0, c1, c2, c3, c4, c5, c6, c7, .slice AV m kv, c9] 36 (0, 0))) :
    Calls Tryz.prog 73 #[.slice A xs.length c, .func (.func 74) #[] #[.pointer (some ⟨bm, 0, none⟩)]] w fun e w' => e = .returned (.bool (xs.any (outB (m : Int)))) ∧ ∃ n, w' = w.drewN n := by
  have hc := bldidx_any A c xs m kv AV c0 c1 c2 c3 c4 c5 c6 c7 c9 bm hl w hA hb
  obtain ⟨r, hr⟩ : ∃ r, xs.any (outB (m : Int)) = r := ⟨_, rfl⟩
  rw [hr] at hc ⊢
  have HC := Lib.hid hc
  clear hc hA hb hr
  go_enter Tryz.func73, Tryz.ntmps73
  go_wp2_with fail
  refine HC.out.mono ?_
  rintro e w' ⟨i, rfl, hi, n, rfl⟩
  have HI := Lib.hid hi
  clear hi HC
  go_wp2_with fail
  go_ret
  exact ⟨ret_bool HI.out, _, rfl⟩
def RetBl (p : Pb) (w : World) (e : Ending) (w' : World) : Prop :=
  (rightB p = false → e = .returned (.tuple #[.agg #[.int .i64 0, .int .i64 0, .int .i64 0, .slice none 0 0, .int .i64 0, .slice none 0 0, .int .i64 0, .int .i64 0, .slice none 0 0, .slice none 0 0], .bool false, .bool true])) ∧
  (rightB p = true → ∃ A kc SV ks AV kv AX kx, e = .returned (.tuple #[.agg ((builtE p).vs_ A kc SV ks AV kv AX kx), .bool true, .bool true]) ∧ SyAt w' w'.heap.size A SV AV AX (builtE p) ∧ (builtE p).vs.length ≤ kv ∧ kv ≤ maxLen) ∧ Below w.heap.size w w'
theorem any_out {m : Nat} {l : List Int} (h : ∀ i ∈ l, 0 ≤ i ∧ i < (m : Int)) : l.any (outB (m : Int)) = false := by
  rw [Bool.eq_false_iff]
  intro ha
  obtain ⟨i, hi, hb⟩ := List.any_eq_true.1 ha
  have := h i hi
  unfold outB at hb
  have h2 : i < 0 ∨ (m : Int) ≤ i := by simpa using hb
  omega
set_option maxRecDepth 100000 in
set_option maxHeartbeats 2000000 in
theorem bld_any (p : Pb) (hl : LowP p) (A : Option Addr) (kc : Nat) (SV : Option Addr) (ks : Nat) (w : World) (hA : CAt w w.heap.size A p.t.cases) (hS : SAt w w.heap.size SV p.a.sts) :
    Calls Tryz.prog 27 #[.agg (p.vs A kc SV ks)] w (RetBl p w) := by
  obtain ⟨w1, hw1, d0, d1, hs1, hB1⟩ := cboxes w (p.vs A kc SV ks) #[.int .i64 0, .int .i64 0, .int .i64 0, .slice none 0 0, .int .i64 0, .slice none 0 0, .int .i64 0, .int .i64 0, .slice none 0 0, .slice none 0 0] 29 36
  have hA1 := (hA.keep hB1).more hB1.size
  have hS1 := (hS.keep hB1).more hB1.size
  have HR := Lib.hid (right_any p hl A kc SV ks w1 hA1 hS1)
  have hAB := hA.keep hB1
  have hSB := hS.keep hB1
  have HBD := Lib.hid (fun (hf : FewX p) (X : World) (hX : Below w1.heap.size w1 X) => buildF_any p hf A kc SV ks X w.heap.size (Nat.le_trans hB1.size hX.size) (hAB.keep (hX.mono hB1.size)) (hSB.keep (hX.mono hB1.size)))
  have HRB := Lib.hid (fun h => right_built (p := p) h)
  have HLW := Lib.hid (fun (hf : FewX p) => built_low hl hf)
  have HVF := Lib.hid (fun (hs : LowS (builtE p)) (hf : FewX p) (A2 SV2 AV AX : Option Addr) (kc2 ks2 kv kx : Nat) (X : World) (hX : SyAt X X.heap.size A2 SV2 AV AX (builtE p)) => rver_any (builtE p) hs hf A2 SV2 AV AX kc2 ks2 kv kx X hX)
  have HX1 : Hid (rightB p = false → ∀ W, Below w.heap.size w W → RetBl p w (.returned (.tuple #[.agg #[.int .i64 0, .int .i64 0, .int .i64 0, .slice none 0 0, .int .i64 0, .slice none 0 0, .int .i64 0, .int .i64 0, .slice none 0 0, .slice none 0 0], .bool false, .bool true])) W) := fun h W hb => ⟨fun _ => rfl, fun h2 => (by rw [h] at h2; cases h2), hb⟩
  have HX2 : Hid (rightB p = true → ∀ A kc SV ks AV kv AX kx W, SyAt W W.heap.size A SV AV AX (builtE p) → (builtE p).vs.length ≤ kv → kv ≤ maxLen → Below w.heap.size w W → RetBl p w (.returned (.tuple #[.agg ((builtE p).vs_ A kc SV ks AV kv AX kx), .bool true, .bool true])) W) := fun h A kc SV ks AV kv AX kx W h1 h2 h3 hb => ⟨fun h4 => (by rw [h] at h4; cases h4), fun _ => ⟨A, kc, SV, ks, AV, kv, AX, kx, rfl, h1, h2, h3⟩, hb⟩
  obtain ⟨RB, hRB⟩ : ∃ RB, RetBl p w = RB := ⟨_, rfl⟩
  rw [hRB] at HX1 HX2 ⊢
  clear hRB
  unfold Pb.vs at hw1 d0 HR HBD ⊢
  have HW1 := Lib.hid hw1
  have HD0 := Lib.hid d0
  have HD1 := Lib.hid d1
  have HB1 := Lib.hid hB1
  have p0 := blk_cell d0 0 rfl
  have p1 := blk_cell d0 1 rfl
  have p2 := blk_cell d0 2 rfl
  have p3 := blk_cell d0 3 rfl
  have p4 := blk_cell d0 4 rfl
  have p5 := blk_cell d0 5 rfl
  have p6 := blk_cell d0 6 rfl
  obtain ⟨r, hr⟩ : ∃ r, rightB p = r := ⟨_, rfl⟩
  rw [hr] at HR HX1 HX2
  have HRR := Lib.hid hr
  clear hw1 d0 d1 hB1 hA hS hA1 hS1 hAB hSB hr hl
  go_enter Tryz.func27, Tryz.ntmps27
  go_wp2_with fail
  rw [HW1.out]
  go_wp2_with fail
  refine HR.out.mono ?_
  rintro e w2 ⟨rfl, hb2⟩
  have B2 := Lib.hid (HB1.out.trans (hb2.mono (by omega)))
  have G2 := Lib.hid hb2
  have hs2 := hb2.size
  have d0 := (hb2.block _ (blk_lt HD0.out)).trans HD0.out
  have d1 := (hb2.block _ (blk_lt HD1.out)).trans HD1.out
  clear hb2 HR HW1 p0 p1 p2 p3 p4 p5 p6
  cases r with
  | false =>
    clear HBD HRB HLW HVF HX2
    have y0 := blk_cell d1 0 rfl
    have f0 := blk_froz d1 0
    have y1 := blk_cell d1 1 rfl
    have f1 := blk_froz d1 1
    have y2 := blk_cell d1 2 rfl
    have f2 := blk_froz d1 2
    have y3 := blk_cell d1 3 rfl
    have f3 := blk_froz d1 3
    have y4 := blk_cell d1 4 rfl
    have f4 := blk_froz d1 4
    have y5 := blk_cell d1 5 rfl
    have f5 := blk_froz d1 5
    have y6 := blk_cell d1 6 rfl
    have f6 := blk_froz d1 6
    have y7 := blk_cell d1 7 rfl
    have f7 := blk_froz d1 7
    have y8 := blk_cell d1 8 rfl
    have f8 := blk_froz d1 8
    have y9 := blk_cell d1 9 rfl
    have f9 := blk_froz d1 9
    obtain ⟨k1, k2, k3⟩ := sys_store10 (.int .i64 0) (.int .i64 0) (.int .i64 0) (.slice none 0 0) (.int .i64 0) (.slice none 0 0) (.int .i64 0) (.int .i64 0) (.slice none 0 0) (.slice none 0 0) d1 B2.out (by omega : w.heap.size ≤ w.heap.size + 1)
    obtain ⟨WF, hWF⟩ : ∃ WF, ((((((((((w2.setCell ⟨w.heap.size + 1, 0, none⟩ (.int .i64 0)).setCell ⟨w.heap.size + 1, 1, none⟩ (.int .i64 0)).setCell ⟨w.heap.size + 1, 2, none⟩ (.int .i64 0)).setCell ⟨w.heap.size + 1, 3, none⟩ (.slice none 0 0)).setCell ⟨w.heap.size + 1, 4, none⟩ (.int .i64 0)).setCell ⟨w.heap.size + 1, 5, none⟩ (.slice none 0 0)).setCell ⟨w.heap.size + 1, 6, none⟩ (.int .i64 0)).setCell ⟨w.heap.size + 1, 7, none⟩ (.int .i64 0)).setCell ⟨w.heap.size + 1, 8, none⟩ (.slice none 0 0)).setCell ⟨w.heap.size + 1, 9, none⟩ (.slice none 0 0)) = WF := ⟨_, rfl⟩
    rw [hWF] at k1 k2 k3
    have HK1 := Lib.hid k1
    have HK2 := Lib.hid k2
    have HK3 := Lib.hid k3
    have HWF := Lib.hid hWF
    clear k1 k2 k3 hWF
    clear d0 d1
    go_wp2_with fail
    rw [HWF.out]
    have z0 := blk_cell HK1.out 0 rfl
    have z1 := blk_cell HK1.out 1 rfl
    have z2 := blk_cell HK1.out 2 rfl
    have z3 := blk_cell HK1.out 3 rfl
    have z4 := blk_cell HK1.out 4 rfl
    have z5 := blk_cell HK1.out 5 rfl
    have z6 := blk_cell HK1.out 6 rfl
    have z7 := blk_cell HK1.out 7 rfl
    have z8 := blk_cell HK1.out 8 rfl
    have z9 := blk_cell HK1.out 9 rfl
    refine bodyPost_ret (v := .tuple #[.agg #[.int .i64 0, .int .i64 0, .int .i64 0, .slice none 0 0, .int .i64 0, .slice none 0 0, .int .i64 0, .int .i64 0, .slice none 0 0, .slice none 0 0], .bool false, .bool true]) (by simp [results, Tryz.results27, go_sem, z0, z1, z2, z3, z4, z5, z6, z7, z8, z9]) rfl ?_
    exact HX1.out (by simp) _ HK2.out
  | true =>
  obtain ⟨hbE, hvE, hf, h0, h60, hn3, K, N, hF, hSe⟩ := HRB.out HRR.out
  have HB := Lib.hid (HBD.out hf w2 G2.out)
  have HVV := Lib.hid (HVF.out (by have := HLW.out hf; rw [hbE] at this; exact this) hf)
  have HFF := Lib.hid hF
  have HSS := Lib.hid hSe
  rw [hbE] at HB
  rw [hvE] at HVV
  have hpk : Hid (p.k = (K : Int)) := hF.k
  have hpn : Hid (p.t.n = (N : Int)) := hF.pn
  have hk6 := hF.k6
  have HN5 := Lib.hid hF.n5
  have hcs := Lib.hid hSe.cs
  have hwd := Lib.hid hF.word
  have hvw := Lib.hid hF.views
  have hlx := hF.lx
  have hlv := hF.lv
  have hlp : Hid ((builtE p).p.t.cases.length = p.t.cases.length) := rfl
  obtain ⟨T, hT⟩ : ∃ T, builtE p = T := ⟨_, rfl⟩
  have HX3 := Lib.hid (HX2.out (by simp))
  rw [hT] at HB HVV hcs hwd hvw hlx hlv hlp HX3
  have HPT : Hid (T.p = p) := by rw [← hT]; rfl
  clear HX1 HX2 HRB HBD HVF HLW hbE hvE hf h0 h60 hn3 hF hSe hT
  have p0 := blk_cell d0 0 rfl
  have p1 := blk_cell d0 1 rfl
  have p2 := blk_cell d0 2 rfl
  have p3 := blk_cell d0 3 rfl
  have p4 := blk_cell d0 4 rfl
  have p5 := blk_cell d0 5 rfl
  have p6 := blk_cell d0 6 rfl
  have HE0 := Lib.hid d0
  have HE1 := Lib.hid d1
  have HLTW : Hid (w.heap.size + 1 < w2.heap.size) := blk_lt d1
  clear d0 d1
  go_wp2_with fail
  refine HB.out.mono ?_
  rintro e w3 ⟨A2, kc2, SV2, ks2, AV, kv, AX, kx, rfl, hS3F, hv1, hv2, hb3⟩
  have hS3 := hS3F w3 (Nat.le_refl _) (fun _ _ _ => rfl)
  have HSF := Lib.hid hS3F
  clear hS3F
  have B3 := Lib.hid (B2.out.trans (hb3.mono (by omega)))
  have hs3 := hb3.size
  have HV1 := Lib.hid hv1
  have HV2 := Lib.hid hv2
  have HF0 := Lib.hid ((hb3.block _ (blk_lt HE0.out)).trans HE0.out)
  have HF1 := Lib.hid ((hb3.block _ (blk_lt HE1.out)).trans HE1.out)
  obtain ⟨W3, hW3, b3, hz3, hB3⟩ := onebox w3 (T.vs_ A2 kc2 SV2 ks2 AV kv AX kx) 36
  have HS3 := Lib.hid (hS3.up hB3)
  have HC3 := Lib.hid (B3.out.trans (hB3.mono B3.out.size))
  have HB33 := Lib.hid hB3
  have e0 := (hB3.block _ (by have := blk_lt HF0.out; omega)).trans HF0.out
  have e1 := (hB3.block _ (by have := blk_lt HF1.out; omega)).trans HF1.out
  have HVX := Lib.hid (HVV.out A2 SV2 AV AX kc2 ks2 kv kx W3 HS3.out)
  unfold Sy.vs_ at hW3 b3 HVX ⊢
  have HW3 := Lib.hid hW3
  have HD3 := Lib.hid b3
  have HG0 := Lib.hid e0
  have HG1 := Lib.hid e1
  clear hb3 hS3 hW3 hB3 hv1 hv2 HB HF0 HF1 HE0 HE1 p0 p1 p2 p3 p4 p5 p6 e0 e1
  go_wp2_with fail
  rw [HW3.out]
  refine HVX.out.mono ?_
  rintro e w4 ⟨rfl, hb4⟩
  have HC4 := Lib.hid (HC3.out.trans (hb4.mono HC3.out.size))
  have HS4 := Lib.hid (HS3.out.up hb4)
  have HD4 := Lib.hid ((hb4.block _ (blk_lt HD3.out)).trans HD3.out)
  have HG04 := Lib.hid ((hb4.block _ (blk_lt HG0.out)).trans HG0.out)
  have HG14 := Lib.hid ((hb4.block _ (blk_lt HG1.out)).trans HG1.out)
  have d4 := HD4.out
  have x2 := blk_cell d4 9 rfl
  have hs4 := hb4.size
  have HLT : Hid (w.heap.size + 1 < w3.heap.size) := by show _ < _; have := HLTW.out; omega
  have HLT2 : Hid (w.heap.size + 1 < w2.heap.size) := HLTW
  have HBLK : Hid (∀ k, k < w3.heap.size → w4.heap[k]? = w3.heap[k]?) := fun k hk => (hb4.block k (by have := HB33.out.size; omega)).trans (HB33.out.block k hk)
  clear hb4 HVX HC3 HS3 HD3 HG0 HG1 d4 HVV
  go_wp2_with fail
  go_loopw [31] (fun i wr => ∃ k : Nat, k ≤ T.xs.length ∧ i = .int .i64 (k : Int) ∧ Hid (Below w4.heap.size w4 wr)) (fun i _ => T.xs.length - (intOf i).toNat)
  case atStart => exact ⟨0, by omega, rfl, Below.refl _ _⟩
  case round =>
    obtain ⟨k, hk, rfl, hb⟩ := hrel
    have hw0 : w.heap.size + 1 < w4.heap.size := blk_lt HG14.out
    have hw3 : w3.heap.size < w4.heap.size := blk_lt HD4.out
    have hw3' : w.heap.size + 1 < w3.heap.size := HLT.out
    have e0 := (hb.out.block _ (by omega)).trans HG04.out
    have e1 := (hb.out.block _ (by omega)).trans HG14.out
    have e5 := (hb.out.block _ (by omega)).trans HD4.out
    by_cases hlt : k < T.xs.length
    case neg =>
      obtain rfl : k = T.xs.length := by omega
      have y0 := blk_cell e1 0 rfl
      have f0 := blk_froz e1 0
      have y1 := blk_cell e1 1 rfl
      have f1 := blk_froz e1 1
      have y2 := blk_cell e1 2 rfl
      have f2 := blk_froz e1 2
      have y3 := blk_cell e1 3 rfl
      have f3 := blk_froz e1 3
      have y4 := blk_cell e1 4 rfl
      have f4 := blk_froz e1 4
      have y5 := blk_cell e1 5 rfl
      have f5 := blk_froz e1 5
      have y6 := blk_cell e1 6 rfl
      have f6 := blk_froz e1 6
      have y7 := blk_cell e1 7 rfl
      have f7 := blk_froz e1 7
      have y8 := blk_cell e1 8 rfl
      have f8 := blk_froz e1 8
      have y9 := blk_cell e1 9 rfl
      have f9 := blk_froz e1 9
      have z0' := blk_cell e5 0 rfl
      have z1' := blk_cell e5 1 rfl
      have z2' := blk_cell e5 2 rfl
      have z3' := blk_cell e5 3 rfl
      have z4' := blk_cell e5 4 rfl
      have z5' := blk_cell e5 5 rfl
      have z6' := blk_cell e5 6 rfl
      have z7' := blk_cell e5 7 rfl
      have z8' := blk_cell e5 8 rfl
      have z9' := blk_cell e5 9 rfl
      obtain ⟨k1, k2, k3⟩ := sys_store10 (.int .i64 T.p.t.n) (.int .i64 T.p.t.ins) (.int .i64 T.p.t.outs) (.slice A2 T.p.t.cases.length kc2) (.int .i64 T.p.a.n) (.slice SV2 T.p.a.sts.length ks2) (.int .i64 T.p.k) (.int .i64 T.n) (.slice AV T.vs.length kv) (.slice AX T.xs.length kx) e1 (HC4.out.trans (hb.out.mono HC4.out.size)) (by omega : w.heap.size ≤ w.heap.size + 1)
      obtain ⟨WF, hWF⟩ : ∃ WF, ((((((((((wr.setCell ⟨w.heap.size + 1, 0, none⟩ (.int .i64 T.p.t.n)).setCell ⟨w.heap.size + 1, 1, none⟩ (.int .i64 T.p.t.ins)).setCell ⟨w.heap.size + 1, 2, none⟩ (.int .i64 T.p.t.outs)).setCell ⟨w.heap.size + 1, 3, none⟩ (.slice A2 T.p.t.cases.length kc2)).setCell ⟨w.heap.size + 1, 4, none⟩ (.int .i64 T.p.a.n)).setCell ⟨w.heap.size + 1, 5, none⟩ (.slice SV2 T.p.a.sts.length ks2)).setCell ⟨w.heap.size + 1, 6, none⟩ (.int .i64 T.p.k)).setCell ⟨w.heap.size + 1, 7, none⟩ (.int .i64 T.n)).setCell ⟨w.heap.size + 1, 8, none⟩ (.slice AV T.vs.length kv)).setCell ⟨w.heap.size + 1, 9, none⟩ (.slice AX T.xs.length kx)) = WF := ⟨_, rfl⟩
      rw [hWF] at k1 k2 k3
      have HK1 := Lib.hid k1
      have HK2 := Lib.hid k2
      have HK3 := Lib.hid k3
      have HWF := Lib.hid hWF
      have hz2 := HLT2.out
      have hz4 := hb.out.size
      have hsame : ∀ k, (k < w.heap.size ∨ w2.heap.size ≤ k) → k < w3.heap.size → WF.heap[k]? = w3.heap[k]? := fun k h1 h2 => (HK3.out.2.1 k (by omega)).trans ((hb.out.block k (by omega)).trans (HBLK.out k h2))
      have hzF : w3.heap.size ≤ WF.heap.size := by have := HK3.out.2.2; omega
      clear k1 k2 k3 hWF e1 e5 e0
      go_wp2_with fail
      rw [HWF.out]
      have z0 := blk_cell HK1.out 0 rfl
      have z1 := blk_cell HK1.out 1 rfl
      have z2 := blk_cell HK1.out 2 rfl
      have z3 := blk_cell HK1.out 3 rfl
      have z4 := blk_cell HK1.out 4 rfl
      have z5 := blk_cell HK1.out 5 rfl
      have z6 := blk_cell HK1.out 6 rfl
      have z7 := blk_cell HK1.out 7 rfl
      have z8 := blk_cell HK1.out 8 rfl
      have z9 := blk_cell HK1.out 9 rfl
      refine bodyPost_ret (v := .tuple #[.agg #[.int .i64 T.p.t.n, .int .i64 T.p.t.ins, .int .i64 T.p.t.outs, .slice A2 T.p.t.cases.length kc2, .int .i64 T.p.a.n, .slice SV2 T.p.a.sts.length ks2, .int .i64 T.p.k, .int .i64 T.n, .slice AV T.vs.length kv, .slice AX T.xs.length kx], .bool true, .bool true]) (by simp [results, Tryz.results27, go_sem, z0, z1, z2, z3, z4, z5, z6, z7, z8, z9]) rfl ?_
      exact HX3.out A2 kc2 SV2 ks2 AV kv AX kx WF (HSF.out WF hzF hsame) HV1.out HV2.out HK2.out
    case pos =>
    obtain ⟨bx, ox, A1, c1, B2, c2, eX, hbx, x0, x1, x2', hRw, hLv⟩ := (HS4.out.fx.keep hb.out).row k hlt
    subst eX
    have hxm := List.getElem_mem hlt
    obtain ⟨cN, hcN, hcl, _⟩ := hcs.out _ hxm
    obtain ⟨hwl, _⟩ := hwd.out _ hxm
    obtain ⟨hvl, hvr⟩ := hvw.out _ hxm
    rw [hlp.out] at hcl
    have HCL := Lib.hid hcl
    obtain ⟨x, hx⟩ : ∃ x, T.xs[k] = x := ⟨_, rfl⟩
    rw [hx] at x0 x1 x2' hcN hwl hvl hvr hLv
    rw [hcN] at x0
    rw [hwl] at x1
    rw [hvl] at x2'
    obtain ⟨W5, hW5, b5, hz5, hB5⟩ := onebox wr #[.int .i64 (cN : Int), .slice A1 K c1, .slice B2 (K + 1) c2] 42
    have HC5 := Lib.hid (hb.out.trans (hB5.mono hb.out.size))
    have HL5 := Lib.hid (((hLv.more (by have := hb.out.size; omega : w4.heap.size ≤ wr.heap.size)).keep hB5).more hB5.size)
    have d0 := (hB5.block _ (by have := hb.out.size; omega)).trans e0
    have d5 := (hB5.block _ (by have := hb.out.size; omega)).trans e5
    have p0 := blk_cell d0 0 rfl
    have p3 := blk_cell d0 3 rfl
    have p6 := blk_cell d0 6 rfl
    rw [hpn.out] at p0
    rw [hpk.out] at p6
    have g0 := blk_cell b5 0 rfl
    have g1 := blk_cell b5 1 rfl
    have g2 := blk_cell b5 2 rfl
    have r0 := blk_cell e0 0 rfl
    have r3 := blk_cell e0 3 rfl
    have r6 := blk_cell e0 6 rfl
    rw [hpn.out] at r0
    rw [hpk.out] at r6
    have hl0 : w.heap.size < wr.heap.size := by have := hb.out.size; omega
    have HW5 := Lib.hid hW5
    have HD0 := Lib.hid d0
    have HD5 := Lib.hid d5
    have HVR := Lib.hid hvr
    have HVL := Lib.hid hvl
    have hk0 : (0 : Int) ≤ (k : Int) := by omega
    have hk1 : (k : Int) < (T.xs.length : Int) := by omega
    have hc0 : ¬ ((cN : Int) < 0) := by omega
    have hc1 : ¬ ((p.t.cases.length : Int) ≤ (cN : Int)) := by have := HCL.out; omega
    have hKw : IntKind.i64.wrap ((K : Int) + 1) = ((K + 1 : Nat) : Int) := by rw [IntKind.wrap_i64]; omega
    clear hW5 b5 hB5 hLv hRw hx hcN hcl hwl hvl hvr hxm d0 d5 e0 e1 e5
    go_wp2_with fail
    rw [HW5.out]
    go_wp2_with fail
    clear g0 g1 p0 p3 p6 r0 r3 r6 x0 x1 x2' HW5
    go_loopw [68] (fun i wx => ∃ j : Nat, j ≤ K + 1 ∧ i = .int .i64 (j : Int) ∧ Hid (Below W5.heap.size W5 wx)) (fun i _ => K + 1 - (intOf i).toNat)
    case atStart => exact ⟨0, by omega, by simp, Below.refl _ _⟩
    case round =>
      obtain ⟨j, hj, rfl, hbx⟩ := hrel
      have HB6 := Lib.hid (HC5.out.trans (hbx.out.mono HC5.out.size))
      by_cases hjl : j < K + 1
      case neg =>
        obtain rfl : j = K + 1 := by omega
        go_wp2_with fail
        go_roundw
        case rel => exact ⟨k + 1, by omega, by go_num, HB6⟩
        case measure => simp [intOf]; omega
      case pos =>
        obtain ⟨bl, ol, A3, c3, eL, hbl, y1, hI⟩ := (HL5.out.keep hbx.out).at_ j (by have := HVL.out; omega)
        subst eL
        have hjv : j < x.views.length := by have := HVL.out; omega
        obtain ⟨hrl, hri⟩ := HVR.out _ (List.getElem_mem hjv)
        obtain ⟨row, hrw⟩ : ∃ row, x.views[j] = row := ⟨_, rfl⟩
        rw [hrw] at y1 hI hrl hri
        have e0 := (hbx.out.block _ (blk_lt HD0.out)).trans HD0.out
        have e5 := (hbx.out.block _ (blk_lt HD5.out)).trans HD5.out
        have p0 := blk_cell e0 0 rfl
        rw [hpn.out] at p0
        have HCT := Lib.hid (fun c0 c1 c2 c3' c4 c5 c6 c7 c9 (h : wr.heap[w3.heap.size]? = some (.cells #[c0, c1, c2, c3', c4, c5, c6, c7, .slice AV T.vs.length kv, c9] 36 (0, 0))) => bldcont_any A3 c3 row T.vs.length kv AV c0 c1 c2 c3' c4 c5 c6 c7 c9 w3.heap.size (by have := HN5.out; omega) wr (hI.more hbx.out.size) h)
        have HCT' := Lib.hid (HCT.out _ _ _ _ _ _ _ _ _ e5)
        rw [any_out hri] at HCT'
        rw [hrl] at y1 HCT'
        have hj0 : (0 : Int) ≤ (j : Int) := by omega
        have hj1 : (j : Int) < ((K + 1 : Nat) : Int) := by omega
        clear HCT hrl hri hI e0 e5 hrw
        go_wp2_with fail
        refine HCT'.out.mono ?_
        rintro e w7 ⟨rfl, n, rfl⟩
        have HB7 := Lib.hid (belN hbx.out n)
        clear HCT'
        go_wp2_with fail
        go_roundw
        case rel => exact ⟨j + 1, by omega, by go_num, HB7⟩
        case measure => simp [intOf]; omega
end Go.Proofs.YtnikmmdadflefaaGreatDoor
namespace Go.Proofs.YtnikmmdadflefaaGreatDoor
open Go.RowKit
attribute [local go_sem] Oper.semAt_some
def eqW (x y : Exn) (k : Nat) (m m' : Nat) (j : Nat) : Bool := decide (m = m') && (List.range j).all fun i => !m.testBit i || decide (xw x k i = xw y k i)
theorem eqW_succ (x y : Exn) (k m m' j : Nat) : eqW x y k m m' (j + 1) = (eqW x y k m m' j && (!m.testBit j || decide (xw x k j = xw y k j))) := by
  unfold eqW; rw [List.range_succ, List.all_append, Bool.and_assoc]; simp
theorem eqW_law {s : Sy} {K N : Nat} (hF : Fine s K N) (h : Sees s K N) {x y : Exn} (hx : x ∈ s.xs) (hy : y ∈ s.xs) {k q : Nat} (hk : k < K) (hq : q < N) {m m' : Nat} (hm : (x.word.getD k default).h q = (m : Int)) (hm' : (y.word.getD k default).h q = (m' : Int)) :
    decide (xw x (k + 1) q = xw y (k + 1) q) = eqW x y k m m' N := by
  have h1 := same_later hF h hx hy hk hq
  rw [hm, hm', Int.toNat_natCast] at h1
  rw [Bool.eq_iff_iff, decide_eq_true_eq, h1]
  unfold eqW
  rw [Bool.and_eq_true, decide_eq_true_eq, List.all_eq_true]
  constructor
  · rintro ⟨e, g⟩
    refine ⟨by omega, fun i hi => ?_⟩
    by_cases hb : m.testBit i = true
    · rw [decide_eq_true (g i (by simpa using hi) hb)]; simp
    · have hb2 : m.testBit i = false := by simpa using hb
      rw [hb2]; rfl
  · rintro ⟨e, g⟩
    refine ⟨by omega, fun i hi hb => ?_⟩
    have := g i (by simpa using hi)
    rw [hb] at this
    simpa using this
theorem getD_getX {α : Type} {l : List α} {i : Nat} (h : i < l.length) {d : α} : l.getD i d = l[i] := by
  rw [List.getD_eq_getElem?_getD, List.getElem?_eq_getElem h]; rfl
def TwoXs (w0 : World) (c1 c2 : Array Value) (s t : Value) (wx : World) : Prop :=
  ∃ g h : Nat, s = .pointer (some ⟨g, 0, none⟩) ∧ t = .pointer (some ⟨h, 0, none⟩) ∧ wx.heap[g]? = some (.cells c1 42 (0, 0)) ∧ wx.heap[h]? = some (.cells c2 42 (0, 0)) ∧ Below w0.heap.size w0 wx
theorem two_at (W : World) (o1 o2 : Obj) {m : Nat} (hm : W.heap.size = m) : ((W.alloc o1).alloc o2).heap[m]? = some o1 ∧ ((W.alloc o1).alloc o2).heap[m + 1]? = some o2 := by
  subst hm; exact ⟨blk_old (blk_new W o1) o2, by have := blk_new (W.alloc o1) o2; rwa [World.size_alloc] at this⟩
theorem row_xw {W : World} {B : Nat} {A : Option Addr} {x : Exn} (hL : LAt W B A x.views) {k q N : Nat} (hk : k < x.views.length) (hq : q < N) (hr : (x.views[k]).length = N) :
    ∃ b o B1 c b1 o1, A = some ⟨b, o, none⟩ ∧ b < B ∧ W.cell? ⟨b, o + k, none⟩ = some (.slice B1 N c) ∧ B1 = some ⟨b1, o1, none⟩ ∧ b1 < B ∧ W.cell? ⟨b1, o1 + q, none⟩ = some (.int .i64 (xw x k q)) := by
  obtain ⟨b, o, B1, c, e, hb, h1, h2⟩ := hL.at_ k hk
  obtain ⟨b1, o1, e1, hb1, h3⟩ := h2.at_ q (by omega)
  rw [hr] at h1
  refine ⟨b, o, B1, c, b1, o1, e, hb, h1, e1, hb1, ?_⟩
  rw [h3]
  unfold xw
  rw [getD_getX hk, getD_getX (by omega)]
theorem rd_h (r : Rd) {q : Nat} (hq : q < 5) : r.cells[1 + q]? = some (.int .i64 (r.h q)) := by
  match q, hq with
  | 0, _ => rfl
  | 1, _ => rfl
  | 2, _ => rfl
  | 3, _ => rfl
  | 4, _ => rfl
theorem word_h {W : World} {B : Nat} {A : Option Addr} {rs : List Rd} (hR : RAt W B A rs) {j q : Nat} (hj : j < rs.length) (hq : q < 5) : ∃ b o, A = some ⟨b, o, none⟩ ∧ b < B ∧ W.cell? ⟨b, o + j * 7 + 1 + q, none⟩ = some (.int .i64 ((rs.getD j default).h q)) := by
  obtain ⟨b, o, e, hb, h⟩ := hR (by omega)
  refine ⟨b, o, e, hb, ?_⟩
  have := h j hj (1 + q) _ (rd_h rs[j] hq)
  rw [getD_getX hj]
  rw [show o + j * 7 + 1 + q = o + j * 7 + (1 + q) by omega]; exact this
theorem case_in {W : World} {B : Nat} {A : Option Addr} {cs : List Cs} (hC : CAt W B A cs) {c q : Nat} (hc : c < cs.length) (hq : q < (cs[c]).inp.length) : ∃ b o B1 k b1 o1, A = some ⟨b, o, none⟩ ∧ b < B ∧ W.cell? ⟨b, o + c * 3, none⟩ = some (.slice B1 (cs[c]).inp.length k) ∧ B1 = some ⟨b1, o1, none⟩ ∧ b1 < B ∧ W.cell? ⟨b1, o1 + q, none⟩ = some (.int .i64 ((cs.getD c default).inp.getD q 0)) := by
  obtain ⟨b, o, A0, c0, A1, c1, A2, c2, e, hb, h1, _, _, h2, _, _⟩ := hC.row c hc
  obtain ⟨b1, o1, e1, hb1, h3⟩ := h2.at_ q hq
  refine ⟨b, o, A0, c0, b1, o1, e, hb, h1, e1, hb1, ?_⟩
  rw [h3, getD_getX hc, getD_getX hq]
theorem rem_nat {a L : Nat} : Int.tmod (a : Int) (L : Int) = ((a % L : Nat) : Int) := by
  rw [Int.tmod_eq_emod_of_nonneg (by omega)]; omega
set_option maxRecDepth 100000 in
set_option maxHeartbeats 2000000 in
theorem law_determines (p : Pb) (hl : LowP p) (A : Option Addr) (kc : Nat) (SV : Option Addr) (ks : Nat) (z0 z1 : Nat) (hz0 : z0 < 256) (hz1 : z1 < 256) (w : World) (hA : CAt w w.heap.size A p.t.cases) (hS : SAt w w.heap.size SV p.a.sts) :
    Calls Tryz.prog 6 #[.agg (p.vs A kc SV ks), .agg #[.int .u8 (z0 : Int), .int .u8 (z1 : Int)]] w fun e w' => e = .returned (.bool true) ∧ Below w.heap.size w w' := by
  obtain ⟨w1, hw1, d0, d1, hs1, hB1⟩ := cboxes w (p.vs A kc SV ks) #[.int .u8 (z0 : Int), .int .u8 (z1 : Int)] 29 69
  have hA1 := (hA.keep hB1).more hB1.size
  have hS1 := (hS.keep hB1).more hB1.size
  have HBL := Lib.hid (bld_any p hl A kc SV ks w1 hA1 hS1)
  have HRB := Lib.hid (fun h => right_built (p := p) h)
  have HAA := Lib.hid hA1
  obtain ⟨r, hr⟩ : ∃ r, rightB p = r := ⟨_, rfl⟩
  unfold RetBl at HBL
  rw [hr] at HBL
  have HRR := Lib.hid hr
  unfold Pb.vs at hw1 d0 HBL ⊢
  have HW1 := Lib.hid hw1
  have HD0 := Lib.hid d0
  have HD1 := Lib.hid d1
  have HB1 := Lib.hid hB1
  have p0 := blk_cell d0 0 rfl
  have p1 := blk_cell d0 1 rfl
  have p2 := blk_cell d0 2 rfl
  have p3 := blk_cell d0 3 rfl
  have p4 := blk_cell d0 4 rfl
  have p5 := blk_cell d0 5 rfl
  have p6 := blk_cell d0 6 rfl
  clear hw1 d0 d1 hB1 hA hS hA1 hS1 hr hl
  go_enter Tryz.func6, Tryz.ntmps6
  go_wp2_with fail
  rw [HW1.out]
  go_wp2_with fail
  refine HBL.out.mono ?_
  rintro e w2 ⟨h1, h2, hb2⟩
  have B2 := Lib.hid (HB1.out.trans (hb2.mono (by omega)))
  have hs2 := hb2.size
  have HE0 := Lib.hid ((hb2.block _ (blk_lt HD0.out)).trans HD0.out)
  have HE1 := Lib.hid ((hb2.block _ (blk_lt HD1.out)).trans HD1.out)
  have HA2 := Lib.hid ((HAA.out.keep hb2).more hb2.size)
  clear HBL HW1 p0 p1 p2 p3 p4 p5 p6 hb2
  cases r with
  | false =>
    obtain rfl := h1 rfl
    clear h1 h2 HRB
    go_wp2_with fail
    refine (awake_any _).mono ?_
    rintro e w3 ⟨rfl, hb3⟩
    have B3 := Lib.hid (B2.out.trans (((bel1 w2 _).trans (hb3.mono (by simp))).mono B2.out.size))
    clear hb3
    go_wp2_with fail
    go_ret
    exact ⟨rfl, B3.out⟩
  | true =>
  obtain ⟨A2, kc2, SV2, ks2, AV, kv, AX, kx, rfl, hS2, hv1, hv2⟩ := h2 rfl
  obtain ⟨hbE, hvE, hf, h0, h60, hn3, K, N, hF, hSe⟩ := HRB.out HRR.out
  have HFF := Lib.hid hF
  have HSS := Lib.hid hSe
  have hpk : Hid (p.k = (K : Int)) := hF.k
  have hpn : Hid (p.t.n = (N : Int)) := hF.pn
  have hk6 := hF.k6
  have hn5 := hF.n5
  have hlx := hF.lx
  have HCL := Lib.hid (task_inp (prob_fine h0).1)
  have hpT : Hid ((builtE p).p = p) := rfl
  obtain ⟨T, hT⟩ : ∃ T, builtE p = T := ⟨_, rfl⟩
  rw [hT] at HFF HSS hlx hS2 hpT ⊢
  obtain ⟨W3, hW3, b3, hz3, hB3⟩ := onebox w2 (T.vs_ A2 kc2 SV2 ks2 AV kv AX kx) 36
  have HS3 := Lib.hid (hS2.up hB3)
  have HC3 := Lib.hid (B2.out.trans (hB3.mono B2.out.size))
  have HG0 := Lib.hid ((hB3.block _ (blk_lt HE0.out)).trans HE0.out)
  have HG1 := Lib.hid ((hB3.block _ (blk_lt HE1.out)).trans HE1.out)
  have HA3 := Lib.hid ((HA2.out.keep hB3).more hB3.size)
  have hl3 : w.heap.size + 1 < w2.heap.size := blk_lt HE1.out
  unfold Sy.vs_ at hW3 b3 ⊢
  have HW3 := Lib.hid hW3
  have HD3 := Lib.hid b3
  have x9 : W3.cell? ⟨w2.heap.size, 9, none⟩ = some (.slice AX T.xs.length kx) := blk_cell b3 9 rfl
  clear h1 h2 hS2 hv1 hv2 hW3 hB3 b3 hbE hvE hf h0 h60 hn3 hF hSe hT HRB HA2
  by_cases hxl : T.xs.length = 0
  case pos =>
    have e0 : ((T.xs.length : Int) == 0) = true := by simp [hxl]
    clear hxl
    go_wp2_with fail
    rw [HW3.out]
    go_wp2_with fail
    refine (awake_any _).mono ?_
    rintro e w4 ⟨rfl, hb4⟩
    have B4 := Lib.hid (HC3.out.trans (hb4.mono HC3.out.size))
    clear hb4
    go_wp2_with fail
    go_ret
    exact ⟨rfl, B4.out⟩
  case neg =>
  have e0 : ((T.xs.length : Int) == 0) = false := by rw [beq_eq_false_iff_ne]; omega
  obtain ⟨ka, hka⟩ : ∃ ka, z0 % T.xs.length = ka := ⟨_, rfl⟩
  obtain ⟨kb, hkb⟩ : ∃ kb, z1 % T.xs.length = kb := ⟨_, rfl⟩
  have hkal : ka < T.xs.length := by rw [← hka]; exact Nat.mod_lt _ (by omega)
  have hkbl : kb < T.xs.length := by rw [← hkb]; exact Nat.mod_lt _ (by omega)
  have hr0 : Int.tmod (z0 : Int) (T.xs.length : Int) = (ka : Int) := by rw [rem_nat, hka]
  have hr1 : Int.tmod (z1 : Int) (T.xs.length : Int) = (kb : Int) := by rw [rem_nat, hkb]
  obtain ⟨bx, ox, A1, c1, B1, c2, eX, hbx, a0, a1, a2, hRw, hLv⟩ := HS3.out.fx.row ka hkal
  obtain ⟨bx', ox', A3, c3, B3, c4, eX', hbx', b0, b1, b2, hRw', hLv'⟩ := HS3.out.fx.row kb hkbl
  subst eX
  cases eX'
  have hxm := List.getElem_mem hkal
  have hym := List.getElem_mem hkbl
  obtain ⟨x, hx⟩ : ∃ x, T.xs[ka] = x := ⟨_, rfl⟩
  obtain ⟨y, hy⟩ : ∃ y, T.xs[kb] = y := ⟨_, rfl⟩
  rw [hx] at a0 a1 a2 hRw hLv hxm
  rw [hy] at b0 b1 b2 hRw' hLv' hym
  have HRX := Lib.hid hRw
  have HLX := Lib.hid hLv
  have HRY := Lib.hid hRw'
  have HLY := Lib.hid hLv'
  have HXM := Lib.hid hxm
  have HYM := Lib.hid hym
  have ga0 : (0 : Int) ≤ (ka : Int) := by omega
  have ga1 : (ka : Int) < (T.xs.length : Int) := by omega
  have gb0 : (0 : Int) ≤ (kb : Int) := by omega
  have gb1 : (kb : Int) < (T.xs.length : Int) := by omega
  have hL0 : ¬ ((T.xs.length : Int) = 0) := by omega
  have hL1 : ¬ T.xs.length = 0 := hxl
  have hL2 : ¬ T.xs = [] := fun e => hxl (by rw [e]; rfl)
  have wa : IntKind.i64.wrap (ka : Int) = (ka : Int) := by rw [IntKind.wrap_i64]; omega
  have wb : IntKind.i64.wrap (kb : Int) = (kb : Int) := by rw [IntKind.wrap_i64]; omega
  have wz0 : IntKind.i64.wrap (z0 : Int) = (z0 : Int) := by rw [IntKind.wrap_i64]; omega
  have wz1 : IntKind.i64.wrap (z1 : Int) = (z1 : Int) := by rw [IntKind.wrap_i64]; omega
  have u0 := blk_cell HG1.out 0 rfl
  have u1 := blk_cell HG1.out 1 rfl
  have hl4 : w.heap.size + 1 < W3.heap.size := by omega
  have hl5 : w2.heap.size < W3.heap.size := by omega
  have x9 : W3.cell? ⟨w2.heap.size, 9, none⟩ = some (.slice (some ⟨bx, ox, none⟩) T.xs.length kx) := x9
  have HKP : Hid (∀ W, Below W3.heap.size W3 W → W.cell? ⟨w2.heap.size, 9, none⟩ = some (.slice (some ⟨bx, ox, none⟩) T.xs.length kx) ∧ W.cell? ⟨w.heap.size + 1, 0, none⟩ = some (.int .u8 (z0 : Int)) ∧ W.cell? ⟨w.heap.size + 1, 1, none⟩ = some (.int .u8 (z1 : Int)) ∧ W.cell? ⟨bx, ox + ka * 3, none⟩ = some (.int .i64 x.c) ∧ W.cell? ⟨bx, ox + ka * 3 + 1, none⟩ = some (.slice A1 x.word.length c1) ∧ W.cell? ⟨bx, ox + ka * 3 + 2, none⟩ = some (.slice B1 x.views.length c2) ∧ W.cell? ⟨bx, ox + kb * 3, none⟩ = some (.int .i64 y.c) ∧ W.cell? ⟨bx, ox + kb * 3 + 1, none⟩ = some (.slice A3 y.word.length c3) ∧ W.cell? ⟨bx, ox + kb * 3 + 2, none⟩ = some (.slice B3 y.views.length c4)) := fun W hW =>
    ⟨(hW.cell (p := ⟨_, _, none⟩) hl5).trans x9, (hW.cell (p := ⟨_, _, none⟩) hl4).trans u0, (hW.cell (p := ⟨_, _, none⟩) hl4).trans u1, (hW.cell (p := ⟨_, _, none⟩) hbx).trans a0, (hW.cell (p := ⟨_, _, none⟩) hbx).trans a1, (hW.cell (p := ⟨_, _, none⟩) hbx).trans a2, (hW.cell (p := ⟨_, _, none⟩) hbx).trans b0, (hW.cell (p := ⟨_, _, none⟩) hbx).trans b1, (hW.cell (p := ⟨_, _, none⟩) hbx).trans b2⟩
  clear hRw hLv hRw' hLv' hxm hym hx hy hka hkb hkal hkbl hxl
  go_wp2_with fail
  rw [HW3.out]
  go_wp2_with fail
  go_cut [8, 9] (fun s8 s9 wx => TwoXs W3 #[.int .i64 x.c, .slice A1 x.word.length c1, .slice B1 x.views.length c2] #[.int .i64 y.c, .slice A3 y.word.length c3, .slice B3 y.views.length c4] s8 s9 wx)
  case first =>
    go_region_held3 (fun W => W.cell? ⟨w2.heap.size, 9, none⟩ = some (.slice (some ⟨bx, ox, none⟩) T.xs.length kx) ∧ W.cell? ⟨w.heap.size + 1, 0, none⟩ = some (.int .u8 (z0 : Int)) ∧ W.cell? ⟨w.heap.size + 1, 1, none⟩ = some (.int .u8 (z1 : Int)) ∧ W.cell? ⟨bx, ox + ka * 3, none⟩ = some (.int .i64 x.c) ∧ W.cell? ⟨bx, ox + ka * 3 + 1, none⟩ = some (.slice A1 x.word.length c1) ∧ W.cell? ⟨bx, ox + ka * 3 + 2, none⟩ = some (.slice B1 x.views.length c2) ∧ W.cell? ⟨bx, ox + kb * 3, none⟩ = some (.int .i64 y.c) ∧ W.cell? ⟨bx, ox + kb * 3 + 1, none⟩ = some (.slice A3 y.word.length c3) ∧ W.cell? ⟨bx, ox + kb * 3 + 2, none⟩ = some (.slice B3 y.views.length c4))
      (first | exact ⟨x9, u0, u1, a0, a1, a2, b0, b1, b2⟩ | exact HKP.out _ (by first | exact (bel1 W3 _).drew | exact bel1 W3 _ | exact (bel2 W3 _ _).drew | exact bel2 W3 _ _))
      (fail)
    all_goals
      go_wp2_with fail
      go_meet
    · exact ⟨_, _, rfl, rfl, (two_at W3 _ _ hz3).1, (two_at W3 _ _ hz3).2, by first | exact bel2 W3 _ _ | exact (bel2 W3 _ _).drew⟩
    · exact ⟨_, _, rfl, rfl, (two_at W3 _ _ hz3).2, (two_at W3 _ _ hz3).1, by first | exact bel2 W3 _ _ | exact (bel2 W3 _ _).drew⟩
  case rest =>
    obtain ⟨g, h, rfl, rfl, G, H, hbz⟩ := hcut
    have HG := Lib.hid G
    have HH := Lib.hid H
    have HZ := Lib.hid (HC3.out.trans (hbz.mono HC3.out.size))
    have HB3 := Lib.hid hbz
    have P0 := Lib.hid ((hbz.block _ (blk_lt HG0.out)).trans HG0.out)
    have HLC := Lib.hid HCL.out
    have p6 := blk_cell P0.out 6 rfl
    rw [hpk.out] at p6
    have hKw : IntKind.i64.wrap ((K : Int) + 1) = ((K + 1 : Nat) : Int) := by rw [IntKind.wrap_i64]; omega
    clear G H hbz HKP x9 u0 u1 a0 a1 a2 b0 b1 b2 HW3 HG1 HE0 HE1 hr0 hr1 hL0 hL1 hL2 wa wb wz0 wz1 ga0 ga1 gb0 gb1
    go_wp2_with fail
    clear p6
    go_loopw [68] (fun i wr => ∃ k : Nat, k ≤ K + 1 ∧ i = .int .i64 (k : Int) ∧ Hid (Below wc.heap.size wc wr)) (fun i _ => K + 1 - (intOf i).toNat)
    case atStart => exact ⟨0, by omega, by simp, Below.refl _ _⟩
    case round =>
      obtain ⟨k, hk, rfl, hb⟩ := hrel
      by_cases hlt : k < K + 1
      case neg =>
        obtain rfl : k = K + 1 := by omega
        go_wp2_with fail
        refine (awake_any wr).mono ?_
        rintro e wz ⟨rfl, hbz⟩
        have BZ := Lib.hid (HZ.out.trans ((hb.out.trans (hbz.mono hb.out.size)).mono HZ.out.size))
        clear hbz
        go_wp2_with fail
        go_ret
        exact ⟨rfl, BZ.out⟩
      case pos =>
      have hk0 : (0 : Int) ≤ (k : Int) := by omega
      have hk1 : (k : Int) < ((K + 1 : Nat) : Int) := by omega
      have p0 := blk_cell ((hb.out.block _ (blk_lt P0.out)).trans P0.out) 0 rfl
      rw [hpn.out] at p0
      go_wp2_with fail
      clear p0
      obtain ⟨wp, rfl⟩ : ∃ x, x = wr := ⟨_, rfl⟩
      go_loopw [74] (fun i wx => ∃ q : Nat, q ≤ N ∧ i = .int .i64 (q : Int) ∧ Hid (Below wc.heap.size wc wx)) (fun i _ => N - (intOf i).toNat)
      case atStart => exact ⟨0, by omega, rfl, hb⟩
      case round =>
        obtain ⟨q, hq, rfl, hbq⟩ := hrel
        by_cases hqN : q < N
        case neg =>
          obtain rfl : q = N := by omega
          go_wp2_with fail
          go_roundw
          case rel => exact ⟨k + 1, by omega, by go_num, hbq⟩
          case measure => simp [intOf]; omega
        case pos =>
        have HBW := Lib.hid (HB3.out.trans (hbq.out.mono HB3.out.size))
        have hg := (hbq.out.block _ (blk_lt HG.out)).trans HG.out
        have hh := (hbq.out.block _ (blk_lt HH.out)).trans HH.out
        have hp := (hbq.out.block _ (blk_lt P0.out)).trans P0.out
        obtain ⟨hvl, hvr⟩ := HFF.out.views _ HXM.out
        obtain ⟨hvl', hvr'⟩ := HFF.out.views _ HYM.out
        have hkv : k < x.views.length := by omega
        have hkv' : k < y.views.length := by omega
        obtain ⟨b1, o1, C1, n1, d1, e1, eB1, hb1, v1, rfl, hd1, v2⟩ := row_xw (HLX.out.keep HBW.out) hkv hqN (hvr _ (List.getElem_mem hkv)).1
        obtain ⟨b2, o2, C2, n2, d2, e2, eB2, hb2, v3, rfl, hd2, v4⟩ := row_xw (HLY.out.keep HBW.out) hkv' hqN (hvr' _ (List.getElem_mem hkv')).1
        subst eB1
        subst eB2
        have g2 := blk_cell hg 2 rfl
        have h2 := blk_cell hh 2 rfl
        rw [hvl] at g2
        rw [hvl'] at h2
        have hq0 : (0 : Int) ≤ (q : Int) := by omega
        have hq1 : (q : Int) < (N : Int) := by omega
        have g0 := blk_cell hg 0 rfl
        have h0 := blk_cell hh 0 rfl
        have g1 := blk_cell hg 1 rfl
        have h1 := blk_cell hh 1 rfl
        have p3 := blk_cell hp 3 rfl
        have p0 := blk_cell hp 0 rfl
        rw [hpn.out] at p0
        have HQE : Hid ((xw x k q == xw y k q) = decide (xw x k q = xw y k q)) := by show _ = _; rw [Bool.eq_iff_iff]; simp
        obtain ⟨sm, hsm⟩ : ∃ sm, (xw x k q == xw y k q) = sm := ⟨_, rfl⟩
        have HSM := Lib.hid hsm
        cases k with
        | zero =>
          rw [Nat.add_zero] at v1 v3
          obtain ⟨cx, hcx, hcxl, _⟩ := HSS.out.cs _ HXM.out
          obtain ⟨cy, hcy, hcyl, _⟩ := HSS.out.cs _ HYM.out
          rw [hpT.out] at hcxl hcyl
          have hix := HLC.out _ (List.getElem_mem hcxl)
          have hiy := HLC.out _ (List.getElem_mem hcyl)
          rw [hpn.out] at hix hiy
          obtain ⟨b3, o3, C3, n3, d3, e3, eA, hb3, v5, rfl, hd3, v6⟩ := case_in (HA3.out.keep HBW.out) hcxl (by omega : q < (p.t.cases[cx]).inp.length)
          obtain ⟨b4, o4, C4, n4, d4, e4, eA', hb4, v7, rfl, hd4, v8⟩ := case_in (HA3.out.keep HBW.out) hcyl (by omega : q < (p.t.cases[cy]).inp.length)
          subst eA
          cases eA'
          have hlaw := same_first HSS.out HXM.out HYM.out hqN
          rw [hcx, hcy, hpT.out, Int.toNat_natCast, Int.toNat_natCast] at hlaw
          unfold inpE at hlaw
          rw [hcx] at g0
          rw [hcy] at h0
          rw [show (p.t.cases[cx]).inp.length = N by omega] at v5
          rw [show (p.t.cases[cy]).inp.length = N by omega] at v7
          obtain ⟨z5, hz5⟩ : ∃ z, (p.t.cases.getD cx default).inp.getD q 0 = z := ⟨_, rfl⟩
          obtain ⟨z6, hz6⟩ : ∃ z, (p.t.cases.getD cy default).inp.getD q 0 = z := ⟨_, rfl⟩
          rw [hz5] at v6 hlaw
          rw [hz6] at v8 hlaw
          have heq : Hid (sm = (z5 == z6)) := by
            show _ = _
            rw [← hsm, HQE.out, Bool.eq_iff_iff, decide_eq_true_eq, hlaw]; simp
          obtain ⟨f1, hf1⟩ : ∃ f, xw x 0 q = f := ⟨_, rfl⟩
          obtain ⟨f2, hf2⟩ : ∃ f, xw y 0 q = f := ⟨_, rfl⟩
          rw [hf1] at v2 hsm
          rw [hf2] at v4 hsm
          have heq' : (f1 == f2) = (z5 == z6) := hsm.trans heq.out
          obtain ⟨bz, hbz⟩ : ∃ bz, (z5 == z6) = bz := ⟨_, rfl⟩
          rw [hbz] at heq'
          have hbb : (bz != bz) = false := by cases bz <;> rfl
          have hc0 : (0 : Int) ≤ (cx : Int) := by omega
          have hc1 : (cx : Int) < (p.t.cases.length : Int) := by omega
          have hc2 : (0 : Int) ≤ (cy : Int) := by omega
          have hc3 : (cy : Int) < (p.t.cases.length : Int) := by omega
          clear hsm hlaw hix hiy hcx hcy hcxl hcyl hvl hvr hvl' hvr' hkv hkv' hg hh hp hz5 hz6 hf1 hf2 heq HQE HSM
          go_wp2_with fail
          go_quiet (fail)
          go_wp2_with fail
          go_quiet (fail)
          go_wp2_with fail
          go_roundw
          case rel => exact ⟨q + 1, by omega, by go_num, belN hbq.out _⟩
          case measure => simp [intOf]; omega
        | succ j =>
          have hjK : j < K := by omega
          obtain ⟨hwl, hwr⟩ := HFF.out.word _ HXM.out
          obtain ⟨hwl', hwr'⟩ := HFF.out.word _ HYM.out
          obtain ⟨b3, o3, eA, hb3, t1⟩ := word_h (HRX.out.keep HBW.out) (by omega : j < x.word.length) (by omega : q < 5)
          obtain ⟨b4, o4, eA', hb4, t2⟩ := word_h (HRY.out.keep HBW.out) (by omega : j < y.word.length) (by omega : q < 5)
          subst eA
          subst eA'
          rw [hwl] at g1
          rw [hwl'] at h1
          obtain ⟨r1, r2⟩ := HFF.out.round HXM.out hjK
          obtain ⟨r3, r4⟩ := HFF.out.round HYM.out hjK
          obtain ⟨m, hm, hmN, _⟩ := hears_nat r1 r2 HFF.out.n5 hqN
          obtain ⟨m', hm', hmN', _⟩ := hears_nat r3 r4 HFF.out.n5 hqN
          have hp5 : 2 ^ N ≤ 2 ^ 5 := Nat.pow_le_pow_right (by omega) hn5
          have hm32 : m < 32 := by omega
          have hlaw := eqW_law HFF.out HSS.out HXM.out HYM.out hjK hqN hm hm'
          rw [hm] at t1
          rw [hm'] at t2
          have HLW : Hid (sm = eqW x y j m m' N) := by show _ = _; rw [← hsm, HQE.out]; exact hlaw
          have hj1 : IntKind.i64.wrap (((j + 1 : Nat) : Int) - 1) = (j : Int) := by rw [IntKind.wrap_i64]; omega
          have hne : (((j + 1 : Nat) : Int) == 0) = false := by rw [beq_eq_false_iff_ne]; omega
          have hjj0 : (0 : Int) ≤ (j : Int) := by omega
          have hjj1 : (j : Int) < (K : Int) := by omega
          have hjj2 : (j : Int) < ((K + 1 : Nat) : Int) := by omega
          have hq5 : (q : Int) < 5 := by omega
          obtain ⟨f1, hf1⟩ : ∃ f, xw x (j + 1) q = f := ⟨_, rfl⟩
          obtain ⟨f2, hf2⟩ : ∃ f, xw y (j + 1) q = f := ⟨_, rfl⟩
          rw [hf1] at v2 hsm
          rw [hf2] at v4 hsm
          have HXR := Lib.hid (fun (i : Nat) (hi : i < N) (X : World) (hX : Below wc.heap.size wc X) => row_xw (HLX.out.keep (HB3.out.trans (hX.mono HB3.out.size))) (by omega : j < x.views.length) hi (hvr _ (List.getElem_mem (by omega : j < x.views.length))).1)
          have HYR := Lib.hid (fun (i : Nat) (hi : i < N) (X : World) (hX : Below wc.heap.size wc X) => row_xw (HLY.out.keep (HB3.out.trans (hX.mono HB3.out.size))) (by omega : j < y.views.length) hi (hvr' _ (List.getElem_mem (by omega : j < y.views.length))).1)
          have HVL := Lib.hid hvl
          have HVL' := Lib.hid hvl'
          have HDM : Hid ((m == m') = decide (m = m')) := by show _ = _; rw [Bool.eq_iff_iff]; simp
          obtain ⟨J, hJ⟩ : ∃ J, ((j + 1 : Nat) : Int) = J := ⟨_, rfl⟩
          have HJ := Lib.hid hJ
          clear hlaw hvl hvr hvl' hvr' hkv hkv' hg hh hp r1 r2 r3 r4 hm hm' hmN hmN' hp5 hwl hwl' hwr hwr' hf1 hf2 HQE HSM HLX HLY HRX HRY HJ hJ
          go_wp2_with fail
          go_quiet (fail)
          go_wp2_with fail
          go_quiet (fail)
          go_wp2_with fail
          clear v1 v2 v3 v4 t1 t2 g0 h0 g1 h1 g2 h2 p3
          obtain ⟨wq, rfl⟩ : ∃ x, x = wr := ⟨_, rfl⟩
          go_loopw [15, 147] (fun b i wx => ∃ c : Nat, c ≤ N ∧ b = .bool (eqW x y j m m' c) ∧ i = .int .i64 (c : Int) ∧ Hid (Below wc.heap.size wc wx)) (fun _ i _ => N - (intOf i).toNat)
          case atStart =>
            refine ⟨0, by omega, ?_, rfl, belN hbq.out _⟩
            first | (unfold eqW; simp; done) | (unfold eqW; simp; rw [Bool.eq_iff_iff]; simp; omega) | (unfold eqW; simp; rw [Bool.eq_iff_iff]; simp; exact Int.ofNat_inj)
          case round =>
            obtain ⟨c, hc, rfl, rfl, hbc⟩ := hrel
            by_cases hcN : c < N
            case neg =>
              obtain rfl : c = N := by omega
              have hEN := HLW.out.symm
              have hbb : (sm != sm) = false := by cases sm <;> rfl
              rw [hEN]
              clear hEN HXR HYR
              go_wp2_with fail
              go_roundw
              case rel => exact ⟨q + 1, by omega, by go_num, hbc⟩
              case measure => simp [intOf]; omega
            case pos =>
            have hst := eqW_succ x y j m m' c
            have hbt := bit_zero hm32 (show c < 5 by omega)
            have hc0 : (0 : Int) ≤ (c : Int) := by omega
            have hc1 : (c : Int) < (N : Int) := by omega
            have hc5 : (c : Int) < 5 := by omega
            have HBC := Lib.hid hbc.out
            obtain ⟨b1', o1', C1', n1', d1', e1', eB1, hb1', v1, rfl, hd1', v2⟩ := HXR.out c hcN wr hbc.out
            obtain ⟨b2', o2', C2', n2', d2', e2', eB2, hb2', v3, rfl, hd2', v4⟩ := HYR.out c hcN wr hbc.out
            cases eB1
            cases eB2
            have g2 := blk_cell ((hbc.out.block _ (blk_lt HG.out)).trans HG.out) 2 rfl
            have h2 := blk_cell ((hbc.out.block _ (blk_lt HH.out)).trans HH.out) 2 rfl
            rw [HVL.out] at g2
            rw [HVL'.out] at h2
            have HDE : Hid ((xw x j c == xw y j c) = decide (xw x j c = xw y j c)) := by show _ = _; rw [Bool.eq_iff_iff]; simp
            obtain ⟨bE, hbE⟩ : ∃ bE, eqW x y j m m' c = bE := ⟨_, rfl⟩
            obtain ⟨bT, hbT⟩ : ∃ bT, m.testBit c = bT := ⟨_, rfl⟩
            obtain ⟨bV, hbV⟩ : ∃ bV, decide (xw x j c = xw y j c) = bV := ⟨_, rfl⟩
            rw [hbE, hbT, hbV] at hst
            rw [hbT] at hbt
            rw [hbV] at HDE
            have hve := HDE.out
            have HST := Lib.hid hst
            rw [hbE]
            obtain ⟨f3, hf3⟩ : ∃ f, xw x j c = f := ⟨_, rfl⟩
            obtain ⟨f4, hf4⟩ : ∃ f, xw y j c = f := ⟨_, rfl⟩
            rw [hf3] at v2 hve
            rw [hf4] at v4 hve
            clear hst hbE hbT hbV HDE hf3 hf4 HXR HYR
            cases bE with
            | false =>
              go_wp2_with fail
              go_quiet (fail)
              go_wp2_with fail
              go_roundw
              case rel => exact ⟨c + 1, by omega, by rw [HST.out]; rfl, by go_num, belN HBC.out _⟩
              case measure => simp [intOf]; omega
            | true =>
              cases bT with
              | false =>
                go_wp2_with fail
                go_quiet (fail)
                go_wp2_with fail
                go_roundw
                case rel => exact ⟨c + 1, by omega, by rw [HST.out]; rfl, by go_num, belN HBC.out _⟩
                case measure => simp [intOf]; omega
              | true =>
                cases bV with
                | false =>
                  go_wp2_with fail
                  go_quiet (fail)
                  go_wp2_with fail
                  go_roundw
                  case rel => exact ⟨c + 1, by omega, by rw [HST.out]; rfl, by go_num, belN HBC.out _⟩
                  case measure => simp [intOf]; omega
                | true =>
                  go_wp2_with fail
                  go_quiet (fail)
                  go_wp2_with fail
                  go_roundw
                  case rel => exact ⟨c + 1, by omega, by rw [HST.out]; rfl, by go_num, belN HBC.out _⟩
                  case measure => simp [intOf]; omega
end Go.Proofs.YtnikmmdadflefaaGreatDoor
