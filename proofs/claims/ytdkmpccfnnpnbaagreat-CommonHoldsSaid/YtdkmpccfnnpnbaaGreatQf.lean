/- Parts BtC RBld RVer Hav Rel CmnS OpenC LabP BfsP NbrP GluP RfP PtsA Box PtsB PtsN Sees PtsC CmnA. -/
import Derived.Test.YtdkmpccfnnpnbaaGreatProg
import Derived.Test.YtdkmpccfnnpnbaaGreatQe
import Derived.Test.YtdkmpccfnnpnbaaGreatQd
import Derived.Test.YtdkmpccfnnpnbaaGreatQc
import Derived.Deep.QuietTactic
import Derived.BigQuiet
import Derived.Laws.MakeOwn
import Derived.ChangeArms
import Derived.Test.YtdkmpccfnnpnbaaGreatQa
import Derived.Test.YtdkmpccfnnpnbaaGreatQb
import Derived.Laws.EntriesVeiled

namespace Go.Proofs.YtdkmpccfnnpnbaaGreat
set_option maxHeartbeats 4000000
section
open Go.RowKit Go.Shelf
attribute [local go_sem] Oper.semAt_some
def RetBt (p : Pb) (A : Option Addr) (kc : Nat) (SV : Option Addr) (ks : Nat) (w : World) (e : Ending) (w' : World) : Prop :=
 ∃ AV kv AE ke, e = .returned (.agg #[.int .i64 p.t.n, .int .i64 p.t.ins, .int .i64 p.t.outs, .slice A p.t.cases.length kc, .int .i64 p.a.n, .slice SV p.a.sts.length ks, .int .i64 p.k, .int .i64 p.t.n, .slice AV (zu p (zy p)).1.length kv, .slice AE (zu p (zy p)).2.length ke]) ∧
  OwnV w' w.heap.size (.slice AV (zu p (zy p)).1.length kv) (zu p (zy p)).1 ∧ OwnX cXn (fun k => w.heap.size ≤ k) w' w.heap.size (.slice AE (zu p (zy p)).2.length ke) (zu p (zy p)).2 ∧ Below w.heap.size w w'
set_option maxRecDepth 100000 in
theorem built_any (p : Pb) (hf : xT p) (hpe : zK p = 0) (h60 : zT p ≤ 60) (A : Option Addr) (kc : Nat) (SV : Option Addr) (ks : Nat) (w : World) (hA : CAt w w.heap.size A p.t.cases) (hS : SAt w w.heap.size SV p.a.sts) :
  Calls Tryz.prog 151 #[.agg (p.vs A kc SV ks)] w (RetBt p A kc SV ks w) := by
 obtain ⟨hpt, hpa, hpn, hpk0, hpk6⟩ := zS hpe
 obtain ⟨K, hK⟩ := Int.eq_ofNat_of_zero_le hpk0
 obtain ⟨hcs1, hn1, hn5⟩ := yP hpt
 have hK6 : K ≤ 6 := by omega
 have hexT : zT p = zO p.a K 0 * p.t.cases.length := by unfold zT; rw [hK]; rfl
 have hcnt : zO p.a K 0 ≤ 60 := by
  have := Nat.le_mul_of_pos_right (zO p.a K 0) hcs1
  omega
 obtain ⟨hz, hs1⟩ : zw p.a p.a.sts = 0 ∧ 1 ≤ p.a.sts.length := ⟨(yY hf.1.2 hpa).1, (yY hf.1.2 hpa).2.1⟩
 obtain ⟨N, hN⟩ := Int.eq_ofNat_of_zero_le (show 0 ≤ p.t.n by omega)
 have HFX := zH hf
 have HPA := zH hpa
 have HPN := zH hpn
 have HTI := zH (Yw hpt)
 obtain ⟨w1, hw1, d0, d1, d2, hsz, hBw⟩ := kI w (p.vs A kc SV ks) #[.int .i64 0, .int .i64 0, .int .i64 0, .slice none 0 0, .int .i64 0, .slice none 0 0, .int .i64 0, .int .i64 0, .slice none 0 0, .slice none 0 0] #[.int .i64 p.t.n, .int .i64 p.t.ins, .int .i64 p.t.outs, .slice A p.t.cases.length kc, .int .i64 p.a.n, .slice SV p.a.sts.length ks, .int .i64 p.k, .int .i64 p.t.n, .slice none 0 0, .slice none 0 0] 29 35 35
 have hFR := ZE p.a SV ks hz hf.1.2 K hK6 0 w1 (by by_cases h : K = 0; exact .inl h; exact .inr ⟨by omega, by omega⟩) (by rw [yv]; omega) ((hS.keep hBw).more hBw.size)
 have HFR := zH hFR
 have HA := zH hA
 have HS := zH hS
 have HBW := zH hBw
 have HD0 := zH d0
 have HD1 := zH d1
 have HD2 := zH d2
 have HW1 := zH hw1
 have HKE := zH hK
 have HNN := zH hN
 have HEX := zH hexT
 have H60 := zH h60
 have HCS := zH hcs1
 have hN1 : 1 ≤ N ∧ N ≤ 5 := by omega
 clear hw1 d0 d1 d2 hBw hA hS hf hK hN hexT h60 hpe hpt hpa hpn hpk0 hpk6 hn1 hn5 hz hs1 hFR hcs1
 unfold Pb.vs at HW1 HD0 ⊢
 go_enter Tryz.func151, Tryz.ntmps151
 go_wp2_with fail
 rw [HW1.out]
 have hFR := HFR.out
 unfold kG at HFR
 rw [← HKE.out] at hFR
 refine hFR.mono ?_
 rintro e wr ⟨v, rfl, hW, hb⟩
 have hbw := HBW.out.size
 obtain ⟨words, hwords⟩ : ∃ words, zB p.a K 0 = words := ⟨_, rfl⟩
 rw [hwords] at hW
 obtain ⟨AW, cw, rfl, hWD⟩ := WdsAt.of (bs := w.heap.size + 1 + 1) hW (by omega) rfl
 obtain ⟨SC, hSC⟩ : ∃ SC : Value → Value → Array Value, SC = fun V E => #[.int .i64 p.t.n, .int .i64 p.t.ins, .int .i64 p.t.outs, .slice A p.t.cases.length kc, .int .i64 p.a.n, .slice SV p.a.sts.length ks, .int .i64 p.k, .int .i64 p.t.n, V, E] := ⟨_, rfl⟩
 obtain ⟨WR, rfl⟩ : ∃ x, x = wr := ⟨_, rfl⟩
 obtain ⟨D, hD⟩ : ∃ D, D = WR.heap.size := ⟨_, rfl⟩
 have hDb : w.heap.size + 3 ≤ D := by have := hb.size; omega
 have H0 : Hid (Bt D (w.heap.size + 1 + 1) SC WR [] [] (.slice none 0 0) (.slice none 0 0) WR) :=
  ⟨Wrote.refl _ _, by omega, by omega, by omega, by rw [hSC]; exact (hb.block _ (by omega)).trans HD2.out, OwnV.nil _ _, OwnX.nil _ _ _ _, fun k e => (by cases e)⟩
 have HP0 : Hid (WR.heap[w.heap.size]? = some (.cells #[.int .i64 p.t.n, .int .i64 p.t.ins, .int .i64 p.t.outs, .slice A p.t.cases.length kc, .int .i64 p.a.n, .slice SV p.a.sts.length ks, .int .i64 p.k] 29 (0, 0))) := (hb.block _ (by omega)).trans HD0.out
 have HP1 : Hid (WR.heap[w.heap.size + 1]? = some (.cells #[.int .i64 0, .int .i64 0, .int .i64 0, .slice none 0 0, .int .i64 0, .slice none 0 0, .int .i64 0, .int .i64 0, .slice none 0 0, .slice none 0 0] 35 (0, 0))) := (hb.block _ (by omega)).trans HD1.out
 have HBR : Hid (Below w.heap.size w WR) := HBW.out.trans (hb.mono (by omega))
 have HWD := zH hWD
 rw [← hD] at HWD
 have HSC := zH hSC
 have HWE := zH hwords
 have HDD := zH hD
 have hc30 : p.t.cases.length ≤ 30 := HFX.out.1.1.1
 have hwl : words.length ≤ 60 := by rw [← hwords, yv]; exact hcnt
 have HW6 : Hid (∀ x ∈ words, x.length ≤ 6) := fun x hx => by rw [← hwords] at hx; rw [xv p.a K 0 x hx]; exact hK6
 clear hW hb hSC hwords hD hWD HD0 HD1 HD2 HW1 HBW HFR hFR hbw hsz
 go_wp2_with fail
 go_loopw [5] (fun i wx => ∃ (c : Nat) (V E : Value), c ≤ p.t.cases.length ∧ i = .int .i64 (c : Int) ∧ Hid (Bt D (w.heap.size + 1 + 1) SC WR (zu p (pcs words c)).1 (zu p (pcs words c)).2 V E wx)) (fun i _ => p.t.cases.length - (intOf i).toNat)
 case atStart => exact ⟨0, _, _, by omega, rfl, H0.out⟩
 case round =>
  clear H0
  obtain ⟨c, V0, E0, hc, rfl, HB0⟩ := hrel
  have hbig := HB0.out.big
  have hsame : ∀ k, k < D → k ≠ w.heap.size + 1 + 1 → wr.heap[k]? = WR.heap[k]? := fun k h1 h2 => HB0.out.wr.block k (by have := HDD.out; omega) h2
  have P0 := (hsame _ (by omega) (by omega)).trans HP0.out
  have p0 : wr.cell? ⟨w.heap.size, 0, none⟩ = some (.int .i64 p.t.n) := za P0 0 rfl
  have p3 : wr.cell? ⟨w.heap.size, 3, none⟩ = some (.slice A p.t.cases.length kc) := za P0 3 rfl
  have p6 : wr.cell? ⟨w.heap.size, 6, none⟩ = some (.int .i64 p.k) := za P0 6 rfl
  by_cases hcM : c < p.t.cases.length
  case neg =>
   obtain rfl : c = p.t.cases.length := by omega
   have hcs60 : p.t.cases.length * words.length ≤ 60 := by have h1 := HEX.out; have h2 := H60.out; have h3 := congrArg List.length HWE.out; rw [yv] at h3; rw [h3, Nat.mul_comm] at h1; omega
   obtain ⟨AV, kv, rfl, _⟩ := HB0.out.tb.form (by have := wH p words (by have := HNN.out; omega) HW6.out p.t.cases.length hcs60; omega)
   obtain ⟨AE, ke, rfl, _, _, _⟩ := HB0.out.out.form yV
   have hres := (hsame (w.heap.size + 1) (by omega) (by omega)).trans HP1.out
   have hsys := HB0.out.sys
   rw [HSC.out] at hsys
   have s0 : wr.cell? ⟨w.heap.size + 1 + 1, 0, none⟩ = some (.int .i64 p.t.n) := za hsys 0 rfl
   have s1 : wr.cell? ⟨w.heap.size + 1 + 1, 1, none⟩ = some (.int .i64 p.t.ins) := za hsys 1 rfl
   have s2 : wr.cell? ⟨w.heap.size + 1 + 1, 2, none⟩ = some (.int .i64 p.t.outs) := za hsys 2 rfl
   have s3 : wr.cell? ⟨w.heap.size + 1 + 1, 3, none⟩ = some (.slice A p.t.cases.length kc) := za hsys 3 rfl
   have s4 : wr.cell? ⟨w.heap.size + 1 + 1, 4, none⟩ = some (.int .i64 p.a.n) := za hsys 4 rfl
   have s5 : wr.cell? ⟨w.heap.size + 1 + 1, 5, none⟩ = some (.slice SV p.a.sts.length ks) := za hsys 5 rfl
   have s6 : wr.cell? ⟨w.heap.size + 1 + 1, 6, none⟩ = some (.int .i64 p.k) := za hsys 6 rfl
   have s7 : wr.cell? ⟨w.heap.size + 1 + 1, 7, none⟩ = some (.int .i64 p.t.n) := za hsys 7 rfl
   have s8 : wr.cell? ⟨w.heap.size + 1 + 1, 8, none⟩ = some (.slice AV (zu p (pcs words p.t.cases.length)).1.length kv) := za hsys 8 rfl
   have s9 : wr.cell? ⟨w.heap.size + 1 + 1, 9, none⟩ = some (.slice AE (zu p (pcs words p.t.cases.length)).2.length ke) := za hsys 9 rfl
   have y0 : wr.cell? ⟨w.heap.size + 1, 0, none⟩ = some (.int .i64 0) := za hres 0 rfl
   have f0 := zb hres 0
   have y1 : wr.cell? ⟨w.heap.size + 1, 1, none⟩ = some (.int .i64 0) := za hres 1 rfl
   have f1 := zb hres 1
   have y2 : wr.cell? ⟨w.heap.size + 1, 2, none⟩ = some (.int .i64 0) := za hres 2 rfl
   have f2 := zb hres 2
   have y3 : wr.cell? ⟨w.heap.size + 1, 3, none⟩ = some (.slice none 0 0) := za hres 3 rfl
   have f3 := zb hres 3
   have y4 : wr.cell? ⟨w.heap.size + 1, 4, none⟩ = some (.int .i64 0) := za hres 4 rfl
   have f4 := zb hres 4
   have y5 : wr.cell? ⟨w.heap.size + 1, 5, none⟩ = some (.slice none 0 0) := za hres 5 rfl
   have f5 := zb hres 5
   have y6 : wr.cell? ⟨w.heap.size + 1, 6, none⟩ = some (.int .i64 0) := za hres 6 rfl
   have f6 := zb hres 6
   have y7 : wr.cell? ⟨w.heap.size + 1, 7, none⟩ = some (.int .i64 0) := za hres 7 rfl
   have f7 := zb hres 7
   have y8 : wr.cell? ⟨w.heap.size + 1, 8, none⟩ = some (.slice none 0 0) := za hres 8 rfl
   have f8 := zb hres 8
   have y9 : wr.cell? ⟨w.heap.size + 1, 9, none⟩ = some (.slice none 0 0) := za hres 9 rfl
   have f9 := zb hres 9
   have HFN := zH HB0.out
   have hbl : Below w.heap.size w wr := HBR.out.trans (HB0.out.wr.below (by have := HBR.out.size; omega) (fun k h1 h2 => by have h3 : k = w.heap.size + 1 + 1 := h2; omega))
   obtain ⟨k1, k2, k3, k4, k5⟩ := qQ (.int .i64 p.t.n) (.int .i64 p.t.ins) (.int .i64 p.t.outs) (.slice A p.t.cases.length kc) (.int .i64 p.a.n) (.slice SV p.a.sts.length ks) (.int .i64 p.k) (.int .i64 p.t.n) (.slice AV (zu p (pcs words p.t.cases.length)).1.length kv) (.slice AE (zu p (pcs words p.t.cases.length)).2.length ke) hres hbl (by omega : w.heap.size ≤ w.heap.size + 1)
   obtain ⟨WF, hWF⟩ : ∃ WF, ((((((((((wr.setCell ⟨w.heap.size + 1, 0, none⟩ (.int .i64 p.t.n)).setCell ⟨w.heap.size + 1, 1, none⟩ (.int .i64 p.t.ins)).setCell ⟨w.heap.size + 1, 2, none⟩ (.int .i64 p.t.outs)).setCell ⟨w.heap.size + 1, 3, none⟩ (.slice A p.t.cases.length kc)).setCell ⟨w.heap.size + 1, 4, none⟩ (.int .i64 p.a.n)).setCell ⟨w.heap.size + 1, 5, none⟩ (.slice SV p.a.sts.length ks)).setCell ⟨w.heap.size + 1, 6, none⟩ (.int .i64 p.k)).setCell ⟨w.heap.size + 1, 7, none⟩ (.int .i64 p.t.n)).setCell ⟨w.heap.size + 1, 8, none⟩ (.slice AV (zu p (pcs words p.t.cases.length)).1.length kv)).setCell ⟨w.heap.size + 1, 9, none⟩ (.slice AE (zu p (pcs words p.t.cases.length)).2.length ke)) = WF := ⟨_, rfl⟩
   rw [hWF] at k1 k2 k3 k4 k5
   have K1 := zH k1
   have K2 := zH k2
   have K4 := zH k4
   have K5 := zH k5
   have HWF := zH hWF
   clear hres hsys P0 hbl k1 k2 k3 k4 k5 hWF
   go_wp2_with fail
   rw [HWF.out]
   obtain ⟨z0, z1, z2, z3, z4, z5, z6, z7, z8, z9⟩ := zv K1.out
   refine bodyPost_ret (v := .agg #[.int .i64 p.t.n, .int .i64 p.t.ins, .int .i64 p.t.outs, .slice A p.t.cases.length kc, .int .i64 p.a.n, .slice SV p.a.sts.length ks, .int .i64 p.k, .int .i64 p.t.n, .slice AV (zu p (pcs words p.t.cases.length)).1.length kv, .slice AE (zu p (pcs words p.t.cases.length)).2.length ke]) (by simp [results, Tryz.results151, go_sem, z0, z1, z2, z3, z4, z5, z6, z7, z8, z9]) rfl ?_
   have hpe : zy p = pcs words p.t.cases.length := by rw [Z6, ← HWE.out, show p.k.toNat = K by have := HKE.out; omega]
   unfold RetBt
   rw [hpe]
   have hbw := HFN.out.big
   refine ⟨AV, kv, AE, ke, rfl, ?_, ?_, K2.out⟩
   · exact (HFN.out.tb.of_same fun k hk => K4.out k (by have := (HFN.out.tb.lt' k hk).1; omega)).low (by omega)
   · exact (OwnX.mono yV (HFN.out.out.keep yV ⟨by have := K5.out; omega, fun k hs _ => K4.out k (by omega)⟩ fun k hk => K4.out k (by have := (HFN.out.out.lt k hk).1; omega)) fun k _ hs => (by omega)).low (by omega)
  case pos =>
   have hc1 : (c : Int) < (p.t.cases.length : Int) := by omega
   have HSM := zH hsame
   clear hsame P0
   go_wp2_with fail
   obtain ⟨wo, rfl⟩ : ∃ x, x = wr := ⟨_, rfl⟩
   go_loopw [6] (fun i wx => ∃ (j : Nat) (V E : Value), j ≤ words.length ∧ i = .int .i64 (j : Int) ∧ Hid (Bt D (w.heap.size + 1 + 1) SC WR (zu p (pcw words c j)).1 (zu p (pcw words c j)).2 V E wx)) (fun i _ => words.length - (intOf i).toNat)
   case atStart => exact ⟨0, V0, E0, by omega, rfl, by rw [YP]; exact HB0.out⟩
   case round =>
    obtain ⟨j, V1, E1, hj, rfl, HB1⟩ := hrel
    by_cases hjW : j < words.length
    case neg =>
     obtain rfl : j = words.length := by omega
     have HBe := zH (by have h := HB1.out; rw [pcw_end] at h; exact h)
     clear HB1
     go_wp2_with fail
     go_roundw
     case rel => exact ⟨c + 1, V1, E1, by omega, by go_num, HBe.out⟩
     case measure => simp [intOf]; omega
    case pos =>
     obtain ⟨gw, A2, c2, eAW, hg1, hg2, hcw, hR2⟩ := HWD.out j hjW
     subst eAW
     have hKp : KeepB (fun k => k < D ∧ k ≠ w.heap.size + 1 + 1) WR wr := HB1.out.wr.keep fun k _ hs => hs.2
     have hw0 : wr.cell? ⟨gw, j, none⟩ = some (.slice A2 words[j].length c2) := qB hKp ⟨hg2, by omega⟩ hcw
     have hst : c * words.length + j < 60 := by
      have h1 := HEX.out
      have h2 := H60.out
      have h3 := congrArg List.length HWE.out
      rw [yv] at h3
      rw [h3, Nat.mul_comm] at h1
      have h4 := Nat.mul_le_mul_right words.length (show c + 1 ≤ p.t.cases.length by omega)
      rw [Nat.succ_mul] at h4
      omega
     obtain ⟨hv0, hx0⟩ := Zp p words (by have := HNN.out; omega) HW6.out c j (by omega) (by omega)
     have hrs := qA p (pcw words c j) (c, words[j])
     rw [← pcw_succ words c j hjW] at hrs
     obtain ⟨word, hword⟩ : ∃ word, words[j] = word := ⟨_, rfl⟩
     rw [hword] at hw0 hR2 hrs hcw
     have hwm : word ∈ zB p.a K 0 := by rw [HWE.out, ← hword]; exact List.getElem_mem hjW
     have hwk := xv p.a K 0 word hwm
     have HWF : Hid (∀ r ∈ word, yf r = 0 ∧ r.n = (N : Int)) := fun r hr => by
      obtain ⟨m, hm, rfl⟩ := kH p.a K 0 word hwm r hr
      obtain ⟨z1, z2, _⟩ := xA (yY HFX.out.1.2 HPA.out).1 m hm
      exact ⟨z1, by rw [z2, ← HPN.out, HNN.out]⟩
     obtain ⟨AE, ke, rfl, _, _, _⟩ := HB1.out.out.form yV
     obtain ⟨vs0, hvs0⟩ : ∃ vs0, (zu p (pcw words c j)).1 = vs0 := ⟨_, rfl⟩
     obtain ⟨xs0, hxs0⟩ : ∃ xs0, (zu p (pcw words c j)).2 = xs0 := ⟨_, rfl⟩
     rw [hvs0, hxs0] at hrs HB1
     rw [hvs0] at hv0
     rw [hxs0] at hx0
     have hinp : xf p c = p.t.cases[c].inp := by unfold xf; rw [List.getD_eq_getElem?_getD, List.getElem?_eq_getElem hcM]; rfl
     have HRUN : Hid (zu p (pcw words c (j + 1)) = ((stQ vs0 N p.t.cases[c].inp word (K + 1)).1, xs0 ++ [⟨(c : Int), word, (stQ vs0 N p.t.cases[c].inp word (K + 1)).2⟩])) := by
      rw [hrs]
      show (_, _) = _
      rw [hinp, hwk, show p.t.n.toNat = N by have := HNN.out; omega]
      rfl
     obtain ⟨bc, oc, A0, c0, A1', c1', A2', c2', eA, hbcl, hcc0, _, _, hIn, _, _⟩ := HA.out.row c hcM
     subst eA
     have hinl : p.t.cases[c].inp.length = N := by have h1 := HTI.out _ (List.getElem_mem hcM); have := HNN.out; omega
     obtain ⟨inp, hinpe⟩ : ∃ inp, p.t.cases[c].inp = inp := ⟨_, rfl⟩
     rw [hinpe] at hcc0 hIn HRUN hinl
     have HIN := zH hIn
     have HGW := zH hcw
     have HC0 := zH hcc0
     have HR2 := zH hR2
     have HIL := zH hinl
     have HX0 : Hid (xs0.length < 60) := by show xs0.length < 60; omega
     have HV0 := zH hv0
     have HWK := zH hwk
     have hj1 : (j : Int) < (words.length : Int) := by omega
     have hgwl : gw < wr.heap.size := by have := HB1.out.big; omega
     clear hinl hinpe hrs hinp hIn hcc0 hR2 hcw hKp hvs0 hxs0 hword hwm hx0 hv0 hwk
     go_wp2_with fail
     clear hw0
     obtain ⟨W1, hW1, x1, hs1, hB1⟩ := zk wr #[.int .i64 c, .slice A2 word.length c2, .slice none 0 0] 94
     rw [hW1]
     have HQ0 : Hid (Bq D (w.heap.size + 1 + 1) wr.heap.size SC WR c (.slice A2 word.length c2) vs0 xs0 [] [] V1 (.slice AE xs0.length ke) (.slice none 0 0) (.slice none 0 0) W1) := Bt.start HB1.out hB1 x1
     clear hW1 x1 hs1 hB1 HB1
     obtain ⟨bx, hbx⟩ : ∃ bx, bx = wr.heap.size := ⟨_, rfl⟩
     rw [← hbx] at HQ0 ⊢
     clear hbx
     go_loopw [8] (fun i wx => ∃ (k : Nat) (V Y : Value), k ≤ K + 1 ∧ i = .int .i64 (k : Int) ∧ Hid (Bq D (w.heap.size + 1 + 1) bx SC WR c (.slice A2 word.length c2) (stQ vs0 N inp word k).1 xs0 (stQ vs0 N inp word k).2 [] V (.slice AE xs0.length ke) Y (.slice none 0 0) wx)) (fun i _ => K + 1 - (intOf i).toNat)
     case atStart => exact ⟨0, V1, _, by omega, rfl, HQ0.out⟩
     case round =>
      clear HQ0
      obtain ⟨k, V2, Y2, hk, rfl, HQ⟩ := hrel
      have hbig := HQ.out.big
      have P0 := (HQ.out.wr.block _ (by have := HDD.out; omega) (by omega)).trans HP0.out
      have p0 : wr.cell? ⟨w.heap.size, 0, none⟩ = some (.int .i64 p.t.n) := za P0 0 rfl
      have p3 : wr.cell? ⟨w.heap.size, 3, none⟩ = some (.slice (some ⟨bc, oc, none⟩) p.t.cases.length kc) := za P0 3 rfl
      have p6 : wr.cell? ⟨w.heap.size, 6, none⟩ = some (.int .i64 p.k) := za P0 6 rfl
      clear P0
      by_cases hkK : k ≤ K
      case neg =>
       have HKQ : Hid (k = K + 1) := by show k = K + 1; omega
       have hle : ¬ ((k : Int) ≤ p.k) := by have := HKE.out; omega
       obtain ⟨AY, ky, rfl, _, _, _⟩ := HQ.out.vw.form yB
       have hsys := HQ.out.sys
       rw [HSC.out] at hsys
       have HSY := zH hsys
       have s9 : wr.cell? ⟨w.heap.size + 1 + 1, 9, none⟩ = some (.slice AE xs0.length ke) := za hsys 9 rfl
       have f9 := zb hsys 9
       have x0 : wr.cell? ⟨bx, 0, none⟩ = some (.int .i64 c) := za HQ.out.x 0 rfl
       have x1 : wr.cell? ⟨bx, 1, none⟩ = some (.slice A2 word.length c2) := za HQ.out.x 1 rfl
       have x2 : wr.cell? ⟨bx, 2, none⟩ = some (.slice AY (stQ vs0 N inp word k).2.length ky) := za HQ.out.x 2 rfl
       have HG4 := zH (zi wr (.cells #[.int .i64 c, .slice A2 word.length c2, .slice AY (stQ vs0 N inp word k).2.length ky] 94))
       have HO4 := zH (HQ.out.out.below yV (zG wr (.cells #[.int .i64 c, .slice A2 word.length c2, .slice AY (stQ vs0 N inp word k).2.length ky] 94)) (Nat.le_refl _))
       have hbsl := HQ.out.bsl
       have hbsw : w.heap.size + 1 + 1 < wr.heap.size := by omega
       have hbxl := HQ.out.bxl
       clear hsys
       go_wp2_with (at_builtin; obtain ⟨css, hcl, hcr, hcs⟩ := HO4.out; refine yN kXn_ok rfl (.tmp 110) (.tmp 112) rfl D (.slice AE xs0.length ke) xs0.length css.flatten rfl hcr wr.heap.size #[.int .i64 c, .slice A2 word.length c2, .slice AY (stQ vs0 N inp word k).2.length ky] rfl HG4.out rfl (by simp [Value.oneCell']) (Nat.le_trans (Nat.le_of_lt HX0.out) (by decide)) (by simp; omega) _ rfl ?_; intro g' cap w7 hr7 hg7 hat7 hlt7; have b7 := (hg7.block _ (by simp; omega) (fun e => HO4.out.ne hbsl e.symm)).trans (zX HSY.out _); have c7 := za b7 9 rfl; have fr7 := zb b7 9; have HDN := zH (Bq.done HQ.out (zG wr _) hcl hcs rfl rfl HR2.out hr7 hg7 hat7 (by rw [HSC.out]; rfl)); clear hr7 hg7 hat7 hcl hcs hcr b7)
       go_roundw
       case rel => exact ⟨j + 1, V2, _, by omega, by go_num, by rw [HRUN.out, ← HKQ.out]; exact HDN.out⟩
       case measure => simp [intOf]; omega
      case pos =>
       have hle : (k : Int) ≤ p.k := by have := HKE.out; omega
       have hkw : k ≤ 6 := by omega
       obtain ⟨vk, hvk⟩ : ∃ vk, (stQ vs0 N inp word k).1 = vk := ⟨_, rfl⟩
       obtain ⟨yk, hyk⟩ : ∃ yk, (stQ vs0 N inp word k).2 = yk := ⟨_, rfl⟩
       obtain ⟨f, hf⟩ : ∃ f, fQ inp word yk k = f := ⟨_, rfl⟩
       have hyl := stQ_len vs0 N inp word k
       have hvl := QU vs0 N inp word k
       have hyr := stQ_row vs0 N inp word k
       have hss := stQ_succ vs0 N inp word k
       rw [hvk, hyk] at HQ
       rw [hyk] at hyl hyr
       rw [hvk] at hvl
       rw [hvk, hyk, hf] at hss
       have HSS := zH hss
       have HYR := zH hyr
       have HYL := zH hyl
       have HVL : Hid (vk.length ≤ 2100 + 30) := by
        have h1 := Nat.mul_le_mul hkw hN1.2
        have h2 := HV0.out
        show vk.length ≤ 2130
        omega
       have HFF := zH hf
       clear hvk hyk hf hyl hvl hyr hss
       obtain ⟨AY, ky, rfl, _, _, _⟩ := HQ.out.vw.form yB
       go_wp2_with fail
       clear p0 p3 p6
       go_loopw [9, 10] (fun l i wx => ∃ (q : Nat) (V : Value), q ≤ N ∧ i = .int .i64 (q : Int) ∧ Hid (Bq D (w.heap.size + 1 + 1) bx SC WR c (.slice A2 word.length c2) (zY f vk q).1 xs0 yk (zY f vk q).2 V (.slice AE xs0.length ke) (.slice AY yk.length ky) l wx)) (fun _ i _ => N - (intOf i).toNat)
       case atStart => exact ⟨0, V2, by omega, rfl, HQ.out⟩
       case round =>
        clear HQ
        obtain ⟨q, V3, hq, rfl, HQ⟩ := hrel
        have hbig := HQ.out.big
        have P0 := (HQ.out.wr.block _ (by have := HDD.out; omega) (by omega)).trans HP0.out
        have p0 : wr.cell? ⟨w.heap.size, 0, none⟩ = some (.int .i64 p.t.n) := za P0 0 rfl
        have p3 : wr.cell? ⟨w.heap.size, 3, none⟩ = some (.slice (some ⟨bc, oc, none⟩) p.t.cases.length kc) := za P0 3 rfl
        clear P0
        obtain ⟨AL, kl, eL, hkl1, hkl2, _⟩ := HQ.out.row.form
        subst eL
        by_cases hqN : q < N
        case neg =>
         have HQQ : Hid (q = N) := by show q = N; omega
         have hqn : ¬ ((q : Int) < p.t.n) := by have := HNN.out; omega
         have x2 : wr.cell? ⟨bx, 2, none⟩ = some (.slice AY yk.length ky) := za HQ.out.x 2 rfl
         have HG4 := zH (zi wr (.cells #[.slice AL (zY f vk q).2.length kl] 38))
         have HO4 := zH (HQ.out.vw.below yB (zG wr (.cells #[.slice AL (zY f vk q).2.length kl] 38)) (Nat.le_refl _))
         have hbxl := HQ.out.bxl
         have hbxD := HQ.out.hx
         go_wp2_with (at_builtin; obtain ⟨css, hcl, hcr, hcs⟩ := HO4.out; refine yN Qr rfl (.tmp 104) (.tmp 106) rfl D (.slice AY yk.length ky) yk.length css.flatten rfl hcr wr.heap.size #[.slice AL (zY f vk q).2.length kl] rfl HG4.out rfl (by simp [Value.oneCell']) (by rw [HYL.out]; omega) (by simp; omega) _ rfl ?_; intro g' cap w7 hr7 hg7 hat7 hlt7; have b7 := (hg7.block bx (by simp; omega) (fun e => (HQ.out.nY bx e.symm).1 rfl)).trans (zX HQ.out.x _); have c7 := za b7 2 rfl; have fr7 := zb b7 2; have HCL := zH (Bq.close HQ.out (zG wr _) hcl hcs hr7 hg7 hat7); clear hr7 hg7 hat7 hcl hcs hcr b7)
         go_roundw
         case rel => exact ⟨k + 1, V3, _, by omega, by go_num, by rw [HSS.out, ← HQQ.out]; exact HCL.out⟩
         case measure => simp [intOf]; omega
        case pos =>
         have hqn : (q : Int) < p.t.n := by have := HNN.out; omega
         have hbel : Below w.heap.size w wr := HBR.out.trans (HQ.out.wr.below (by have := HBR.out.size; omega) (fun k h1 h2 => by have h3 : k = w.heap.size + 1 + 1 := h2; omega))
         have hcw := (hbel.cell (p := ⟨bc, oc + c * 3, none⟩) hbcl).trans HC0.out
         have hqi : q < inp.length := by have := HIL.out; omega
         obtain ⟨bi, oi, eI, hbil, hci⟩ := HIN.out.at_ q hqi
         subst eI
         have hiw := (hbel.cell (p := ⟨bi, oi + q, none⟩) hbil).trans hci
         obtain ⟨iv, hiv⟩ : ∃ iv, inp[q] = iv := ⟨_, rfl⟩
         rw [hiv] at hiw
         have HIV : Hid (inp.getD q 0 = iv) := by show _ = _; rw [List.getD_eq_getElem?_getD, List.getElem?_eq_getElem hqi, ← hiv]; rfl
         have hq0 : (0 : Int) ≤ (q : Int) := by omega
         have hq1 : (q : Int) < (inp.length : Int) := by omega
         have hcp : (0 : Int) ≤ (c : Int) := by omega
         have HF1 := zH (first_any q iv wr)
         have HPO := zH (QU vs0 N inp word k)
         have hbxl := HQ.out.bxl
         clear hbel hci hiv
         go_wp2_with fail
         refine HF1.out.mono ?_
         rintro e w5 ⟨rfl, hb5⟩
         obtain ⟨W6, hW6, b6, hs6, hB6⟩ := zk w5 (yK q iv).cells 224
         have hb6 : Below wr.heap.size wr W6 := hb5.trans (hB6.mono hb5.size)
         have hs5 := hb5.size
         have HW6 := zH hW6
         have HB6 := zH hb6
         have H11 := zH b6
         unfold Vw.cells at HW6
         unfold Vw.cells
         clear HF1 hb5 hW6 b6 hB6 hb6 hcw hiw p0 p3
         go_simp
         rename_i hKK
         refine hKK _ _ ?_
         clear hKK
         refine wpList_plain rfl fun K5 hK5 => ?_
         go_simp
         refine hK5 _ _ ?_
         clear hK5 K5
         refine wpList_plain rfl fun K5 hK5 => ?_
         go_simp
         rw [HW6.out]
         refine hK5 _ _ ?_
         clear hK5 K5 HW6
         rcases Nat.eq_zero_or_pos k with hk0 | hkp
         case' inl =>
          have hkt : ¬ ((0 : Int) < (k : Int)) := by omega
          have HFV : Hid (f q = yK q iv) := by
           show f q = _
           rw [← HFF.out, hk0]
           show yK q (inp.getD q 0) = _
           rw [HIV.out]
          rw [← HFV.out] at H11
          have H11 : Hid (W6.heap[w5.heap.size]? = some (.cells (f q).cells 224 (0, 0))) := H11
          obtain ⟨W9, hW9⟩ : ∃ W9, W6 = W9 := ⟨_, rfl⟩
          rw [hW9] at HB6 H11 ⊢
          clear hW9 HFV hk0
         case' inr =>
          obtain ⟨k', hk'⟩ : ∃ k', k = k' + 1 := ⟨k - 1, by omega⟩
          have hkt : (0 : Int) < (k : Int) := by omega
          have hksub : IntKind.i64.wrap ((k : Int) - 1) = (k' : Int) := by rw [IntKind.wrap_i64]; omega
          have hk'w : k' < word.length := by have := HWK.out; omega
          have hk'y : k' < yk.length := by have := HYL.out; omega
          have HFV : Hid (f q = qo word[k'] k q yk[k']) := by
           show f q = _
           rw [← HFF.out, hk']
           show qo (word.getD k' default) (k' + 1) q (yk.getD k' []) = _
           rw [List.getD_eq_getElem?_getD, List.getElem?_eq_getElem hk'w, List.getD_eq_getElem?_getD, List.getElem?_eq_getElem hk'y]
           rfl
          have Q6 := HQ.out.on HB6.out
          have hR6 : RAtS (fun k => w.heap.size + 1 + 1 < k ∧ k < D) W6 A2 word := HR2.out.keep (Q6.wr.keep fun k _ hs e => by have h3 : k = w.heap.size + 1 + 1 := e; omega)
          have hw6 : W6.cell? ⟨gw, j, none⟩ = some (.slice A2 word.length c2) := qB (S := fun k => w.heap.size + 1 + 1 < k ∧ k < D) (Q6.wr.keep fun k _ hs e => by have h3 : k = w.heap.size + 1 + 1 := e; omega) ⟨hg1, hg2⟩ HGW.out
          obtain ⟨br, or_, eA2, hbr, r0, r1, r2, r3, r4, r5, r6⟩ := hR6.rat.row k' hk'w
          subst eA2
          obtain ⟨AYx, kyx, eY, _, _, hYc⟩ := Q6.vw.form yB
          cases eY
          obtain ⟨gy, eAY, _, hgy, hyc⟩ := hYc (by omega)
          subst eAY
          obtain ⟨cs, ⟨A3, c3, rfl, hI3⟩, hcell⟩ := hyc k' hk'y
          have hy6 : W6.cell? ⟨gy, k', none⟩ = some (.slice A3 yk[k'].length c3) := by simpa [cIs, kIs] using hcell 0 _ rfl
          have x6 : W6.cell? ⟨bx, 2, none⟩ = some (.slice (some ⟨gy, 0, none⟩) yk.length ky) := za Q6.x 2 rfl
          have hrl := HYR.out k' hk'y
          obtain ⟨row, hrow⟩ : ∃ row, yk[k'] = row := ⟨_, rfl⟩
          obtain ⟨rd, hrd⟩ : ∃ rd, word[k'] = rd := ⟨_, rfl⟩
          have hrf := HWF.out word[k'] (List.getElem_mem hk'w)
          rw [hrow] at hy6 hI3 hrl HFV
          rw [hrd] at r0 r1 r2 r3 r4 r5 r6 hrf HFV
          have hhs := uN (kL hrf.1).2.2.1 q (by omega)
          have HSE := zH (fun (X : World) (hX : Below W6.heap.size W6 X) => seen_any rd k q (by omega) hhs A3 c3 row (by rw [hrf.2, hrl]) (by omega) X ((hI3.iat.keep hX).more hX.size))
          have hk'0 : (0 : Int) ≤ (k' : Int) := by omega
          have hk'1 : (k' : Int) < (word.length : Int) := by omega
          have hk'2 : (k' : Int) < (yk.length : Int) := by omega
          have hjp : (0 : Int) ≤ (j : Int) := by omega
          have HKS := zH hk'
          have h11l : w5.heap.size < W6.heap.size := zd H11.out
          clear hkp hk' Q6 hR6 hYc hyc hcell hI3 hrow hrd hrf hhs hrl
          go_wp2_with fail
          go_still_tail 17, (by kernel_rfl)
          change wpList _ _ _ _ _ W6.drew
          obtain ⟨W7, hW7⟩ : ∃ W7, W7 = W6.drew := ⟨_, rfl⟩
          have HB7 : Hid (Below W6.heap.size W6 W7) := by rw [hW7]; exact (Below.refl _ _).drew
          rw [← hW7]
          clear hW7 r0 r1 r2 r3 r4 r5 r6 hw6 hy6 x6
          go_wp2_with fail
          refine (HSE.out W7 HB7.out).mono ?_
          rintro e w8 ⟨rfl, hb8⟩
          obtain ⟨vv, hvv⟩ : ∃ vv, qo rd k q row = vv := ⟨_, rfl⟩
          rw [hvv] at HFV ⊢
          have hb68 : Below W6.heap.size W6 w8 := HB7.out.trans (hb8.mono HB7.out.size)
          have b8 := (hb68.block _ h11l).trans H11.out
          unfold Vw.cells at b8
          obtain ⟨k1, k2⟩ := JC vv b8 (HB6.out.trans (hb68.mono HB6.out.size)) (by omega : wr.heap.size ≤ w5.heap.size)
          obtain ⟨W9, hW9⟩ : ∃ W9, ((((((((w8.setCell ⟨w5.heap.size, 0, none⟩ (.int .i64 vv.p)).setCell ⟨w5.heap.size, 1, none⟩ (.int .i64 vv.r)).setCell ⟨w5.heap.size, 2, none⟩ (.int .i64 vv.i)).setCell ⟨w5.heap.size, 3, none⟩ (.int .i64 vv.h0)).setCell ⟨w5.heap.size, 4, none⟩ (.int .i64 vv.h1)).setCell ⟨w5.heap.size, 5, none⟩ (.int .i64 vv.h2)).setCell ⟨w5.heap.size, 6, none⟩ (.int .i64 vv.h3)).setCell ⟨w5.heap.size, 7, none⟩ (.int .i64 vv.h4)) = W9 := ⟨_, rfl⟩
          rw [hW9] at k1 k2
          have HW9 := zH hW9
          have y0 : w8.cell? ⟨w5.heap.size, 0, none⟩ = some (.int .i64 (yK q iv).p) := za b8 0 rfl
          have fr0 := zb b8 0
          have y1 : w8.cell? ⟨w5.heap.size, 1, none⟩ = some (.int .i64 (yK q iv).r) := za b8 1 rfl
          have fr1 := zb b8 1
          have y2 : w8.cell? ⟨w5.heap.size, 2, none⟩ = some (.int .i64 (yK q iv).i) := za b8 2 rfl
          have fr2 := zb b8 2
          have y3 : w8.cell? ⟨w5.heap.size, 3, none⟩ = some (.int .i64 (yK q iv).h0) := za b8 3 rfl
          have fr3 := zb b8 3
          have y4 : w8.cell? ⟨w5.heap.size, 4, none⟩ = some (.int .i64 (yK q iv).h1) := za b8 4 rfl
          have fr4 := zb b8 4
          have y5 : w8.cell? ⟨w5.heap.size, 5, none⟩ = some (.int .i64 (yK q iv).h2) := za b8 5 rfl
          have fr5 := zb b8 5
          have y6 : w8.cell? ⟨w5.heap.size, 6, none⟩ = some (.int .i64 (yK q iv).h3) := za b8 6 rfl
          have fr6 := zb b8 6
          have y7 : w8.cell? ⟨w5.heap.size, 7, none⟩ = some (.int .i64 (yK q iv).h4) := za b8 7 rfl
          have fr7 := zb b8 7
          have H11 : Hid (W9.heap[w5.heap.size]? = some (.cells (f q).cells 224 (0, 0))) := by rw [HFV.out]; exact k1
          have HB6 : Hid (Below wr.heap.size wr W9) := k2
          clear hb68 b8 k1 k2 hW9 hvv hb8 HSE HB7 HFV
          unfold Vw.cells
          go_simp
          rename_i hKK
          refine hKK _ _ ?_
          refine wpList_plain rfl fun K5 hK5 => ?_
          go_simp
          rw [HW9.out]
          refine hK5 _ _ ?_
          clear HW9 HKS hkt hksub y0 y1 y2 y3 y4 y5 y6 y7 fr0 fr1 fr2 fr3 fr4 fr5 fr6 fr7
         all_goals
          have Q9 := HQ.out.on HB6.out
          have hrf := kr f vk q
          have hrl2 := xx f vk q
          obtain ⟨AV, kv, eV, hT⟩ := Q9.tb.form (by have := HVL.out; omega)
          subst eV
          have HPU := zH (put_any p.t.n AV kv (zY f vk q).1 (f q) W9 hT (by have := HVL.out; omega))
          have hsys := Q9.sys
          rw [HSC.out] at hsys
          have s7 : W9.cell? ⟨w.heap.size + 1 + 1, 7, none⟩ = some (.int .i64 p.t.n) := za hsys 7 rfl
          have s8 : W9.cell? ⟨w.heap.size + 1 + 1, 8, none⟩ = some (.slice AV (zY f vk q).1.length kv) := za hsys 8 rfl
          have HQ9 := zH Q9
          have HRL2 := zH hrl2
          obtain ⟨v, hv⟩ : ∃ v, f q = v := ⟨_, rfl⟩
          have HFQ := zH hv
          rw [hv] at HPU H11
          have x0 : W9.cell? ⟨w5.heap.size, 0, none⟩ = some (.int .i64 v.p) := za H11.out 0 rfl
          have x1 : W9.cell? ⟨w5.heap.size, 1, none⟩ = some (.int .i64 v.r) := za H11.out 1 rfl
          have x2 : W9.cell? ⟨w5.heap.size, 2, none⟩ = some (.int .i64 v.i) := za H11.out 2 rfl
          have x3 : W9.cell? ⟨w5.heap.size, 3, none⟩ = some (.int .i64 v.h0) := za H11.out 3 rfl
          have x4 : W9.cell? ⟨w5.heap.size, 4, none⟩ = some (.int .i64 v.h1) := za H11.out 4 rfl
          have x5 : W9.cell? ⟨w5.heap.size, 5, none⟩ = some (.int .i64 v.h2) := za H11.out 5 rfl
          have x6 : W9.cell? ⟨w5.heap.size, 6, none⟩ = some (.int .i64 v.h3) := za H11.out 6 rfl
          have x7 : W9.cell? ⟨w5.heap.size, 7, none⟩ = some (.int .i64 v.h4) := za H11.out 7 rfl
          clear hv hrf hrl2 hT hsys Q9
          go_wp2_with fail
          all_goals first | (exfalso; omega) | skip
          refine HPU.out.mono ?_
          rintro e w10 hput
          obtain ⟨A3, k3, rfl, hO3, hV3, hb10⟩ := put_out hput HQ9.out.tb HQ9.out.big
          have B10 := HB6.out.trans (hb10.mono HB6.out.size)
          have hsys := (HQ.out.on B10).sys
          rw [HSC.out] at hsys
          have s7 : w10.cell? ⟨w.heap.size + 1 + 1, 7, none⟩ = some (.int .i64 p.t.n) := za hsys 7 rfl
          have s8 : w10.cell? ⟨w.heap.size + 1 + 1, 8, none⟩ = some (.slice AV (zY f vk q).1.length kv) := za hsys 8 rfl
          have f7 := zb hsys 7
          have f8 := zb hsys 8
          have HS10 := zH hsys
          obtain ⟨vs', hvs'⟩ : ∃ vs', (qe (zY f vk q).1 v).1 = vs' := ⟨_, rfl⟩
          obtain ⟨iz, hiz⟩ : ∃ iz, (qe (zY f vk q).1 v).2 = iz := ⟨_, rfl⟩
          rw [hvs'] at hO3 hV3
          have HVS := zH hvs'
          have HIZ := zH hiz
          have HO3 := zH hO3
          have HV3 := zH hV3
          have HB10 := zH B10
          have hs10 := B10.size
          have hbsl := HQ.out.bsl
          rw [hvs', hiz]
          clear hput hO3 hV3 hb10 B10 hsys hvs' hiz HPU x0 x1 x2 x3 x4 x5 x6 x7 H11
          obtain ⟨W11, hW11, b11, hs11, hB11⟩ := zk w10 #[.int .i64 p.t.n, .slice A3 vs'.length k3] 32
          have HW11 := zH hW11
          have HB11 : Hid (Below wr.heap.size wr W11) := HB10.out.trans (hB11.mono hs10)
          have t0 : W11.cell? ⟨w10.heap.size, 0, none⟩ = some (.int .i64 p.t.n) := za b11 0 rfl
          have t1 : W11.cell? ⟨w10.heap.size, 1, none⟩ = some (.slice A3 vs'.length k3) := za b11 1 rfl
          have hsys := (HQ.out.on HB11.out).sys
          rw [HSC.out] at hsys
          have e7 : W11.cell? ⟨w.heap.size + 1 + 1, 7, none⟩ = some (.int .i64 p.t.n) := za hsys 7 rfl
          have e8 : W11.cell? ⟨w.heap.size + 1 + 1, 8, none⟩ = some (.slice AV (zY f vk q).1.length kv) := za hsys 8 rfl
          have fe7 := zb hsys 7
          have fe8 := zb hsys 8
          have hbs11 : w.heap.size + 1 + 1 < W11.heap.size := by omega
          have HPT := zH (Bq.put HQ.out HB11.out (u := .int .i64 p.t.n) (HO3.out.of_same fun k hk => hB11.block k (HO3.out.lt' k hk).2) (fun k hk => by
           rcases HV3.out k hk with e | e
           · exact .inl e
           · exact .inr (by have := HB6.out.size; omega)) (by rw [HSC.out]; rfl) (by rw [HSC.out]; rfl))
          obtain ⟨Y10, hY10⟩ : ∃ Y10, (W11.setCell ⟨w.heap.size + 1 + 1, 7, none⟩ (.int .i64 p.t.n)).setCell ⟨w.heap.size + 1 + 1, 8, none⟩ (.slice A3 vs'.length k3) = Y10 := ⟨_, rfl⟩
          rw [hY10] at HPT
          have HY10 := zH hY10
          have hsz10 : Y10.heap.size = W11.heap.size := by rw [← hY10]; simp
          have HGN : Hid ((Y10.alloc (.cells #[.int .i64 iz] 3)).heap[w10.heap.size + 1]? = some (.cells #[.int .i64 iz] 3 (0, 0))) := by show _ = _; rw [← hs11, ← hsz10]; exact zi Y10 _
          have HRN := zH (HPT.out.row.alloc (.cells #[.int .i64 iz] 3))
          have HDY := zH HPT.out.big
          have HRW : Hid (zY f vk (q + 1) = (vs', (zY f vk q).2 ++ [iz])) := by
           show (_, _) = _
           rw [HFQ.out, HVS.out, HIZ.out]
          clear hW11 b11 hB11 hsys hY10 s7 s8 f7 f8 HS10 HO3 HV3 HVS HIZ HFQ HQ9
          go_simp
          rename_i hKK
          refine hKK _ _ ?_
          clear hKK
          refine wpList_plain rfl fun K5 hK5 => ?_
          go_simp
          refine hK5 _ _ ?_
          clear hK5 K5
          refine wpList_plain rfl fun K5 hK5 => ?_
          go_simp
          refine hK5 _ _ ?_
          clear hK5 K5
          refine wpList_plain rfl fun K5 hK5 => ?_
          go_simp
          refine hK5 _ _ ?_
          clear hK5 K5
          refine wpList_plain rfl fun K5 hK5 => ?_
          go_simp
          refine hK5 _ _ ?_
          clear hK5 K5
          refine wpList_plain rfl fun K5 hK5 => ?_
          go_simp
          rw [HW11.out]
          refine hK5 _ _ ?_
          clear hK5 K5 HW11
          have HRL3 : Hid ((zY f vk q).2.length ≤ 1000000000) := by show _ ≤ _; rw [HRL2.out]; omega
          have HDZ : Hid (D ≤ (Y10.alloc (.cells #[.int .i64 iz] 3)).heap.size) := by show _ ≤ _; have := HDY.out; simp; omega
          go_wp2_with (at_builtin; go_loud (rw [HY10.out]; refine yN gh rfl (.tmp 99) (.tmp 101) rfl D (.slice AL (zY f vk q).2.length kl) (zY f vk q).2.length ((zY f vk q).2.map (Value.int .i64)) rfl HRN.out (w10.heap.size + 1) #[.int .i64 iz] rfl HGN.out rfl (by simp [Value.oneCell']) HRL3.out HDZ.out _ rfl ?_; intro g' cap w12 hr7 hg7 hat7 hlt7; have HPS := zH (Bq.push HPT.out (zG Y10 _) hr7 hg7 hat7); clear hr7 hg7 hat7))
          go_roundw
          case rel => exact ⟨q + 1, _, by omega, by go_num, by rw [HRW.out]; exact HPS.out⟩
          case measure => simp [intOf]; omega
end
section
open Go.RowKit
attribute [local go_sem] Oper.semAt_some
theorem num_many {p : Pb} (h : zK p = 0) : 4096 < Zc p ↔ 4096 < zT p := by
 obtain ⟨hpt, _⟩ := zS h
 obtain ⟨h1, _⟩ := yP hpt
 have e : zT p = p.t.cases.length * zO p.a p.k.toNat 0 := by unfold zT; rw [Nat.mul_comm]
 rw [e]
 exact QW 4096 p.t.cases.length (zO p.a p.k.toNat 0) h1
set_option maxRecDepth 100000 in
theorem X5 (p : Pb) (hf : xT p) (A : Option Addr) (kc : Nat) (SV : Option Addr) (ks : Nat) (w : World) (hA : CAt w w.heap.size A p.t.cases) (hS : SAt w w.heap.size SV p.a.sts) :
  Calls Tryz.prog 110 #[.agg (p.vs A kc SV ks)] w (RetSys (zM p) w) := by
 have HC := zH (fun (w' : World) (h1 : CAt w' w'.heap.size A p.t.cases) (h2 : SAt w' w'.heap.size SV p.a.sts) => uD p hf.1 A kc SV ks w' h1 h2)
 have HN := zH (fun (w' : World) (h0 : zK p = 0) (h : SAt w' w'.heap.size SV p.a.sts) =>
  Zq p hf.1 (yY hf.1.2 (zS h0).2.1).1 (yY hf.1.2 (zS h0).2.1).2.1 p.k.toNat 4096 (by have := (zS h0).2.2.2.1; omega) (by have := (zS h0).2.2.2.2; omega) (by decide) A kc SV ks w' h)
 have HB := zH (fun (h0 : zK p = 0) (h60 : zT p ≤ 60) (w' : World) (h1 : CAt w' w'.heap.size A p.t.cases) (h2 : SAt w' w'.heap.size SV p.a.sts) => built_any p hf h0 h60 A kc SV ks w' h1 h2)
 have HBad := zH (@xK p)
 have HMany := zH (@xO p)
 have HOk := zH (@qE p)
 have HNM := zH (@num_many p)
 have HFX := zH hf.2
 obtain ⟨R, hR⟩ : ∃ R, zM p = R := ⟨_, rfl⟩
 rw [hR] at HBad HMany HOk ⊢
 obtain ⟨w1, hw1, d0, d1, hs1, hB1⟩ := zW w (p.vs A kc SV ks) #[.int .i64 0, .int .i64 0, .int .i64 0, .slice none 0 0, .int .i64 0, .slice none 0 0, .int .i64 0, .int .i64 0, .slice none 0 0, .slice none 0 0] 29 35
 have HAW := zH hA
 have HSW := zH hS
 have HA := zH ((hA.keep hB1).more hB1.size)
 have HS := zH ((hS.keep hB1).more hB1.size)
 unfold Pb.vs at hw1 d0 ⊢
 have HW1 := zH hw1
 have HD0 := zH d0
 have HD1 := zH d1
 have HB1 := zH hB1
 have p0 := za d0 0 rfl
 have p1 := za d0 1 rfl
 have p2 := za d0 2 rfl
 have p3 := za d0 3 rfl
 have p4 := za d0 4 rfl
 have p5 := za d0 5 rfl
 have p6 := za d0 6 rfl
 obtain ⟨E, hE⟩ : ∃ E, zK p = E := ⟨_, rfl⟩
 have HPE := zH hE
 rw [hE] at HC HBad
 obtain ⟨M, hM⟩ : ∃ M, p.t.cases.length * yH 4096 (zO p.a p.k.toNat 0) = M := ⟨_, rfl⟩
 have HMM : Hid (Zc p = M) := hM
 rw [hM] at HN
 clear hw1 d0 d1 hB1 hA hS hf hR hE hM
 go_enter Tryz.func110, Tryz.ntmps110
 go_wp2_with fail
 rw [HW1.out]
 go_wp2_with fail
 refine (HC.out w1 HA.out HS.out).mono ?_
 rintro e w2 ⟨rfl, hb2⟩
 have B2 := zH (HB1.out.trans (hb2.mono (by omega)))
 have HA2 := zH ((HA.out.keep hb2).more hb2.size)
 have HS2 := zH ((HS.out.keep hb2).more hb2.size)
 have hs2 := hb2.size
 have d0 := (hb2.block _ (zd HD0.out)).trans HD0.out
 have d1 := (hb2.block _ (zd HD1.out)).trans HD1.out
 have HE0 := zH d0
 have HE1 := zH d1
 clear hb2 HC HW1 HD0 HD1 HA HS p0 p1 p2 p3 p4 p5 p6
 have p0 := za d0 0 rfl
 have p1 := za d0 1 rfl
 have p2 := za d0 2 rfl
 have p3 := za d0 3 rfl
 have p4 := za d0 4 rfl
 have p5 := za d0 5 rfl
 have p6 := za d0 6 rfl
 by_cases h0 : E = 0
 case neg =>
  have hR := zH (HBad.out h0)
  have e0 : (E != 0) = true := by simpa using h0
  have y0 := za d1 0 rfl
  have f0 := zb d1 0
  have y1 := za d1 1 rfl
  have f1 := zb d1 1
  have y2 := za d1 2 rfl
  have f2 := zb d1 2
  have y3 := za d1 3 rfl
  have f3 := zb d1 3
  have y4 := za d1 4 rfl
  have f4 := zb d1 4
  have y5 := za d1 5 rfl
  have f5 := zb d1 5
  have y6 := za d1 6 rfl
  have f6 := zb d1 6
  have y7 := za d1 7 rfl
  have f7 := zb d1 7
  have y8 := za d1 8 rfl
  have f8 := zb d1 8
  have y9 := za d1 9 rfl
  have f9 := zb d1 9
  obtain ⟨k1, k2, k3⟩ := qQ (.int .i64 0) (.int .i64 0) (.int .i64 0) (.slice none 0 0) (.int .i64 0) (.slice none 0 0) (.int .i64 0) (.int .i64 0) (.slice none 0 0) (.slice none 0 0) d1 B2.out (by omega : w.heap.size ≤ w.heap.size + 1)
  obtain ⟨WF, hWF⟩ : ∃ WF, ((((((((((w2.setCell ⟨w.heap.size + 1, 0, none⟩ (.int .i64 0)).setCell ⟨w.heap.size + 1, 1, none⟩ (.int .i64 0)).setCell ⟨w.heap.size + 1, 2, none⟩ (.int .i64 0)).setCell ⟨w.heap.size + 1, 3, none⟩ (.slice none 0 0)).setCell ⟨w.heap.size + 1, 4, none⟩ (.int .i64 0)).setCell ⟨w.heap.size + 1, 5, none⟩ (.slice none 0 0)).setCell ⟨w.heap.size + 1, 6, none⟩ (.int .i64 0)).setCell ⟨w.heap.size + 1, 7, none⟩ (.int .i64 0)).setCell ⟨w.heap.size + 1, 8, none⟩ (.slice none 0 0)).setCell ⟨w.heap.size + 1, 9, none⟩ (.slice none 0 0)) = WF := ⟨_, rfl⟩
  rw [hWF] at k1 k2 k3
  have HK1 := zH k1
  have HK2 := zH k2
  have HK3 := zH k3
  have HWF := zH hWF
  clear k1 k2 k3 hWF
  clear HMany HOk HNM HN HB HFX h0 d0 d1
  go_wp2_with fail
  rw [HWF.out]
  obtain ⟨z0, z1, z2, z3, z4, z5, z6, z7, z8, z9⟩ := zv HK1.out
  refine bodyPost_ret (v := .tuple #[.agg #[.int .i64 0, .int .i64 0, .int .i64 0, .slice none 0 0, .int .i64 0, .slice none 0 0, .int .i64 0, .int .i64 0, .slice none 0 0, .slice none 0 0], .int .i64 E]) (by simp [results, Tryz.results110, go_sem, z0, z1, z2, z3, z4, z5, z6, z7, z8, z9]) rfl ?_
  rw [hR.out]
  exact RetSys.zero _ HK2.out
 case pos =>
 subst h0
 clear HBad
 go_wp2_with fail
 refine (HN.out w2 HPE.out HS2.out).mono ?_
 rintro e w3 ⟨rfl, hb3⟩
 have B3 := zH (B2.out.trans (hb3.mono (by omega)))
 have HA3 := zH ((HA2.out.keep hb3).more hb3.size)
 have HS3 := zH ((HS2.out.keep hb3).more hb3.size)
 have hs3 := hb3.size
 have d0 := (hb3.block _ (zd HE0.out)).trans HE0.out
 have d1 := (hb3.block _ (zd HE1.out)).trans HE1.out
 have HF0 := zH d0
 have HF1 := zH d1
 clear hb3 HN HE0 HE1 HA2 HS2 p0 p1 p2 p3 p4 p5 p6
 by_cases hm : 4096 < M
 case pos =>
  have hR := zH (HMany.out HPE.out ((HNM.out HPE.out).1 (by rw [HMM.out]; exact hm)))
  have hmi : (4096 : Int) < (M : Int) := by omega
  have y0 := za d1 0 rfl
  have f0 := zb d1 0
  have y1 := za d1 1 rfl
  have f1 := zb d1 1
  have y2 := za d1 2 rfl
  have f2 := zb d1 2
  have y3 := za d1 3 rfl
  have f3 := zb d1 3
  have y4 := za d1 4 rfl
  have f4 := zb d1 4
  have y5 := za d1 5 rfl
  have f5 := zb d1 5
  have y6 := za d1 6 rfl
  have f6 := zb d1 6
  have y7 := za d1 7 rfl
  have f7 := zb d1 7
  have y8 := za d1 8 rfl
  have f8 := zb d1 8
  have y9 := za d1 9 rfl
  have f9 := zb d1 9
  obtain ⟨k1, k2, k3⟩ := qQ (.int .i64 0) (.int .i64 0) (.int .i64 0) (.slice none 0 0) (.int .i64 0) (.slice none 0 0) (.int .i64 0) (.int .i64 0) (.slice none 0 0) (.slice none 0 0) d1 B3.out (by omega : w.heap.size ≤ w.heap.size + 1)
  obtain ⟨WF, hWF⟩ : ∃ WF, ((((((((((w3.setCell ⟨w.heap.size + 1, 0, none⟩ (.int .i64 0)).setCell ⟨w.heap.size + 1, 1, none⟩ (.int .i64 0)).setCell ⟨w.heap.size + 1, 2, none⟩ (.int .i64 0)).setCell ⟨w.heap.size + 1, 3, none⟩ (.slice none 0 0)).setCell ⟨w.heap.size + 1, 4, none⟩ (.int .i64 0)).setCell ⟨w.heap.size + 1, 5, none⟩ (.slice none 0 0)).setCell ⟨w.heap.size + 1, 6, none⟩ (.int .i64 0)).setCell ⟨w.heap.size + 1, 7, none⟩ (.int .i64 0)).setCell ⟨w.heap.size + 1, 8, none⟩ (.slice none 0 0)).setCell ⟨w.heap.size + 1, 9, none⟩ (.slice none 0 0)) = WF := ⟨_, rfl⟩
  rw [hWF] at k1 k2 k3
  have HK1 := zH k1
  have HK2 := zH k2
  have HK3 := zH k3
  have HWF := zH hWF
  clear k1 k2 k3 hWF
  clear HMany HOk HNM HB HFX d0 d1
  go_wp2_with fail
  rw [HWF.out]
  obtain ⟨z0, z1, z2, z3, z4, z5, z6, z7, z8, z9⟩ := zv HK1.out
  refine bodyPost_ret (v := .tuple #[.agg #[.int .i64 0, .int .i64 0, .int .i64 0, .slice none 0 0, .int .i64 0, .slice none 0 0, .int .i64 0, .int .i64 0, .slice none 0 0, .slice none 0 0], .int .i64 17]) (by simp [results, Tryz.results110, go_sem, z0, z1, z2, z3, z4, z5, z6, z7, z8, z9]) rfl ?_
  rw [hR.out]
  exact RetSys.zero _ HK2.out
 case neg =>
 have hex : ¬ (4096 < zT p) := fun h => hm (by rw [← HMM.out]; exact (HNM.out HPE.out).2 h)
 have h60 : zT p ≤ 60 := by
  rcases HFX.out HPE.out with h | h
  · exact h
  · exact absurd h hex
 have hR := zH (HOk.out HPE.out (by omega))
 have hmi : ¬ ((4096 : Int) < (M : Int)) := by omega
 have HB' := zH (HB.out HPE.out h60 w3 HA3.out HS3.out)
 have HFW := zH (Z1 p HPE.out h60).1
 have p0 := za d0 0 rfl
 have p1 := za d0 1 rfl
 have p2 := za d0 2 rfl
 have p3 := za d0 3 rfl
 have p4 := za d0 4 rfl
 have p5 := za d0 5 rfl
 have p6 := za d0 6 rfl
 clear HMany HOk HNM HB HFX hex h60 d0 d1 HMM
 go_wp2_with fail
 all_goals first | (exfalso; omega) | skip
 refine HB'.out.mono ?_
 rintro e w4 ⟨AV, kv, AE, ke, rfl, hV, hX, hb4⟩
 have B4 := zH (B3.out.trans (hb4.mono (by omega)))
 have HVO := zH hV
 have HXO := zH hX
 have hs4 := hb4.size
 have d1 := (hb4.block _ (zd HF1.out)).trans HF1.out
 have HG1 := zH d1
 have HA4 := zH ((HA3.out.keep hb4).more hb4.size)
 have HS4 := zH ((HS3.out.keep hb4).more hb4.size)
 clear hV hX hb4 HB' HF0 HF1 p0 p1 p2 p3 p4 p5 p6 d1
 obtain ⟨W5, hW5, b5, hs5, hB5⟩ := zk w4 #[.int .i64 p.t.n, .int .i64 p.t.ins, .int .i64 p.t.outs, .slice A p.t.cases.length kc, .int .i64 p.a.n, .slice SV p.a.sts.length ks, .int .i64 p.k, .int .i64 p.t.n, .slice AV (zu p (zy p)).1.length kv, .slice AE (zu p (zy p)).2.length ke] 35
 have d1 := (hB5.block _ (zd HG1.out)).trans HG1.out
 have B5 := zH (B4.out.trans (hB5.mono (by omega)))
 have HB5 := zH hB5
 have HW5 := zH hW5
 obtain ⟨x0, x1, x2, x3, x4, x5, x6, x7, x8, x9⟩ := zv b5
 have hfv : ¬ ((8192 : Int) < ((zu p (zy p)).1.length : Int)) := by have := HFW.out; omega
 clear hW5 hB5 b5
 go_simp
 rename_i hKK
 refine hKK _ _ ?_
 clear hKK
 refine wpList_plain rfl fun K5 hK5 => ?_
 go_simp
 refine hK5 _ _ ?_
 clear hK5 K5
 refine wpList_plain rfl fun K5 hK5 => ?_
 go_simp
 rw [HW5.out]
 refine hK5 _ _ ?_
 clear hK5 K5 HW5
 have y0 := za d1 0 rfl
 have f0 := zb d1 0
 have y1 := za d1 1 rfl
 have f1 := zb d1 1
 have y2 := za d1 2 rfl
 have f2 := zb d1 2
 have y3 := za d1 3 rfl
 have f3 := zb d1 3
 have y4 := za d1 4 rfl
 have f4 := zb d1 4
 have y5 := za d1 5 rfl
 have f5 := zb d1 5
 have y6 := za d1 6 rfl
 have f6 := zb d1 6
 have y7 := za d1 7 rfl
 have f7 := zb d1 7
 have y8 := za d1 8 rfl
 have f8 := zb d1 8
 have y9 := za d1 9 rfl
 have f9 := zb d1 9
 obtain ⟨k1, k2, k3⟩ := qQ (.int .i64 p.t.n) (.int .i64 p.t.ins) (.int .i64 p.t.outs) (.slice A p.t.cases.length kc) (.int .i64 p.a.n) (.slice SV p.a.sts.length ks) (.int .i64 p.k) (.int .i64 p.t.n) (.slice AV (zu p (zy p)).1.length kv) (.slice AE (zu p (zy p)).2.length ke) d1 B5.out (by omega : w.heap.size ≤ w.heap.size + 1)
 obtain ⟨WF, hWF⟩ : ∃ WF, ((((((((((W5.setCell ⟨w.heap.size + 1, 0, none⟩ (.int .i64 p.t.n)).setCell ⟨w.heap.size + 1, 1, none⟩ (.int .i64 p.t.ins)).setCell ⟨w.heap.size + 1, 2, none⟩ (.int .i64 p.t.outs)).setCell ⟨w.heap.size + 1, 3, none⟩ (.slice A p.t.cases.length kc)).setCell ⟨w.heap.size + 1, 4, none⟩ (.int .i64 p.a.n)).setCell ⟨w.heap.size + 1, 5, none⟩ (.slice SV p.a.sts.length ks)).setCell ⟨w.heap.size + 1, 6, none⟩ (.int .i64 p.k)).setCell ⟨w.heap.size + 1, 7, none⟩ (.int .i64 p.t.n)).setCell ⟨w.heap.size + 1, 8, none⟩ (.slice AV (zu p (zy p)).1.length kv)).setCell ⟨w.heap.size + 1, 9, none⟩ (.slice AE (zu p (zy p)).2.length ke)) = WF := ⟨_, rfl⟩
 rw [hWF] at k1 k2 k3
 have HK1 := zH k1
 have HK2 := zH k2
 have HK3 := zH k3
 have HWF := zH hWF
 clear k1 k2 k3 hWF
 clear d1
 go_wp2_with fail
 rw [HWF.out]
 obtain ⟨z0, z1, z2, z3, z4, z5, z6, z7, z8, z9⟩ := zv HK1.out
 refine bodyPost_ret (v := .tuple #[.agg #[.int .i64 p.t.n, .int .i64 p.t.ins, .int .i64 p.t.outs, .slice A p.t.cases.length kc, .int .i64 p.a.n, .slice SV p.a.sts.length ks, .int .i64 p.k, .int .i64 p.t.n, .slice AV (zu p (zy p)).1.length kv, .slice AE (zu p (zy p)).2.length ke], .int .i64 0]) (by simp [results, Tryz.results110, go_sem, z0, z1, z2, z3, z4, z5, z6, z7, z8, z9]) rfl ?_
 rw [hR.out]
 have hsame : ∀ k, k ≠ w.heap.size + 1 → k < w4.heap.size → WF.heap[k]? = w4.heap[k]? := fun k a b => (HK3.out.2.1 k a).trans (HB5.out.block k b)
 have hz : w4.heap.size ≤ WF.heap.size := by have := HB5.out.size; have := HK3.out.2.2; omega
 obtain ⟨AV', kv', eV, hT⟩ := (HVO.out.of_same fun k hk => hsame k (by have := (HVO.out.lt' k hk).1; omega) (HVO.out.lt' k hk).2).form (by have := HFW.out; omega)
 cases eV
 obtain ⟨AE', ke', eE, _, _, hXA⟩ := cXn_form (HXO.out.keep yV ⟨hz, fun k hs hl => hsame k (by omega) hl⟩ fun k hk => hsame k (by have := (HXO.out.lt k hk).1; omega) (HXO.out.lt k hk).2)
 cases eE
 exact ⟨A, kc, SV, ks, AV, kv, AE, ke, rfl, ⟨(HAW.out.keep HK2.out).more HK2.out.size, (HSW.out.keep HK2.out).more HK2.out.size, hT.rows, hXA⟩, hT.lec, hT.lem, HK2.out⟩
end
section
open Go.RowKit
attribute [local go_sem] Oper.semAt_some
set_option maxRecDepth 100000 in
theorem rver_any (s : Sy) (hs : LowS s) (hf : xT s.p) (A SV AV AX : Option Addr) (kc ks kv kx : Nat) (w : World) (hS : SyAt w w.heap.size A SV AV AX s) :
  Calls Tryz.prog 85 #[.agg (s.vs_ A kc SV ks AV kv AX kx)] w fun e w' => e = .returned (.int .i64 (xU s)) ∧ Below w.heap.size w w' := by
 obtain ⟨w1, hw1⟩ : ∃ w1, w.alloc (.cells (s.vs_ A kc SV ks AV kv AX kx) 35) = w1 := ⟨_, rfl⟩
 have hbb := zi w (.cells (s.vs_ A kc SV ks AV kv AX kx) 35)
 have hb01 : Below w.heap.size w w1 := by rw [← hw1]; exact zG w _
 have hsz1 : w1.heap.size = w.heap.size + 1 := by rw [← hw1]; simp
 rw [hw1] at hbb
 have HS1 := zH (hS.up hb01)
 have HB := zH (X5 s.p hf A kc SV ks w1 (hS.up hb01).fc (hS.up hb01).fs)
 have HLB := zH (um hs.fp hf)
 have HLS := zH hs
 have HVE : Hid (xU s = if (zM s.p).2 ≠ 0 then (zM s.p).2 else if s = (zM s.p).1 then 0 else 3) := rfl
 have HBO := zH (fun (h : (zM s.p).2 = 0) => (by
  by_cases h0 : zK s.p = 0
  case neg => rw [xK h0] at h; exact absurd h h0
  case pos =>
   by_cases h1 : 4096 < zT s.p
   · rw [xO h0 h1] at h; cases h
   · rw [qE h0 (by omega)]; exact ⟨rfl, rfl⟩ : (zM s.p).1.p = s.p ∧ (zM s.p).1.n = s.p.t.n))
 unfold Sy.vs_ at hw1 hbb ⊢
 unfold Pb.vs at HB
 have HW1 := zH hw1
 have HBB := zH hbb
 have HB01 := zH hb01
 have p0 := za hbb 0 rfl
 have p1 := za hbb 1 rfl
 have p2 := za hbb 2 rfl
 have p3 := za hbb 3 rfl
 have p4 := za hbb 4 rfl
 have p5 := za hbb 5 rfl
 have p6 := za hbb 6 rfl
 obtain ⟨R, hR⟩ : ∃ R, zM s.p = R := ⟨_, rfl⟩
 rw [hR] at HB HLB HVE HBO
 obtain ⟨r, hr⟩ : ∃ r, xU s = r := ⟨_, rfl⟩
 rw [hr] at HVE ⊢
 clear hw1 hbb hb01 hS hs hf hR hr
 go_enter Tryz.func85, Tryz.ntmps85
 go_wp2_with fail
 rw [HW1.out]
 go_wp2_with fail
 refine HB.out.mono ?_
 rintro e w2 ⟨A2, kc2, SV2, ks2, AV2, kv2, AX2, kx2, rfl, hS2, hv1, hv2, hb2⟩
 obtain ⟨T, E⟩ := R
 obtain ⟨W3, hW3, b3, hs3, hB3⟩ := zk w2 (T.vs_ A2 kc2 SV2 ks2 AV2 kv2 AX2 kx2) 35
 have HS3 := zH (hS2.up hB3)
 have HB3 := zH (HB01.out.trans ((hb2.trans (hB3.mono hb2.size)).mono (by omega)))
 have hs2 := hb2.size
 have d0 := (hB3.block _ (by omega : w.heap.size < w2.heap.size)).trans ((hb2.block _ (by omega : w.heap.size < w1.heap.size)).trans HBB.out)
 have HS13 := zH ((HS1.out.up hb2).up hB3)
 unfold Sy.vs_ at hW3 b3 ⊢
 have HW3 := zH hW3
 have HD0 := zH d0
 have HD3 := zH b3
 clear hb2 hS2 hv1 hv2 hB3 hW3 HB HW1 p0 p1 p2 p3 p4 p5 p6 HS1 HBB
 dsimp only at HVE HBO HLB HS3
 go_simp
 rename_i hKK
 refine hKK _ _ ?_
 clear hKK
 refine wpList_plain rfl fun K5 hK5 => ?_
 go_simp
 refine hK5 _ _ ?_
 clear hK5 K5
 refine wpList_plain rfl fun K5 hK5 => ?_
 go_simp
 refine hK5 _ _ ?_
 clear hK5 K5
 refine wpList_plain rfl fun K5 hK5 => ?_
 go_simp
 refine hK5 _ _ ?_
 clear hK5 K5
 refine wpList_plain rfl fun K5 hK5 => ?_
 go_simp
 refine hK5 _ _ ?_
 clear hK5 K5
 refine wpList_plain rfl fun K5 hK5 => ?_
 go_simp
 rw [HW3.out]
 refine hK5 _ _ ?_
 clear hK5 K5
 by_cases h0 : E = 0
 case neg =>
  have e0 : (E != 0) = true := by simpa using h0
  have hR : Hid (r = E) := HVE.out.trans (if_pos h0)
  clear HVE HBO h0 d0 b3
  go_wp2_with fail
  go_ret
  exact ⟨ze hR.out.symm, HB3.out⟩
 case pos =>
 subst h0
 obtain ⟨hTp, hTn⟩ := HBO.out rfl
 have hVE : r = if s = T then 0 else 3 := HVE.out.trans (if_neg (by simp))
 have H3 : Hid (s ≠ T → r = 3) := fun h => hVE.trans (if_neg h)
 have H0 : Hid (s = T → r = 0) := fun h => hVE.trans (if_pos h)
 have HTP := zH hTp
 have HEQ := zH (@sy_eq s T)
 have HSM := zH (XT s T HLS.out HLB.out A SV AV AX A2 SV2 AV2 AX2 kc ks kv kx kc2 ks2 kv2 kx2 W3 HS13.out HS3.out)
 have x0 : W3.cell? ⟨w.heap.size, 0, none⟩ = some (.int .i64 s.p.t.n) := za d0 0 rfl
 have y0 : W3.cell? ⟨w2.heap.size, 0, none⟩ = some (.int .i64 T.p.t.n) := za b3 0 rfl
 have x1 : W3.cell? ⟨w.heap.size, 1, none⟩ = some (.int .i64 s.p.t.ins) := za d0 1 rfl
 have y1 : W3.cell? ⟨w2.heap.size, 1, none⟩ = some (.int .i64 T.p.t.ins) := za b3 1 rfl
 have x2 : W3.cell? ⟨w.heap.size, 2, none⟩ = some (.int .i64 s.p.t.outs) := za d0 2 rfl
 have y2 : W3.cell? ⟨w2.heap.size, 2, none⟩ = some (.int .i64 T.p.t.outs) := za b3 2 rfl
 have x3 : W3.cell? ⟨w.heap.size, 3, none⟩ = some (.slice A s.p.t.cases.length kc) := za d0 3 rfl
 have y3 : W3.cell? ⟨w2.heap.size, 3, none⟩ = some (.slice A2 T.p.t.cases.length kc2) := za b3 3 rfl
 have x4 : W3.cell? ⟨w.heap.size, 4, none⟩ = some (.int .i64 s.p.a.n) := za d0 4 rfl
 have y4 : W3.cell? ⟨w2.heap.size, 4, none⟩ = some (.int .i64 T.p.a.n) := za b3 4 rfl
 have x5 : W3.cell? ⟨w.heap.size, 5, none⟩ = some (.slice SV s.p.a.sts.length ks) := za d0 5 rfl
 have y5 : W3.cell? ⟨w2.heap.size, 5, none⟩ = some (.slice SV2 T.p.a.sts.length ks2) := za b3 5 rfl
 have x6 : W3.cell? ⟨w.heap.size, 6, none⟩ = some (.int .i64 s.p.k) := za d0 6 rfl
 have y6 : W3.cell? ⟨w2.heap.size, 6, none⟩ = some (.int .i64 T.p.k) := za b3 6 rfl
 have x7 : W3.cell? ⟨w.heap.size, 7, none⟩ = some (.int .i64 s.n) := za d0 7 rfl
 have y7 : W3.cell? ⟨w2.heap.size, 7, none⟩ = some (.int .i64 T.n) := za b3 7 rfl
 have x8 : W3.cell? ⟨w.heap.size, 8, none⟩ = some (.slice AV s.vs.length kv) := za d0 8 rfl
 have y8 : W3.cell? ⟨w2.heap.size, 8, none⟩ = some (.slice AV2 T.vs.length kv2) := za b3 8 rfl
 have x9 : W3.cell? ⟨w.heap.size, 9, none⟩ = some (.slice AX s.xs.length kx) := za d0 9 rfl
 have y9 : W3.cell? ⟨w2.heap.size, 9, none⟩ = some (.slice AX2 T.xs.length kx2) := za b3 9 rfl
 unfold Sy.vs_ at HSM
 clear hTp hTn hVE HVE HBO d0 b3 HLB HLS HTP HEQ
 go_wp2_with fail
 refine HSM.out.mono ?_
 rintro e w4 ⟨rfl, hb4⟩
 have B4 := zH (HB3.out.trans (hb4.mono (by omega)))
 clear hb4 HSM x0 x1 x2 x3 x4 x5 x6 x7 x8 x9 y0 y1 y2 y3 y4 y5 y6 y7 y8 y9
 by_cases h2 : s = T
 case neg =>
  have hR := zH (H3.out h2)
  rw [decide_eq_false h2]
  clear H3 H0 h2
  go_wp2_with fail
  go_ret
  exact ⟨ze hR.out.symm, B4.out⟩
 case pos =>
  have hR := zH (H0.out h2)
  rw [decide_eq_true h2]
  clear H3 H0 h2
  go_wp2_with fail
  go_ret
  exact ⟨ze hR.out.symm, B4.out⟩
end
section
open Go.RowKit
attribute [local go_sem] Oper.semAt_some
theorem qm {s : Sy} (hf : xT s.p) (h : xU s = 0) : s = Ym s.p ∧ ∃ K N, Fine s K N := by
 unfold xU at h
 by_cases h1 : (zM s.p).2 ≠ 0
 · rw [if_pos h1] at h; exact absurd h h1
 · rw [if_neg h1] at h
   by_cases h2 : s = (zM s.p).1
   · have h0 : zK s.p = 0 := by
      by_cases h0 : zK s.p = 0
      · exact h0
      · rw [xK h0] at h1; exact absurd h0 h1
     have hm : ¬ 4096 < zT s.p := fun hm => by rw [xO h0 hm] at h1; exact h1 (by decide)
     rw [qE h0 (by omega)] at h2
     obtain ⟨K, N, hF⟩ := QM hf h0 (by rcases hf.2 h0 with h | h; exact h; exact absurd h hm)
     exact ⟨h2, K, N, by rw [h2]; exact hF⟩
   · rw [if_neg h2] at h; cases h
end
section
open Go.RowKit
attribute [local go_sem] Oper.semAt_some
def jq (bs : List Bool) : Array Value := (bs.map Value.bool).toArray
theorem un (bs : List Bool) (i : Nat) (b : Bool) : (jq bs).setIfInBounds i (.bool b) = jq (bs.set i b) := by
 unfold jq; rw [List.setIfInBounds_toArray, List.map_set]
theorem vH (bs : List Bool) (i : Nat) (h : i < bs.length) : (jq bs)[i]? = some (.bool bs[i]) := by
 unfold jq; simp [h]
def kBo : Kd := ⟨4, 46, 1, 1, .bool false⟩
theorem kBo_ok : KdOk Tryz.prog kBo := ⟨Tryz.underlying46, by kernel_rfl, by rfl, by decide, by decide⟩
theorem Qk (n : Nat) : madeCells #[.bool false] (n * 1) = jq (List.replicate n false) := by
 unfold madeCells jq
 apply Array.ext
 · simp
 · intro i h1 h2
   simp [Nat.mod_one]
theorem gg (n : Nat) (hn : n ≤ 100000) (W : World) : (Instr.makeSlice 46 (.int .i64 n) (.int .i64 n)).run Tryz.prog W = .ok (.slice (some ⟨W.heap.size, 0, none⟩) n n) (W.alloc (.cells (jq (List.replicate n false)) 4)) := by
 obtain ⟨i0, hi, hz0, hz1, hz2⟩ := yI kBo_ok
 have hb : i0.bytes = 1 := hz2
 have hs : i0.size = 1 := hz1
 have h := run_make (P := Tryz.prog) W 46 4 i0 (.bool false) Tryz.underlying46 hi hz0 .i64 .i64 (n : Int) (n : Int) (by omega) (Int.le_refl _) (by rw [hb]; omega) (by omega)
 rw [h, hs]
 simp only [Int.toNat_natCast]
 rw [show (Value.bool false).cells = #[.bool false] from rfl, Qk]
end
section
open Go.RowKit
def kSt : Kd := ⟨75, 57, 2, 16, .agg #[.int .i64 0, .int .i64 0]⟩
theorem kSt_ok : KdOk Tryz.prog kSt := ⟨Tryz.underlying57, by kernel_rfl, by rfl, by decide, by decide⟩
section
variable {w w' : World} {B B' : Nat} {A : Option Addr}
def BAt (w : World) (B : Nat) (A : Option Addr) (bs : List Bool) : Prop :=
 0 < bs.length → ∃ b off, A = some ⟨b, off, none⟩ ∧ b < B ∧ ∀ (i : Nat) (hi : i < bs.length), w.cell? ⟨b, off + i, none⟩ = some (.bool bs[i])
theorem BAt.keep {bs : List Bool} (h : BAt w B A bs) (hb : Below B w w') : BAt w' B A bs := fun h0 => by
 obtain ⟨b, off, e, hlt, hc⟩ := h h0
 exact ⟨b, off, e, hlt, fun i hi => (hb.cell (p := ⟨b, _, none⟩) hlt).trans (hc i hi)⟩
theorem BAt.more {bs : List Bool} (h : BAt w B A bs) (hB : B ≤ B') : BAt w B' A bs := fun h0 => by
 obtain ⟨b, off, e, hlt, hc⟩ := h h0
 exact ⟨b, off, e, by omega, hc⟩
theorem BAt.nil (w : World) (B : Nat) (A : Option Addr) : BAt w B A [] := fun h => absurd h (by simp)
theorem BAt.at_ {bs : List Bool} (h : BAt w B A bs) (i : Nat) (hi : i < bs.length) : ∃ b off, A = some ⟨b, off, none⟩ ∧ b < B ∧ w.cell? ⟨b, off + i, none⟩ = some (.bool bs[i]) := by
 obtain ⟨b, off, e, hlt, hc⟩ := h (by omega)
 exact ⟨b, off, e, hlt, hc i hi⟩
def BRow (w : World) (g : Nat) (bs : List Bool) : Prop := w.heap[g]? = some (.cells (jq bs) 4 (0, 0))
theorem BRow.lt {g : Nat} {bs : List Bool} (h : BRow w g bs) : g < w.heap.size := zd h
theorem BRow.at_ {g : Nat} {bs : List Bool} (h : BRow w g bs) (hB : g < B) : BAt w B (some ⟨g, 0, none⟩) bs := fun _ => ⟨g, 0, rfl, hB, fun i hi => by rw [Nat.zero_add]; exact za h i (vH bs i hi)⟩
def TAt (w : World) (B : Nat) (A : Option Addr) (ts : List (Int × Int)) : Prop :=
 0 < ts.length → ∃ b off, A = some ⟨b, off, none⟩ ∧ b < B ∧ ∀ (i : Nat) (hi : i < ts.length), w.cell? ⟨b, off + i * 2, none⟩ = some (.int .i64 ts[i].1) ∧ w.cell? ⟨b, off + i * 2 + 1, none⟩ = some (.int .i64 ts[i].2)
theorem TAt.keep {ts : List (Int × Int)} (h : TAt w B A ts) (hb : Below B w w') : TAt w' B A ts := fun h0 => by
 obtain ⟨b, off, e, hlt, hc⟩ := h h0
 exact ⟨b, off, e, hlt, fun i hi => ⟨(hb.cell (p := ⟨b, _, none⟩) hlt).trans (hc i hi).1, (hb.cell (p := ⟨b, _, none⟩) hlt).trans (hc i hi).2⟩⟩
theorem TAt.more {ts : List (Int × Int)} (h : TAt w B A ts) (hB : B ≤ B') : TAt w B' A ts := fun h0 => by
 obtain ⟨b, off, e, hlt, hc⟩ := h h0
 exact ⟨b, off, e, by omega, hc⟩
theorem TAt.nil (w : World) (B : Nat) (A : Option Addr) : TAt w B A [] := fun h => absurd h (by simp)
theorem TAt.at_ {ts : List (Int × Int)} (h : TAt w B A ts) (i : Nat) (hi : i < ts.length) : ∃ b off, A = some ⟨b, off, none⟩ ∧ b < B ∧ w.cell? ⟨b, off + i * 2, none⟩ = some (.int .i64 ts[i].1) ∧ w.cell? ⟨b, off + i * 2 + 1, none⟩ = some (.int .i64 ts[i].2) := by
 obtain ⟨b, off, e, hlt, hc⟩ := h (by omega)
 exact ⟨b, off, e, hlt, hc i hi⟩
def kU (ts : List (Int × Int)) : List Value := ts.flatMap fun t => [.int .i64 t.1, .int .i64 t.2]
theorem JH (ts : List (Int × Int)) (t : Int × Int) : kU (ts ++ [t]) = kU ts ++ #[Value.int .i64 t.1, .int .i64 t.2].toList := by simp [kU, List.flatMap_append]
theorem ZY : ∀ (ts : List (Int × Int)) (i : Nat) (hi : i < ts.length), (kU ts)[i * 2]? = some (.int .i64 ts[i].1) ∧ (kU ts)[i * 2 + 1]? = some (.int .i64 ts[i].2)
 | t :: ts, 0, _ => by simp [kU]
 | t :: ts, i + 1, hi => by
  have h := ZY ts i (by simpa using hi)
  have e : kU (t :: ts) = [.int .i64 t.1, .int .i64 t.2] ++ kU ts := rfl
  rw [e, List.getElem?_append_right (by simp; omega), List.getElem?_append_right (by simp; omega)]
  simp only [List.length_cons, List.length_nil, List.getElem_cons_succ]
  rw [show (i + 1) * 2 - (0 + 1 + 1) = i * 2 by omega, show (i + 1) * 2 + 1 - (0 + 1 + 1) = i * 2 + 1 by omega]
  exact h
theorem TAt.of_own {K : Kd} {base : Nat} {A' : Option Addr} {n c : Nat} {ts : List (Int × Int)} (h : OwnR K w base (.slice A' n c) n (kU ts)) (hn : ts.length = n) : TAt w w.heap.size A' ts := fun h0 => by
 obtain ⟨A, cap, e, _, _, h3⟩ := h.form
 cases e
 obtain ⟨g, rfl, _, hg, hc⟩ := h3 (by omega)
 exact ⟨g, 0, rfl, hg, fun i hi => ⟨by rw [Nat.zero_add]; exact hc _ _ (ZY ts i hi).1, by rw [Nat.zero_add]; exact hc _ _ (ZY ts i hi).2⟩⟩
end
end
section
open Go.ChangeShapes Go.WideShapes Go.ChangeAt Go.RowKit Go.Deep
section
variable {H : Type} {enc : TypeId × Value → H} {W : World} {base : Nat} {spare : Nat → Bool} {held : Bool}
theorem cellsB : Tryz.prog.cellsOf 4 = 1 := by kernel_rfl
theorem bytesB : Tryz.prog.bytesOf 4 = 1 := by kernel_rfl
set_option maxRecDepth 100000 in
/-- A slice of bools. -/
theorem rd_bools {m : Nat} {cs : List Value} {y : DataW H × List MemPlace} (h : DataW.trod enc Tryz.prog W base spare held m 46 cs = some y) (hw : xm Tryz.prog 46 y.1) :
  ∃ (A : Option Addr) (xs : List Bool) (c : Nat), cs = [.slice A xs.length c] ∧ xs.length ≤ 140737488355328 ∧ BAt W W.heap.size A xs := by
 obtain ⟨A, xs, c, e, _, _, hb, hA⟩ := xq (α := Bool) (fun cs i => cs = [.bool i]) Tryz.underlying46 cellsB (by decide) (fun m cs y h _ => by obtain ⟨i, e, _⟩ := DataW.trod_bool Tryz.underlying4 h; exact ⟨i, e⟩) h hw
 refine ⟨A, xs, c, e, ?_, fun h0 => ?_⟩
 · rw [bytesB] at hb; unfold reachBytes at hb; omega
 · obtain ⟨b, off, e, hlt, hc⟩ := hA h0
   refine ⟨b, off, e, hlt, fun i hi => ?_⟩
   obtain ⟨cs, rfl, h2⟩ := hc i hi
   have := h2 0 _ rfl
   simpa using this
set_option maxRecDepth 100000 in
theorem Zb {b0 : Nat} {v : Value} {d : DataW H} {ps : List MemPlace} (_hv : Value.okWide Tryz.prog W .any b0 46 v) (h : DataW.Trod enc Tryz.prog W base spare held 46 v d ps) (hw : xm Tryz.prog 46 d) :
  ∃ (A : Option Addr) (xs : List Bool) (c : Nat), v = .slice A xs.length c ∧ BAt W W.heap.size A xs := by
 obtain ⟨A0, n0, c0, rfl⟩ := okWide_slice Tryz.underlying46 _hv
 obtain ⟨fuel, hf⟩ := h
 obtain ⟨A, xs, c, e, _, h2⟩ := rd_bools hf hw
 refine ⟨A, xs, c, ?_, h2⟩
 have e' : [Value.slice A0 n0 c0] = [.slice A xs.length c] := e
 exact List.head_eq_of_cons_eq e'
end
end
section
section
variable {α : Type} [DecidableEq α]
def xe (acc : List α) (k : α) : List α := if k ∈ acc then acc else acc ++ [k]
def ya (l : List α) : List α := l.foldl xe []
theorem xD (l : List α) (k : α) : ya (l ++ [k]) = xe (ya l) k := by simp [ya, List.foldl_append]
theorem mem_uniqF {acc : List α} {k x : α} : x ∈ xe acc k ↔ x ∈ acc ∨ x = k := by
 unfold xe
 split
 · rename_i h
   exact ⟨.inl, fun h' => h'.elim id (fun e => e ▸ h)⟩
 · simp
theorem Zx {x : α} : ∀ {l acc : List α}, x ∈ l.foldl xe acc ↔ x ∈ acc ∨ x ∈ l
 | [], acc => by simp
 | k :: l, acc => by rw [List.foldl_cons, Zx, mem_uniqF, List.mem_cons, or_assoc]
theorem zQ {l : List α} {x : α} : x ∈ ya l ↔ x ∈ l := by unfold ya; rw [Zx]; simp
theorem ZF : ∀ (l acc : List α), (l.foldl xe acc).length ≤ acc.length + l.length
 | [], acc => by simp
 | k :: l, acc => by
  have h1 : (xe acc k).length ≤ acc.length + 1 := by unfold xe; split <;> simp
  have h2 := ZF l (xe acc k)
  rw [List.foldl_cons, List.length_cons]
  omega
theorem Zl (l : List α) : (ya l).length ≤ l.length := by have := ZF l []; simpa [ya] using this
def yS (l : List α) : List Int := l.map fun k => ((ya l).idxOf k : Int)
theorem yq (l : List α) : (yS l).length = l.length := by simp [yS]
theorem jy (l : List α) (i : Nat) (h : i < l.length) : (yS l)[i]'(by rw [yq]; exact h) = ((ya l).idxOf l[i] : Int) := by simp [yS]
theorem jx (l : List α) (k : α) : yS (l ++ [k]) = yS l ++ [if k ∈ l then ((ya l).idxOf k : Int) else ((ya l).length : Int)] := by
 unfold yS
 rw [List.map_append, xD]
 congr 1
 · refine List.map_congr_left fun x hx => ?_
   unfold xe
   split
   · rfl
   · rw [List.idxOf_append, if_pos (zQ.2 hx)]
 · simp only [List.map_cons, List.map_nil, List.cons.injEq, and_true]
   unfold xe
   by_cases h : k ∈ l
   · rw [if_pos (zQ.2 h), if_pos h]
   · rw [if_neg (fun e => h (zQ.1 e)), if_neg h, List.idxOf_append, if_neg (fun e => h (zQ.1 e))]
     simp
theorem idxOf_inj {l : List α} {a b : α} (ha : a ∈ l) (hb : b ∈ l) (h : l.idxOf a = l.idxOf b) : a = b := by
 have h1 := List.getElem_idxOf (List.idxOf_lt_length_of_mem ha)
 have h2 := List.getElem_idxOf (List.idxOf_lt_length_of_mem hb)
 rw [← h1, ← h2]
 congr 1
theorem Zz (l : List α) {i j : Nat} (hi : i < l.length) (hj : j < l.length) : (yS l)[i]'(by rw [yq]; exact hi) = (yS l)[j]'(by rw [yq]; exact hj) ↔ l[i] = l[j] := by
 rw [jy l i hi, jy l j hj]
 constructor
 · intro h
   exact idxOf_inj (zQ.2 (List.getElem_mem hi)) (zQ.2 (List.getElem_mem hj)) (by omega)
 · intro h
   rw [h]
end
theorem va {α β : Type} [DecidableEq α] [DecidableEq β] {l : List α} {m : List β} (hl : l.length = m.length)
  (h : ∀ i j (h1 : i < l.length) (h2 : j < l.length), l[i] = l[j] ↔ m[i]'(hl ▸ h1) = m[j]'(hl ▸ h2)) : yS l = yS m := by
 have key : ∀ n, n ≤ l.length → yS (l.take n) = yS (m.take n) ∧ (ya (l.take n)).length = (ya (m.take n)).length := by
  intro n
  induction n with
  | zero => intro _; exact ⟨rfl, rfl⟩
  | succ n ih =>
   intro hn
   obtain ⟨h1, h2⟩ := ih (by omega)
   have hnl : n < l.length := by omega
   have hnm : n < m.length := by omega
   rw [List.take_succ_eq_append_getElem hnl, List.take_succ_eq_append_getElem hnm, jx, jx, xD, xD, h1]
   have hm : l[n] ∈ l.take n ↔ m[n] ∈ m.take n := by
    constructor
    · intro hx
      obtain ⟨j, hj, e⟩ := List.getElem_of_mem hx
      have hj' : j < n := by simp at hj; omega
      rw [List.getElem_take] at e
      have := (h j n (by omega) hnl).1 e
      rw [← this]
      exact List.mem_take_iff_getElem.2 ⟨j, by omega, rfl⟩
    · intro hx
      obtain ⟨j, hj, e⟩ := List.getElem_of_mem hx
      have hj' : j < n := by simp at hj; omega
      rw [List.getElem_take] at e
      have := (h j n (by omega) hnl).2 e
      rw [← this]
      exact List.mem_take_iff_getElem.2 ⟨j, by omega, rfl⟩
   unfold xe
   by_cases hx : l[n] ∈ l.take n
   · have hy := hm.1 hx
     rw [if_pos hx, if_pos hy, if_pos (zQ.2 hx), if_pos (zQ.2 hy)]
     refine ⟨?_, h2⟩
     congr 2
     obtain ⟨j, hj, e⟩ := List.getElem_of_mem hx
     have hj' : j < n := by simp at hj; omega
     rw [List.getElem_take] at e
     have e2 := (h j n (by omega) hnl).1 e
     have g1 := jy (l.take n) j hj
     have g2 := jy (m.take n) j (by simp; omega)
     rw [List.getElem_take, e] at g1
     rw [List.getElem_take, e2] at g2
     rw [← g1, ← g2]
     congr 1
   · have hy : ¬ m[n] ∈ m.take n := fun e => hx (hm.2 e)
     rw [if_neg hx, if_neg hy, if_neg (fun e => hx (zQ.1 e)), if_neg (fun e => hy (zQ.1 e))]
     refine ⟨?_, by simp [h2]⟩
     rw [h2]
 have := (key l.length (Nat.le_refl _)).1
 rwa [List.take_length, hl, List.take_length] at this
inductive Conn (n : Nat) (adj : Nat → Nat → Prop) : Nat → Nat → Prop
 | refl (i : Nat) : Conn n adj i i
 | step {i j k : Nat} : Conn n adj i j → j < n → k < n → adj j k → Conn n adj i k
section
variable {n : Nat} {adj : Nat → Nat → Prop}
theorem Conn.trans {i j k : Nat} (h : Conn n adj i j) (g : Conn n adj j k) : Conn n adj i k := by
 induction g with
 | refl => exact h
 | step _ h1 h2 h3 ih => exact .step ih h1 h2 h3
theorem Conn.one {i j : Nat} (hi : i < n) (hj : j < n) (h : adj i j) : Conn n adj i j := .step (.refl i) hi hj h
theorem Conn.symm (hs : ∀ i j, adj i j → adj j i) {i j : Nat} (h : Conn n adj i j) : Conn n adj j i := by
 induction h with
 | refl => exact .refl _
 | step _ h1 h2 h3 ih => exact (Conn.one h2 h1 (hs _ _ h3)).trans ih
theorem Conn.mono {adj' : Nat → Nat → Prop} (hm : ∀ i j, i < n → j < n → adj i j → Conn n adj' i j) {i j : Nat} (h : Conn n adj i j) : Conn n adj' i j := by
 induction h with
 | refl => exact .refl _
 | step _ h1 h2 h3 ih => exact ih.trans (hm _ _ h1 h2 h3)
end
theorem kz {p : Nat → Prop} : ∀ n, p n → ∃ m, m ≤ n ∧ p m ∧ ∀ k, k < m → ¬ p k := by
 intro n
 induction n using Nat.strongRecOn with
 | _ n ih =>
  intro hn
  by_cases h : ∃ k, k < n ∧ p k
  · obtain ⟨k, hk, hp⟩ := h
    obtain ⟨m, h1, h2, h3⟩ := ih k hk hp
    exact ⟨m, by omega, h2, h3⟩
  · exact ⟨n, Nat.le_refl _, hn, fun k hk hp => h ⟨k, hk, hp⟩⟩
noncomputable def yr (n : Nat) (adj : Nat → Nat → Prop) (i : Nat) : Nat := Classical.choose (kz (p := fun k => Conn n adj k i) i (.refl i))
section
variable {n : Nat} {adj : Nat → Nat → Prop}
theorem wk (i : Nat) : yr n adj i ≤ i := (Classical.choose_spec (kz (p := fun k => Conn n adj k i) i (.refl i))).1
theorem qi (i : Nat) : Conn n adj (yr n adj i) i := (Classical.choose_spec (kz (p := fun k => Conn n adj k i) i (.refl i))).2.1
theorem gI {i k : Nat} (h : Conn n adj k i) : yr n adj i ≤ k := by
 have := (Classical.choose_spec (kz (p := fun k => Conn n adj k i) i (.refl i))).2.2 k
 exact Nat.le_of_not_lt fun hlt => this hlt h
theorem jB (hs : ∀ i j, adj i j → adj j i) {i j : Nat} : yr n adj i = yr n adj j ↔ Conn n adj i j := by
 constructor
 · intro h
   have h1 := qi (n := n) (adj := adj) i
   rw [h] at h1
   exact (h1.symm hs).trans (qi j)
 · intro h
   have h1 : yr n adj j ≤ yr n adj i := gI ((qi i).trans h)
   have h2 : yr n adj i ≤ yr n adj j := gI ((qi j).trans (h.symm hs))
   omega
theorem ZJ (hs : ∀ i j, adj i j → adj j i) (i : Nat) : yr n adj (yr n adj i) = yr n adj i := (jB hs).2 (qi i)
end
noncomputable def ye (n : Nat) (adj : Nat → Nat → Prop) : List Int := yS ((List.range n).map (yr n adj))
theorem yi (n : Nat) (adj : Nat → Nat → Prop) : (ye n adj).length = n := by unfold ye; rw [yq]; simp
theorem vf {n : Nat} {adj : Nat → Nat → Prop} (hs : ∀ i j, adj i j → adj j i) {i j : Nat} (hi : i < n) (hj : j < n) : (ye n adj)[i]'(by rw [yi]; exact hi) = (ye n adj)[j]'(by rw [yi]; exact hj) ↔ Conn n adj i j := by
 have := Zz ((List.range n).map (yr n adj)) (i := i) (j := j) (by simpa using hi) (by simpa using hj)
 simp only [List.getElem_map, List.getElem_range] at this
 rw [jB hs] at this
 exact this
theorem compL_of {α : Type} [DecidableEq α] {n : Nat} {adj : Nat → Nat → Prop} (hs : ∀ i j, adj i j → adj j i) (l : List α) (hl : l.length = n)
  (h : ∀ i j (h1 : i < l.length) (h2 : j < l.length), l[i] = l[j] ↔ Conn n adj i j) : yS l = ye n adj := by
 unfold ye
 refine va (by simpa using hl) fun i j h1 h2 => ?_
 rw [h i j h1 h2]
 simp only [List.getElem_map, List.getElem_range]
 rw [jB hs]
structure Far (n : Nat) (adj : Nat → Nat → Prop) (src : Nat → Prop) (f : Nat → Int) : Prop where
 ge : ∀ i, i < n → -1 ≤ f i
 zero : ∀ i, i < n → (f i = 0 ↔ src i)
 step : ∀ i, i < n → 0 < f i → ∃ k, k < n ∧ adj i k ∧ f k = f i - 1
 low : ∀ i k, i < n → k < n → adj i k → 0 ≤ f k → 0 ≤ f i ∧ f i ≤ f k + 1
section
variable {n : Nat} {adj : Nat → Nat → Prop} {src : Nat → Prop} {f g : Nat → Int}
theorem Far.le (hf : Far n adj src f) (hg : Far n adj src g) : ∀ (d : Nat) (i : Nat), i < n → f i = (d : Int) → 0 ≤ g i ∧ g i ≤ f i := by
 intro d
 induction d with
 | zero =>
  intro i hi h
  have := (hg.zero i hi).2 ((hf.zero i hi).1 h)
  omega
 | succ d ih =>
  intro i hi h
  obtain ⟨k, hk, ha, he⟩ := hf.step i hi (by omega)
  obtain ⟨h1, h2⟩ := ih k hk (by omega)
  have := hg.low i k hi hk ha h1
  omega
theorem Far.uniq (hf : Far n adj src f) (hg : Far n adj src g) (i : Nat) (hi : i < n) : f i = g i := by
 have h1 := hf.ge i hi
 have h2 := hg.ge i hi
 by_cases h : 0 ≤ f i
 · obtain ⟨d, hd⟩ := Int.eq_ofNat_of_zero_le h
   obtain ⟨h3, h4⟩ := hf.le hg d i hi hd
   obtain ⟨e, he⟩ := Int.eq_ofNat_of_zero_le h3
   have := hg.le hf e i hi he
   omega
 · by_cases h3 : 0 ≤ g i
   · obtain ⟨e, he⟩ := Int.eq_ofNat_of_zero_le h3
     have := hg.le hf e i hi he
     omega
   · omega
theorem Far.reach {j : Nat} (hf : Far n adj (fun k => k = j) f) (hj : j < n) (hs : ∀ i k, adj i k → adj k i) (i : Nat) (hi : i < n) : 0 ≤ f i ↔ Conn n adj j i := by
 constructor
 · intro h
   obtain ⟨d, hd⟩ := Int.eq_ofNat_of_zero_le h
   clear h
   induction d generalizing i with
   | zero =>
    have := (hf.zero i hi).1 hd
    subst this
    exact .refl _
   | succ d ih =>
    obtain ⟨k, hk, ha, he⟩ := hf.step i hi (by omega)
    exact (ih k hk (by omega)).trans (Conn.one hk hi (hs _ _ ha))
 · intro h
   induction h with
   | refl => have := (hf.zero j hj).2 rfl; omega
   | step _ h1 h2 h3 ih => exact (hf.low _ _ h2 h1 (hs _ _ h3) (ih h1)).1
end
theorem Zu : ∀ (n : Nat) (l : List Nat), l.Nodup → (∀ x, x ∈ l → x < n) → l.length ≤ n
 | 0, l, _, h => by cases l with
  | nil => simp
  | cons a l => exact absurd (h a (by simp)) (by omega)
 | n + 1, l, hn, h => by
  have h1 := Zu n (l.filter (· ≠ n)) (hn.filter _) (fun x hx => by
   have h2 := List.mem_filter.1 hx
   have h4 := h x h2.1
   have h3 : x ≠ n := by simpa using h2.2
   omega)
  have h2 : l.length ≤ (l.filter (· ≠ n)).length + 1 := by
   by_cases hm : n ∈ l
   · have : l.filter (· ≠ n) = l.erase n := by rw [hn.erase_eq_filter]; congr 1; funext x; by_cases e : x = n <;> simp [e]
     rw [this, List.length_erase_of_mem hm]; omega
   · rw [List.filter_eq_self.2 (fun x hx => by simp; rintro rfl; exact hm hx)]; omega
  omega
theorem Yh {n : Nat} {adj : Nat → Nat → Prop} {f : Nat → Int} (step : ∀ i, i < n → 0 < f i → ∃ k, k < n ∧ adj i k ∧ f k = f i - 1) {i : Nat} (hi : i < n) : f i < n := by
 by_cases h : 0 ≤ f i
 · obtain ⟨d, hd⟩ := Int.eq_ofNat_of_zero_le h
   have hall : ∀ e, e ≤ d → ∃ k, k < n ∧ f k = (e : Int) := by
    intro e he
    have : ∀ m, m ≤ d → ∃ k, k < n ∧ f k = ((d - m : Nat) : Int) := by
     intro m
     induction m with
     | zero => intro _; exact ⟨i, hi, by simpa using hd⟩
     | succ m ih =>
      intro hm
      obtain ⟨k, hk, hfk⟩ := ih (by omega)
      obtain ⟨k', hk', _, he'⟩ := step k hk (by omega)
      exact ⟨k', hk', by omega⟩
    obtain ⟨k, hk, hfk⟩ := this (d - e) (by omega)
    exact ⟨k, hk, by omega⟩
   have : ∃ l : List Nat, l.length = d + 1 ∧ l.Nodup ∧ ∀ x ∈ l, x < n := by
    have hc : ∀ m, m ≤ d + 1 → ∃ l : List Nat, l.length = m ∧ l.Nodup ∧ (∀ x ∈ l, x < n) ∧ ∀ x ∈ l, f x < (m : Int) := by
     intro m
     induction m with
     | zero => intro _; exact ⟨[], rfl, List.nodup_nil, by simp, by simp⟩
     | succ m ih =>
      intro hm
      obtain ⟨l, h1, h2, h3, h4⟩ := ih (by omega)
      obtain ⟨k, hk, hfk⟩ := hall m (by omega)
      refine ⟨k :: l, by simp [h1], List.nodup_cons.2 ⟨fun hkl => ?_, h2⟩, fun x hx => ?_, fun x hx => ?_⟩
      · have := h4 k hkl; omega
      · rcases List.mem_cons.1 hx with rfl | hx
        · exact hk
        · exact h3 x hx
      · rcases List.mem_cons.1 hx with rfl | hx
        · omega
        · have := h4 x hx; omega
    obtain ⟨l, h1, h2, h3, _⟩ := hc (d + 1) (Nat.le_refl _)
    exact ⟨l, h1, h2, h3⟩
   obtain ⟨l, h1, h2, h3⟩ := this
   have := Zu n l h2 h3
   omega
 · omega
end
section
theorem kA {l : List Int} {i j : Nat} {x d : Int} (h : i < l.length) : (l.set i x).getD j d = if j = i then x else l.getD j d := by
 rw [List.getD_eq_getElem?_getD, List.getD_eq_getElem?_getD, List.getElem?_set]
 by_cases e : i = j
 · subst e; simp [h]
 · rw [if_neg e, if_neg (fun e' => e e'.symm)]
theorem zt {l : List Int} {i : Nat} (h : i < l.length) (d : Int) : l.getD i d = l[i] := by rw [List.getD_eq_getElem?_getD, List.getElem?_eq_getElem h]; rfl
section
variable {n : Nat} {adj : Nat → Nat → Prop} {src : Nat → Prop}
structure Bfs (n : Nat) (adj : Nat → Nat → Prop) (src : Nat → Prop) (out : List Int) (q : List Nat) : Prop where
 len : out.length = n
 ge : ∀ i, i < n → -1 ≤ out.getD i 0
 zero : ∀ i, i < n → (out.getD i 0 = 0 ↔ src i)
 step : ∀ i, i < n → 0 < out.getD i 0 → ∃ k, k < n ∧ adj i k ∧ out.getD k 0 = out.getD i 0 - 1
 inq : ∀ x ∈ q, x < n ∧ 0 ≤ out.getD x 0
 asc : q.Pairwise (fun x y => out.getD x 0 ≤ out.getD y 0)
 near : ∀ x ∈ q, ∀ i, i < n → out.getD i 0 ≤ out.getD x 0 + 1
 done : ∀ k, k < n → 0 ≤ out.getD k 0 → k ∉ q → ∀ i, i < n → adj i k → 0 ≤ out.getD i 0 ∧ out.getD i 0 ≤ out.getD k 0 + 1
structure BfsH (n : Nat) (adj : Nat → Nat → Prop) (src : Nat → Prop) (h : Nat) (pre : List Nat) (out : List Int) (q : List Nat) : Prop where
 len : out.length = n
 ge : ∀ i, i < n → -1 ≤ out.getD i 0
 zero : ∀ i, i < n → (out.getD i 0 = 0 ↔ src i)
 step : ∀ i, i < n → 0 < out.getD i 0 → ∃ k, k < n ∧ adj i k ∧ out.getD k 0 = out.getD i 0 - 1
 inq : ∀ x ∈ q, x < n ∧ 0 ≤ out.getD x 0
 asc : q.Pairwise (fun x y => out.getD x 0 ≤ out.getD y 0)
 hlt : h < n
 hge : 0 ≤ out.getD h 0
 after : ∀ x ∈ q, out.getD h 0 ≤ out.getD x 0
 near : ∀ i, i < n → out.getD i 0 ≤ out.getD h 0 + 1
 done : ∀ k, k < n → 0 ≤ out.getD k 0 → k ∉ q → k ≠ h → ∀ i, i < n → adj i k → 0 ≤ out.getD i 0 ∧ out.getD i 0 ≤ out.getD k 0 + 1
 seen : ∀ t ∈ pre, 0 ≤ out.getD t 0
theorem Bfs.start (l : List Nat) (out : List Int) (hl : out.length = n) (h : ∀ i, i < n → out.getD i 0 = if i ∈ l then 0 else -1) (hm : ∀ x ∈ l, x < n) (hs : ∀ i, i < n → (src i ↔ i ∈ l)) : Bfs n adj src out l where
 len := hl
 ge := fun i hi => by rw [h i hi]; split <;> omega
 zero := fun i hi => by
  rw [h i hi, hs i hi]
  by_cases e : i ∈ l
  · simp [e]
  · simp [e]
 step := fun i hi h0 => by rw [h i hi] at h0; split at h0 <;> omega
 inq := fun x hx => ⟨hm x hx, by rw [h x (hm x hx), if_pos hx]; omega⟩
 asc := by
  refine List.pairwise_iff_forall_sublist.2 fun {a b} hab => ?_
  have ha := hab.subset (show a ∈ [a, b] by simp)
  have hb := hab.subset (show b ∈ [a, b] by simp)
  rw [h a (hm a ha), h b (hm b hb), if_pos ha, if_pos hb]; omega
 near := fun x hx i hi => by rw [h x (hm x hx), if_pos hx, h i hi]; split <;> omega
 done := fun k hk h0 hn => by rw [h k hk, if_neg hn] at h0; omega
theorem Bfs.pop {h : Nat} {out : List Int} {q : List Nat} (b : Bfs n adj src out (h :: q)) : BfsH n adj src h [] out q where
 len := b.len
 ge := b.ge
 zero := b.zero
 step := b.step
 inq := fun x hx => b.inq x (List.mem_cons_of_mem _ hx)
 asc := (List.pairwise_cons.1 b.asc).2
 hlt := (b.inq h (by simp)).1
 hge := (b.inq h (by simp)).2
 after := (List.pairwise_cons.1 b.asc).1
 near := b.near h (by simp)
 done := fun k hk h0 hq hne => b.done k hk h0 (by simp [hq, hne])
 seen := by simp
theorem BfsH.skip {h t : Nat} {pre : List Nat} {out : List Int} {q : List Nat} (b : BfsH n adj src h pre out q) (ht : 0 ≤ out.getD t 0) : BfsH n adj src h (pre ++ [t]) out q := by
 refine ⟨b.len, b.ge, b.zero, b.step, b.inq, b.asc, b.hlt, b.hge, b.after, b.near, b.done, fun x hx => ?_⟩
 rcases List.mem_append.1 hx with hx | hx
 · exact b.seen x hx
 · rw [List.mem_singleton] at hx; subst hx; exact ht
theorem BfsH.see {h t : Nat} {pre : List Nat} {out : List Int} {q : List Nat} (b : BfsH n adj src h pre out q) (hn : t < n) (ha : adj t h) (ht : out.getD t 0 < 0) :
  BfsH n adj src h (pre ++ [t]) (out.set t (out.getD h 0 + 1)) (q ++ [t]) := by
 have hth : t ≠ h := by rintro rfl; have := b.hge; omega
 have htl : t < out.length := by rw [b.len]; exact hn
 have gt : (out.set t (out.getD h 0 + 1)).getD t 0 = out.getD h 0 + 1 := by rw [kA htl, if_pos rfl]
 have go : ∀ j, j ≠ t → (out.set t (out.getD h 0 + 1)).getD j 0 = out.getD j 0 := fun j hj => by rw [kA htl, if_neg hj]
 have hge := b.hge
 have hq : ∀ x ∈ q, x ≠ t := fun x hx => by rintro rfl; have := (b.inq x hx).2; omega
 refine ⟨by rw [List.length_set]; exact b.len, fun i hi => ?_, fun i hi => ?_, fun i hi h0 => ?_, fun x hx => ?_, ?_, b.hlt, by rw [go h (Ne.symm hth)]; exact hge, fun x hx => ?_, fun i hi => ?_, fun k hk h0 hkq hkh i hi hai => ?_, fun x hx => ?_⟩
 · by_cases e : i = t
   · subst e; rw [gt]; omega
   · rw [go i e]; exact b.ge i hi
 · by_cases e : i = t
   · subst e
     rw [gt, ← b.zero i hi]
     omega
   · rw [go i e]; exact b.zero i hi
 · by_cases e : i = t
   · subst e
     exact ⟨h, b.hlt, ha, by rw [gt, go h (Ne.symm hth)]; omega⟩
   · rw [go i e] at h0 ⊢
     obtain ⟨k, hk, hak, he⟩ := b.step i hi h0
     exact ⟨k, hk, hak, by rw [go k (by rintro rfl; omega)]; exact he⟩
 · rcases List.mem_append.1 hx with hx | hx
   · rw [go x (hq x hx)]; exact b.inq x hx
   · rw [List.mem_singleton] at hx; subst hx; exact ⟨hn, by rw [gt]; omega⟩
 · refine List.pairwise_append.2 ⟨?_, List.pairwise_singleton _ _, fun x hx y hy => ?_⟩
   · exact b.asc.imp_of_mem fun {x y} hx hy h1 => by rw [go x (hq x hx), go y (hq y hy)]; exact h1
   · rw [List.mem_singleton] at hy; subst hy
     rw [gt, go x (hq x hx)]
     exact b.near x (b.inq x hx).1
 · rw [go h (Ne.symm hth)]
   rcases List.mem_append.1 hx with hx | hx
   · rw [go x (hq x hx)]; exact b.after x hx
   · rw [List.mem_singleton] at hx; subst hx; rw [gt]; omega
 · rw [go h (Ne.symm hth)]
   by_cases e : i = t
   · subst e; rw [gt]; omega
   · rw [go i e]; exact b.near i hi
 · have hkt : k ≠ t := by rintro rfl; exact hkq (by simp)
   rw [go k hkt] at h0 ⊢
   have := b.done k hk h0 (fun e => hkq (List.mem_append_left _ e)) hkh i hi hai
   have hit : i ≠ t := by rintro rfl; omega
   rw [go i hit]; exact this
 · rcases List.mem_append.1 hx with hx | hx
   · have h1 := b.seen x hx
     rw [go x (by rintro rfl; omega)]; exact h1
   · rw [List.mem_singleton] at hx; subst hx; rw [gt]; omega
theorem BfsH.close {h : Nat} {pre : List Nat} {out : List Int} {q : List Nat} (b : BfsH n adj src h pre out q) (hp : ∀ i, i < n → adj i h → i ∈ pre) : Bfs n adj src out q where
 len := b.len
 ge := b.ge
 zero := b.zero
 step := b.step
 inq := b.inq
 asc := b.asc
 near := fun x hx i hi => by have := b.near i hi; have := b.after x hx; omega
 done := fun k hk h0 hq i hi ha => by
  by_cases e : k = h
  · subst e
    exact ⟨b.seen i (hp i hi ha), b.near i hi⟩
  · exact b.done k hk h0 hq e i hi ha
theorem Bfs.far {out : List Int} (b : Bfs n adj src out []) : Far n adj src (fun i => out.getD i 0) where
 ge := b.ge
 zero := b.zero
 step := b.step
 low := fun i k hi hk ha h0 => b.done k hk h0 (by simp) i hi ha
theorem neg_set {out : List Int} {t : Nat} {x : Int} (ht : t < out.length) (h : out.getD t 0 < 0) (hx : 0 ≤ x) : ((out.set t x).filter (fun y => decide (y < 0))).length + 1 = (out.filter (fun y => decide (y < 0))).length := by
 rw [zt ht] at h
 rw [← List.countP_eq_length_filter, ← List.countP_eq_length_filter, List.countP_set ht]
 have h1 : decide (out[t] < 0) = true := by simpa using h
 have h2 : decide (x < 0) = false := by simpa using hx
 have h3 : 0 < out.countP (fun y => decide (y < 0)) := List.countP_pos_iff.2 ⟨out[t], List.getElem_mem ht, h1⟩
 rw [h1, h2]
 simp only [if_true, Bool.false_eq_true, if_false]
 omega
end
theorem far_list {n : Nat} {adj : Nat → Nat → Prop} {src : Nat → Prop} {a b : List Int} (hf : Far n adj src (fun i => a.getD i 0)) (hg : Far n adj src (fun i => b.getD i 0)) (ha : a.length = n) (hb : b.length = n) : a = b := by
 refine List.ext_getElem (by omega) fun i h1 h2 => ?_
 have := hf.uniq hg i (by omega)
 rwa [zt h1, zt h2] at this
theorem far_reach {n : Nat} {adj : Nat → Nat → Prop} {src : Nat → Prop} {f : Nat → Int} (hf : Far n adj src f) (hs : ∀ i k, adj i k → adj k i) (i : Nat) (hi : i < n) : 0 ≤ f i ↔ ∃ j, j < n ∧ src j ∧ Conn n adj j i := by
 constructor
 · intro h
   obtain ⟨d, hd⟩ := Int.eq_ofNat_of_zero_le h
   clear h
   induction d generalizing i with
   | zero => exact ⟨i, hi, (hf.zero i hi).1 hd, .refl _⟩
   | succ d ih =>
    obtain ⟨k, hk, ha, he⟩ := hf.step i hi (by omega)
    obtain ⟨j, hj, hsj, hc⟩ := ih k hk (by omega)
    exact ⟨j, hj, hsj, hc.trans (Conn.one hk hi (hs _ _ ha))⟩
 · rintro ⟨j, hj, hsj, hc⟩
   induction hc with
   | refl => have := (hf.zero j hj).2 hsj; omega
   | step _ h1 h2 h3 ih => exact (hf.low _ _ h2 h1 (hs _ _ h3) (ih h1)).1
section
variable {n : Nat} {adj : Nat → Nat → Prop}
noncomputable def yA (n : Nat) (adj : Nat → Nat → Prop) (i : Nat) : List Int :=
 (List.range n).map fun k => if yr n adj k < i then ((ya ((List.range i).map (yr n adj))).idxOf (yr n adj k) : Int) else -1
noncomputable def qf (n : Nat) (adj : Nat → Nat → Prop) (i : Nat) : Nat := (ya ((List.range i).map (yr n adj))).length
theorem kQ (i : Nat) : (yA n adj i).length = n := by simp [yA]
theorem uj (i k : Nat) (hk : k < n) : (yA n adj i).getD k 0 = if yr n adj k < i then ((ya ((List.range i).map (yr n adj))).idxOf (yr n adj k) : Int) else -1 := by
 rw [zt (by rw [kQ]; exact hk)]; simp [yA]
theorem Xs : yA n adj 0 = List.replicate n (-1) := by
 refine List.ext_getElem (by simp [yA]) fun i h1 h2 => ?_
 simp [yA]
theorem YV : qf n adj 0 = 0 := rfl
theorem J5 (i : Nat) : qf n adj i ≤ i := by have := Zl ((List.range i).map (yr n adj)); simpa [qf] using this
theorem QJ : yA n adj n = ye n adj := by
 refine List.ext_getElem (by rw [kQ, yi]) fun k h1 h2 => ?_
 have hk : k < n := by rwa [kQ] at h1
 have e := jy ((List.range n).map (yr n adj)) k (by simpa using hk)
 refine Eq.trans ?_ e.symm
 simp only [yA, List.getElem_map, List.getElem_range]
 rw [if_pos (Nat.lt_of_le_of_lt (wk k) hk)]
theorem uc (hs : ∀ i j, adj i j → adj j i) {i k : Nat} : yr n adj k ∈ (List.range i).map (yr n adj) ↔ yr n adj k < i := by
 constructor
 · intro h
   obtain ⟨j, hj, e⟩ := List.mem_map.1 h
   have := wk (n := n) (adj := adj) j
   have := List.mem_range.1 hj
   omega
 · intro h
   exact List.mem_map.2 ⟨yr n adj k, List.mem_range.2 h, ZJ hs k⟩
theorem gH {i : Nat} {k : Nat} (hk : k < n) : 0 ≤ (yA n adj i).getD k 0 ↔ yr n adj k < i := by
 rw [uj i k hk]
 split
 · rename_i h; exact ⟨fun _ => h, fun _ => by omega⟩
 · rename_i h; exact ⟨fun h0 => by omega, fun h0 => absurd h0 h⟩
theorem Xt (hs : ∀ i j, adj i j → adj j i) {i : Nat} (hi : i < n) (h : 0 ≤ (yA n adj i).getD i 0) : yA n adj (i + 1) = yA n adj i ∧ qf n adj (i + 1) = qf n adj i := by
 have hc := (gH hi).1 h
 have hu : ya ((List.range (i + 1)).map (yr n adj)) = ya ((List.range i).map (yr n adj)) := by
  rw [List.range_succ, List.map_append, List.map_cons, List.map_nil, xD]
  unfold xe
  rw [if_pos (zQ.2 ((uc hs).2 hc))]
 refine ⟨?_, by unfold qf; rw [hu]⟩
 unfold yA
 refine List.map_congr_left fun k hk => ?_
 rw [hu]
 have e : yr n adj k < i + 1 ↔ yr n adj k < i := by
  constructor
  · intro h1
    by_cases e : yr n adj k = i
    · have := ZJ hs (n := n) k
      rw [e] at this; omega
    · omega
  · omega
 simp only [e]
theorem QI (hs : ∀ i j, adj i j → adj j i) {i : Nat} (hi : i < n) (h : (yA n adj i).getD i 0 < 0) {d : List Int} (_hd : d.length = n) (hf : Far n adj (fun k => k = i) (fun k => d.getD k 0)) :
  (∀ k, k < n → (yA n adj (i + 1)).getD k 0 = if 0 ≤ d.getD k 0 then (qf n adj i : Int) else (yA n adj i).getD k 0) ∧ qf n adj (i + 1) = qf n adj i + 1 := by
 have hc : yr n adj i = i := by
  have h1 : ¬ yr n adj i < i := fun e => by have := (gH hi).2 e; omega
  have := wk (n := n) (adj := adj) i
  omega
 have hni : ¬ yr n adj i ∈ ya ((List.range i).map (yr n adj)) := fun e => by
  have := (uc hs).1 (zQ.1 e); omega
 have hu : ya ((List.range (i + 1)).map (yr n adj)) = ya ((List.range i).map (yr n adj)) ++ [i] := by
  rw [List.range_succ, List.map_append, List.map_cons, List.map_nil, xD]
  unfold xe
  rw [if_neg hni, hc]
 refine ⟨fun k hk => ?_, by unfold qf; rw [hu]; simp⟩
 have hr := hf.reach hi hs k hk
 rw [← jB hs, hc] at hr
 rw [uj _ k hk, uj _ k hk, hu]
 by_cases h0 : 0 ≤ d.getD k 0
 · have e := (hr.1 h0).symm
   rw [if_pos h0, e, if_pos (by omega), List.idxOf_append, if_neg (by rw [hc] at hni; exact hni)]
   simp [qf]
 · have e : ¬ yr n adj k = i := fun e => h0 (hr.2 e.symm)
   rw [if_neg h0]
   by_cases h1 : yr n adj k < i
   · rw [if_pos h1, if_pos (by omega), List.idxOf_append, if_pos (zQ.2 ((uc hs).2 h1))]
   · rw [if_neg h1, if_neg (by omega)]
end
end
section
def kW (c : List Int) (k : Int) : List Nat := (List.range c.length).filter fun i => decide (c.getD i 0 = k)
def yg (ps : List Nat) (cls : Nat → List Int) (i : Nat) : List (Nat × Nat) := ps.flatMap fun p => (kW (cls p) ((cls p).getD i 0)).map fun k => (k, p)
def yp (ps : List Nat) (cls : Nat → List Int) (i k : Nat) : Prop := ∃ p ∈ ps, (cls p).getD i 0 = (cls p).getD k 0
theorem uq (ps : List Nat) (cls : Nat → List Int) (i k : Nat) (h : yp ps cls i k) : yp ps cls k i := by obtain ⟨p, hp, e⟩ := h; exact ⟨p, hp, e.symm⟩
theorem mem_memE {c : List Int} {k : Int} {i : Nat} : i ∈ kW c k ↔ i < c.length ∧ c.getD i 0 = k := by simp [kW]
theorem je {n : Nat} {ps : List Nat} {cls : Nat → List Int} (hl : ∀ p ∈ ps, (cls p).length = n) {i : Nat} {t : Nat × Nat} : t ∈ yg ps cls i ↔ t.1 < n ∧ t.2 ∈ ps ∧ (cls t.2).getD t.1 0 = (cls t.2).getD i 0 := by
 unfold yg
 simp only [List.mem_flatMap, List.mem_map, mem_memE]
 constructor
 · rintro ⟨p, hp, k, ⟨h1, h2⟩, rfl⟩
   exact ⟨by rw [← hl p hp]; exact h1, hp, h2⟩
 · rintro ⟨h1, h2, h3⟩
   exact ⟨t.2, h2, t.1, ⟨by rw [hl _ h2]; exact h1, h3⟩, rfl⟩
theorem nbr_adj {n : Nat} {ps : List Nat} {cls : Nat → List Int} (hl : ∀ p ∈ ps, (cls p).length = n) {i t : Nat} (ht : t < n) : t ∈ (yg ps cls i).map (·.1) ↔ yp ps cls t i := by
 rw [List.mem_map]
 constructor
 · rintro ⟨x, hx, rfl⟩
   obtain ⟨h1, h2, h3⟩ := (je hl).1 hx
   exact ⟨x.2, h2, h3⟩
 · rintro ⟨p, hp, e⟩
   exact ⟨(t, p), (je hl).2 ⟨ht, hp, e⟩, rfl⟩
theorem nbr_asc {ps : List Nat} {cls : Nat → List Int} (hp : ps.Pairwise (· < ·)) (i : Nat) : (yg ps cls i).Pairwise (fun a b => a.2 ≤ b.2) := by
 unfold yg
 induction ps with
 | nil => simp
 | cons p ps ih =>
  obtain ⟨h1, h2⟩ := List.pairwise_cons.1 hp
  rw [List.flatMap_cons]
  refine List.pairwise_append.2 ⟨?_, ih h2, fun x hx y hy => ?_⟩
  · exact List.pairwise_map.2 (List.Pairwise.imp (fun _ => Nat.le_refl _) (List.pairwise_of_forall (fun _ _ => trivial) : List.Pairwise (fun _ _ => True) _))
  · obtain ⟨k, _, rfl⟩ := List.mem_map.1 hx
    obtain ⟨q, hq, hy⟩ := List.mem_flatMap.1 hy
    obtain ⟨k', _, rfl⟩ := List.mem_map.1 hy
    exact Nat.le_of_lt (h1 q hq)
def xR (f : List Int) (d : Int) (b t : Nat × Nat) : Nat × Nat := if f.getD t.1 0 = d ∧ t.1 < b.1 then t else b
def xB (f : List Int) (d : Int) (n : Nat) (l : List (Nat × Nat)) : Nat × Nat := l.foldl (xR f d) (n, 0)
theorem QO (f : List Int) (d : Int) (n : Nat) (l : List (Nat × Nat)) (t : Nat × Nat) : xB f d n (l ++ [t]) = xR f d (xB f d n l) t := by simp [xB, List.foldl_append]
theorem Yn (f : List Int) (d : Int) (n : Nat) : ∀ (l : List (Nat × Nat)) (b : Nat × Nat), (l.foldl (xR f d) b).1 ≤ b.1
 | [], b => Nat.le_refl _
 | t :: l, b => by
  rw [List.foldl_cons]
  refine Nat.le_trans (Yn f d n l _) ?_
  unfold xR
  split
  · rename_i h; omega
  · exact Nat.le_refl _
theorem ZR (f : List Int) (d : Int) (n : Nat) : ∀ (l : List (Nat × Nat)) (b : Nat × Nat), (l.Pairwise fun a b => a.2 ≤ b.2) →
  (∀ t ∈ l, f.getD t.1 0 = d → (l.foldl (xR f d) b).1 ≤ t.1) ∧
  ((l.foldl (xR f d) b) = b ∨ ((l.foldl (xR f d) b) ∈ l ∧ f.getD (l.foldl (xR f d) b).1 0 = d ∧ (l.foldl (xR f d) b).1 < b.1 ∧ ∀ t ∈ l, t.1 = (l.foldl (xR f d) b).1 → (l.foldl (xR f d) b).2 ≤ t.2))
 | [], b, _ => ⟨by simp, .inl rfl⟩
 | t :: l, b, hp => by
  obtain ⟨h1, h2⟩ := List.pairwise_cons.1 hp
  obtain ⟨i1, i2⟩ := ZR f d n l (xR f d b t) h2
  have hle := Yn f d n l (xR f d b t)
  rw [List.foldl_cons]
  generalize l.foldl (xR f d) (xR f d b t) = r at *
  by_cases hc : f.getD t.1 0 = d ∧ t.1 < b.1
  · have e : xR f d b t = t := if_pos hc
    rw [e] at i2 hle
    refine ⟨fun x hx hfx => ?_, .inr ?_⟩
    · rcases List.mem_cons.1 hx with rfl | hx
      · exact hle
      · exact i1 x hx hfx
    · rcases i2 with rfl | ⟨j1, j2, j3, j4⟩
      · exact ⟨by simp, hc.1, hc.2, fun x hx he => by
         rcases List.mem_cons.1 hx with rfl | hx
         · exact Nat.le_refl _
         · exact h1 x hx⟩
      · exact ⟨List.mem_cons_of_mem _ j1, j2, by omega, fun x hx he => by
         rcases List.mem_cons.1 hx with rfl | hx
         · omega
         · exact j4 x hx he⟩
  · have e : xR f d b t = b := if_neg hc
    rw [e] at i2 hle
    refine ⟨fun x hx hfx => ?_, ?_⟩
    · rcases List.mem_cons.1 hx with rfl | hx
      · have : ¬ x.1 < b.1 := fun h => hc ⟨hfx, h⟩
        omega
      · exact i1 x hx hfx
    · rcases i2 with h | ⟨j1, j2, j3, j4⟩
      · exact .inl h
      · refine .inr ⟨List.mem_cons_of_mem _ j1, j2, j3, fun x hx he => ?_⟩
        rcases List.mem_cons.1 hx with rfl | hx
        · have : ¬ x.1 < b.1 := fun h => hc ⟨by rw [he]; exact j2, h⟩
          omega
        · exact j4 x hx he
def jH (f : List Int) (n : Nat) (nb : Nat → List (Nat × Nat)) : Nat → Nat → List (Nat × Nat)
 | 0, _ => []
 | d + 1, i => xB f (d : Int) n (nb i) :: jH f n nb d (xB f (d : Int) n (nb i)).1
theorem Zj (f : List Int) (n : Nat) (nb : Nat → List (Nat × Nat)) : ∀ d i, (jH f n nb d i).length = d
 | 0, _ => rfl
 | d + 1, i => by rw [jH, List.length_cons, Zj]
end
section
theorem Xu {n : Nat} {r r' : Nat → Nat → Prop} (hs : ∀ i j, r i j → r j i) (hs' : ∀ i j, r' i j → r' j i) (h : ∀ i j, i < n → j < n → (Conn n r i j ↔ Conn n r' i j)) : ye n r = ye n r' := by
 unfold ye
 refine va (by simp) fun i j h1 h2 => ?_
 simp only [List.getElem_map, List.getElem_range]
 rw [jB hs, jB hs']
 exact h i j (by simpa using h1) (by simpa using h2)
theorem ux {α : Type} [DecidableEq α] : ∀ (l acc : List α), (acc ++ l).Nodup → l.foldl xe acc = acc ++ l
 | [], acc, _ => by simp
 | k :: l, acc, h => by
  have hk : k ∉ acc := fun hk => by
   have := (List.nodup_append.1 h).2.2 k hk k (by simp)
   exact this rfl
  rw [List.foldl_cons]
  unfold xe
  rw [if_neg hk]
  change l.foldl xe (acc ++ [k]) = _
  rw [ux l (acc ++ [k]) (by simpa using h)]
  simp
theorem QK (n : Nat) : ye n (fun _ _ => False) = (List.range n).map fun (i : Nat) => (i : Int) := by
 have hc : ∀ i, yr n (fun _ _ => False) i = i := fun i => by
  have h := qi (n := n) (adj := fun _ _ => False) i
  generalize yr n (fun _ _ => False) i = m at h
  cases h with
  | refl => rfl
  | step _ _ _ h => exact h.elim
 have hm : (List.range n).map (yr n (fun _ _ => False)) = List.range n := by
  rw [show yr n (fun _ _ => False) = id from funext hc, List.map_id]
 unfold ye yS
 rw [hm]
 have hu : ya (List.range n) = List.range n := by
  unfold ya
  rw [ux _ _ (by simpa using List.nodup_range)]
  simp
 rw [hu]
 refine List.ext_getElem (by simp) fun i h1 h2 => ?_
 have hi : i < n := by simpa using h1
 simp only [List.getElem_map, List.getElem_range]
 have := List.Nodup.idxOf_getElem (xs := List.range n) List.nodup_range i (by simpa using hi)
 rw [List.getElem_range] at this
 rw [this]
theorem QL {n : Nat} {r s : Nat → Nat → Prop} {c : List Int} (hr : ∀ i j, r i j → r j i) (hs : ∀ i j, s i j → s j i) (hc : c = ye n r) {o : List Int} (ho : ∀ i j, i < n → j < n → (o.getD i 0 = o.getD j 0 ↔ s i j)) :
  ye n (fun i k => c.getD i 0 = c.getD k 0 ∨ o.getD i 0 = o.getD k 0) = ye n (fun i k => r i k ∨ s i k) := by
 have hcc : ∀ i j, i < n → j < n → (c.getD i 0 = c.getD j 0 ↔ Conn n r i j) := fun i j hi hj => by
  rw [zt (by rw [hc, yi]; exact hi), zt (by rw [hc, yi]; exact hj)]
  subst hc
  exact vf hr hi hj
 refine Xu (fun i j h => h.elim (fun e => .inl e.symm) (fun e => .inr e.symm)) (fun i j h => h.elim (fun e => .inl (hr _ _ e)) (fun e => .inr (hs _ _ e))) fun i j hi hj => ⟨fun h => h.mono fun a b ha hb hab => ?_, fun h => h.mono fun a b ha hb hab => ?_⟩
 · rcases hab with e | e
   · exact ((hcc a b ha hb).1 e).mono fun x y hx hy hxy => Conn.one hx hy (.inl hxy)
   · exact Conn.one ha hb (.inr ((ho a b ha hb).1 e))
 · rcases hab with e | e
   · exact Conn.one ha hb (.inl ((hcc a b ha hb).2 (Conn.one ha hb e)))
   · exact Conn.one ha hb (.inr ((ho a b ha hb).2 e))
structure GlI (n : Nat) (r : Nat → Nat → Prop) (out : List Int) : Prop where
 len : out.length = n
 low : ∀ i, i < n → 0 ≤ out.getD i 0 ∧ out.getD i 0 ≤ (i : Int)
 conn : ∀ i, i < n → Conn n r (out.getD i 0).toNat i
def jC (l : List Int) : Nat := (l.map Int.toNat).sum
theorem ZW : ∀ (l : List Int) (i : Nat) (x : Int) (h : i < l.length), jC (l.set i x) + l[i].toNat = jC l + x.toNat
 | a :: l, 0, x, _ => by simp [jC]; omega
 | a :: l, i + 1, x, h => by
  have := ZW l i x (by simpa using h)
  simp [jC] at this ⊢
  omega
section
variable {n : Nat} {r : Nat → Nat → Prop}
theorem GlI.start : GlI n r ((List.range n).map fun (i : Nat) => (i : Int)) where
 len := by simp
 low := fun i hi => by rw [zt (by simpa using hi)]; simp
 conn := fun i hi => by rw [zt (by simpa using hi)]; simp; exact .refl _
theorem GlI.join (hs : ∀ i j, r i j → r j i) {out : List Int} (h : GlI n r out) {i k : Nat} (hi : i < n) (hk : k < i) (hr : r i k) (hne : out.getD i 0 ≠ out.getD k 0) :
  GlI n r ((out.set i (min (out.getD i 0) (out.getD k 0))).set k (min (out.getD i 0) (out.getD k 0))) ∧ jC ((out.set i (min (out.getD i 0) (out.getD k 0))).set k (min (out.getD i 0) (out.getD k 0))) < jC out := by
 obtain ⟨m, hm⟩ : ∃ m, min (out.getD i 0) (out.getD k 0) = m := ⟨_, rfl⟩
 rw [hm]
 have hli : i < out.length := by rw [h.len]; exact hi
 have hlk : k < out.length := by omega
 obtain ⟨a1, a2⟩ := h.low i hi
 obtain ⟨b1, b2⟩ := h.low k (by omega)
 have hmi : Conn n r m.toNat i ∧ Conn n r m.toNat k := by
  have c1 := h.conn i hi
  have c2 := h.conn k (by omega)
  rcases (by omega : m = out.getD i 0 ∨ m = out.getD k 0) with e | e
  · rw [e]; exact ⟨c1, c1.trans (Conn.one hi (by omega) hr)⟩
  · rw [e]; exact ⟨c2.trans (Conn.one (by omega) hi (hs _ _ hr)), c2⟩
 have hg : ∀ j, ((out.set i m).set k m).getD j 0 = if j = k ∨ j = i then m else out.getD j 0 := fun j => by
  rw [kA (by rw [List.length_set]; exact hlk), kA hli]
  by_cases e1 : j = k
  · simp [e1]
  · by_cases e2 : j = i
    · simp [e2]
    · simp [e1, e2]
 refine ⟨⟨by simp [h.len], fun j hj => ?_, fun j hj => ?_⟩, ?_⟩
 · rw [hg j]
   split
   · rename_i e
     rcases e with rfl | rfl <;> omega
   · exact h.low j hj
 · rw [hg j]
   split
   · rename_i e
     rcases e with rfl | rfl
     · exact hmi.2
     · exact hmi.1
   · exact h.conn j hj
 · have s1 := ZW out i m hli
   have s2 := ZW (out.set i m) k m (by rw [List.length_set]; exact hlk)
   rw [List.getElem_set, if_neg (by omega)] at s2
   rw [zt hli] at hm a1 hne
   rw [zt hlk] at hm b1 hne
   omega
theorem GlI.done (hs : ∀ i j, r i j → r j i) {out : List Int} (h : GlI n r out) (hst : ∀ i k, i < n → k < i → r i k → out.getD i 0 = out.getD k 0) : out = (List.range n).map fun (i : Nat) => (yr n r i : Int) := by
 have hst2 : ∀ i k, i < n → k < n → r i k → out.getD i 0 = out.getD k 0 := fun i k hi hk hr => by
  rcases Nat.lt_trichotomy i k with e | e | e
  · exact (hst k i hk e (hs _ _ hr)).symm
  · rw [e]
  · exact hst i k hi e hr
 have hc : ∀ i j, Conn n r i j → out.getD i 0 = out.getD j 0 := fun i j hij => by
  induction hij with
  | refl => rfl
  | step _ h1 h2 h3 ih => exact ih.trans (hst2 _ _ h1 h2 h3)
 refine List.ext_getElem (by simp [h.len]) fun i h1 h2 => ?_
 have hi : i < n := by rw [← h.len]; exact h1
 simp only [List.getElem_map, List.getElem_range]
 rw [← zt h1 0]
 have e1 := hc _ _ (qi (n := n) (adj := r) i)
 have e2 := (h.low (yr n r i) (Nat.lt_of_le_of_lt (wk i) hi)).2
 have e3 := gI (h.conn i hi)
 have e4 := (h.low i hi).1
 omega
end
structure FarI (n : Nat) (adj : Nat → Nat → Prop) (src : Nat → Prop) (d : Nat) (f : Nat → Int) : Prop where
 ge : ∀ i, i < n → -1 ≤ f i ∧ f i ≤ (d : Int)
 zero : ∀ i, i < n → (f i = 0 ↔ src i)
 step : ∀ i, i < n → 0 < f i → ∃ k, k < n ∧ adj i k ∧ f k = f i - 1
 low : ∀ i k, i < n → k < n → adj i k → 0 ≤ f k → f k < (d : Int) → 0 ≤ f i ∧ f i ≤ f k + 1
theorem FarI.far {n : Nat} {adj : Nat → Nat → Prop} {src : Nat → Prop} {f : Nat → Int} (h : FarI n adj src n f) : Far n adj src f where
 ge := fun i hi => (h.ge i hi).1
 zero := h.zero
 step := h.step
 low := fun i k hi hk ha h0 => h.low i k hi hk ha h0 (Yh h.step hk)
structure FarJ (n : Nat) (adj : Nat → Nat → Prop) (src : Nat → Prop) (d i : Nat) (f : Nat → Int) : Prop where
 ge : ∀ i, i < n → -1 ≤ f i ∧ f i ≤ (d : Int) + 1
 zero : ∀ i, i < n → (f i = 0 ↔ src i)
 step : ∀ i, i < n → 0 < f i → ∃ k, k < n ∧ adj i k ∧ f k = f i - 1
 low : ∀ i k, i < n → k < n → adj i k → 0 ≤ f k → f k < (d : Int) → 0 ≤ f i ∧ f i ≤ f k + 1
 now : ∀ j k, j < i → j < n → k < n → adj j k → f k = (d : Int) → 0 ≤ f j
 new : ∀ j, i ≤ j → j < n → f j ≤ (d : Int)
section
variable {n : Nat} {adj : Nat → Nat → Prop} {src : Nat → Prop} {d : Nat} {f : Nat → Int}
theorem FarI.open (h : FarI n adj src d f) : FarJ n adj src d 0 f where
 ge := fun i hi => ⟨(h.ge i hi).1, by have := (h.ge i hi).2; omega⟩
 zero := h.zero
 step := h.step
 low := h.low
 now := fun j k hj => by omega
 new := fun j _ hj => (h.ge j hj).2
theorem FarJ.shut (h : FarJ n adj src d n f) : FarI n adj src (d + 1) f where
 ge := fun i hi => ⟨(h.ge i hi).1, by have := (h.ge i hi).2; omega⟩
 zero := h.zero
 step := h.step
 low := fun i k hi hk ha h0 hd => by
  by_cases e : f k = (d : Int)
  · have h1 := h.now i k hi hi hk ha e
    have := (h.ge i hi).2
    omega
  · exact h.low i k hi hk ha h0 (by omega)
theorem FarJ.skip {i : Nat} (h : FarJ n adj src d i f) (hi : 0 ≤ f i ∨ ∀ k, k < n → adj i k → f k ≠ (d : Int)) : FarJ n adj src d (i + 1) f where
 ge := h.ge
 zero := h.zero
 step := h.step
 low := h.low
 now := fun j k hj hjn hk ha he => by
  by_cases e : j = i
  · subst e
    rcases hi with h1 | h1
    · exact h1
    · exact absurd he (h1 k hk ha)
  · exact h.now j k (by omega) hjn hk ha he
 new := fun j hj => h.new j (by omega)
theorem FarJ.set {i k : Nat} (h : FarJ n adj src d i f) (hi : i < n) (hk : k < n) (ha : adj i k) (hf : f k = (d : Int)) (hn : f i < 0) {g : Nat → Int} (hg : ∀ j, g j = if j = i then (d : Int) + 1 else f j) : FarJ n adj src d (i + 1) g := by
 have gi : g i = (d : Int) + 1 := by rw [hg, if_pos rfl]
 have go : ∀ j, j ≠ i → g j = f j := fun j hj => by rw [hg, if_neg hj]
 refine ⟨fun j hj => ?_, fun j hj => ?_, fun j hj h0 => ?_, fun j m hj hm ham h0 hd => ?_, fun j m hj hjn hm ham he => ?_, fun j hj hjn => ?_⟩
 · by_cases e : j = i
   · subst e; rw [gi]; omega
   · rw [go j e]; exact h.ge j hj
 · by_cases e : j = i
   · subst e
     rw [gi, ← h.zero j hj]
     omega
   · rw [go j e]; exact h.zero j hj
 · by_cases e : j = i
   · subst e
     exact ⟨k, hk, ha, by rw [gi, go k (by rintro rfl; omega)]; omega⟩
   · rw [go j e] at h0 ⊢
     obtain ⟨m, hm, ham, he⟩ := h.step j hj h0
     exact ⟨m, hm, ham, by rw [go m (by rintro rfl; omega)]; exact he⟩
 · have hmi : m ≠ i := by rintro rfl; omega
   rw [go m hmi] at h0 hd ⊢
   have h1 := h.low j m hj hm ham h0 hd
   rw [go j (by rintro rfl; omega)]; exact h1
 · by_cases e : j = i
   · subst e; rw [gi]; omega
   · have hmi : m ≠ i := by rintro rfl; omega
     rw [go m hmi] at he
     rw [go j e]
     exact h.now j m (by omega) hjn hm ham he
 · rw [go j (by omega)]
   exact h.new j (by omega) hjn
theorem FarI.start {f : Nat → Int} (hf : ∀ i, i < n → (src i → f i = 0) ∧ (¬ src i → f i = -1)) : FarI n adj src 0 f where
 ge := fun i hi => by
  by_cases e : src i
  · have := (hf i hi).1 e; omega
  · have := (hf i hi).2 e; omega
 zero := fun i hi => by
  by_cases e : src i
  · simp [(hf i hi).1 e, e]
  · simp [(hf i hi).2 e, e]
 step := fun i hi h0 => by
  by_cases e : src i
  · have := (hf i hi).1 e; omega
  · have := (hf i hi).2 e; omega
 low := fun i k hi hk ha h0 hd => by omega
end
end
section
theorem adjE_snoc (ps : List Nat) (p : Nat) (cls : Nat → List Int) (i k : Nat) : yp (ps ++ [p]) cls i k ↔ yp ps cls i k ∨ (cls p).getD i 0 = (cls p).getD k 0 := by
 unfold yp
 constructor
 · rintro ⟨q, hq, e⟩
   rcases List.mem_append.1 hq with h | h
   · exact .inl ⟨q, h, e⟩
   · rw [List.mem_singleton] at h; subst h; exact .inr e
 · rintro (⟨q, hq, e⟩ | e)
   · exact ⟨q, List.mem_append_left _ hq, e⟩
   · exact ⟨p, by simp, e⟩
theorem adjE_nil (cls : Nat → List Int) : yp [] cls = fun _ _ => False := by
 funext i k
 unfold yp
 simp
def orE (a b : List Int) (i k : Nat) : Prop := a.getD i 0 = a.getD k 0 ∨ b.getD i 0 = b.getD k 0
theorem YS (a b : List Int) (i k : Nat) (h : orE a b i k) : orE a b k i := h.elim (fun e => .inl e.symm) (fun e => .inr e.symm)
theorem comp_snoc (n : Nat) (ps : List Nat) (p : Nat) (cls : Nat → List Int) : ye n (orE (ye n (yp ps cls)) (cls p)) = ye n (yp (ps ++ [p]) cls) := by
 have h := QL (n := n) (r := yp ps cls) (s := fun i k => (cls p).getD i 0 = (cls p).getD k 0) (c := ye n (yp ps cls)) (uq ps cls) (fun i j e => e.symm) rfl (o := cls p) (fun i j _ _ => Iff.rfl)
 refine h.trans ?_
 congr 1
 funext i k
 exact propext (adjE_snoc ps p cls i k).symm
theorem gG (n : Nat) (cls : Nat → List Int) : ye n (yp [] cls) = (List.range n).map fun (i : Nat) => (i : Int) := by rw [adjE_nil, QK]
theorem lab_cmin (n : Nat) (r : Nat → Nat → Prop) : yS ((List.range n).map fun (i : Nat) => (yr n r i : Int)) = ye n r := by
 unfold ye
 refine va (by simp) fun i j h1 h2 => ?_
 simp only [List.getElem_map, List.getElem_range]
 omega
def zV (set : List Bool) : List Nat := (List.range set.length).filter fun i => set.getD i false == false
theorem jd {set : List Bool} {i : Nat} : i ∈ zV set ↔ i < set.length ∧ set.getD i false = false := by simp [zV]
noncomputable def xW (n : Nat) (adj : Nat → Nat → Prop) (set : List Bool) : List Bool := (List.range n).map fun i => @decide (∀ j, j < n → Conn n adj j i → set.getD j false = true) (Classical.propDecidable _)
theorem qg (n : Nat) (adj : Nat → Nat → Prop) (set : List Bool) : (xW n adj set).length = n := by simp [xW]
theorem Xf (n : Nat) (adj : Nat → Nat → Prop) (set : List Bool) (i : Nat) (h : i < n) : (xW n adj set)[i]'(by rw [qg]; exact h) = true ↔ ∀ j, j < n → Conn n adj j i → set.getD j false = true := by simp [xW]
theorem Xe {n : Nat} {adj : Nat → Nat → Prop} {set : List Bool} {f : List Int} (hn : set.length = n) (hf : Far n adj (fun i => i ∈ zV set) (fun i => f.getD i 0)) (hl : f.length = n) (hs : ∀ i k, adj i k → adj k i) : xW n adj set = f.map fun d => decide (d < 0) := by
 refine List.ext_getElem (by rw [qg]; simp [hl]) fun i h1 h2 => ?_
 have hi : i < n := by rwa [qg] at h1
 rw [Bool.eq_iff_iff, Xf n adj set i hi, List.getElem_map, decide_eq_true_iff]
 have hr := far_reach hf hs i hi
 rw [← zt (by omega : i < f.length) 0]
 constructor
 · intro h
   refine Int.not_le.1 fun h0 => ?_
   obtain ⟨j, hj, hsj, hc⟩ := hr.1 h0
   have h3 := (jd.1 hsj).2
   rw [h j hj hc] at h3
   cases h3
 · intro h j hj hc
   cases hb : set.getD j false with
   | true => rfl
   | false => have := hr.2 ⟨j, hj, jd.2 ⟨by omega, hb⟩, hc⟩; omega
theorem held_lab {n : Nat} {adj : Nat → Nat → Prop} {set : List Bool} (hs : ∀ i k, adj i k → adj k i) (i : Nat) (hi : i < n) : (xW n adj set)[i]'(by rw [qg]; exact hi) = true ↔ ∀ k, k < n → (ye n adj).getD k 0 = (ye n adj).getD i 0 → set.getD k false = true := by
 rw [Xf n adj set i hi]
 constructor
 · intro h k hk e
   refine h k hk ?_
   rw [zt (by rw [yi]; exact hk), zt (by rw [yi]; exact hi)] at e
   exact (vf hs hk hi).1 e
 · intro h k hk hc
   refine h k hk ?_
   rw [zt (by rw [yi]; exact hk), zt (by rw [yi]; exact hi)]
   exact (vf hs hk hi).2 hc
def byE (ps : List Nat) (cls : Nat → List Int) (i k : Nat) : Int := match ps.find? fun p => (cls p).getD i 0 == (cls p).getD k 0 with | some p => (p : Int) | none => -1
theorem Jr (cls : Nat → List Int) (i k : Nat) : byE [] cls i k = -1 := rfl
theorem Xy (p : Nat) (ps : List Nat) (cls : Nat → List Int) (i k : Nat) : byE (p :: ps) cls i k = if (cls p).getD i 0 = (cls p).getD k 0 then (p : Int) else byE ps cls i k := by
 unfold byE
 rw [List.find?_cons]
 by_cases h : (cls p).getD i 0 = (cls p).getD k 0
 · have : ((cls p).getD i 0 == (cls p).getD k 0) = true := by simpa using h
   rw [this, if_pos h]
 · have : ((cls p).getD i 0 == (cls p).getD k 0) = false := by simpa using h
   rw [this, if_neg h]
theorem Js (ps : List Nat) (cls : Nat → List Int) (i k : Nat) : 0 ≤ byE ps cls i k ↔ yp ps cls i k := by
 induction ps with
 | nil => simp [Jr, yp]
 | cons p ps ih =>
  rw [Xy]
  unfold yp at ih ⊢
  by_cases h : (cls p).getD i 0 = (cls p).getD k 0
  · rw [if_pos h]
    exact ⟨fun _ => ⟨p, by simp, h⟩, fun _ => by omega⟩
  · rw [if_neg h, ih]
    constructor
    · rintro ⟨q, hq, e⟩; exact ⟨q, by simp [hq], e⟩
    · rintro ⟨q, hq, e⟩
      rcases List.mem_cons.1 hq with rfl | hq
      · exact absurd e h
      · exact ⟨q, hq, e⟩
theorem byE_least {ps : List Nat} {cls : Nat → List Int} {i k : Nat} (hp : ps.Pairwise (· < ·)) {p : Nat} (h : byE ps cls i k = (p : Int)) : p ∈ ps ∧ (cls p).getD i 0 = (cls p).getD k 0 ∧ ∀ q ∈ ps, q < p → (cls q).getD i 0 ≠ (cls q).getD k 0 := by
 induction ps with
 | nil => rw [Jr] at h; omega
 | cons r ps ih =>
  obtain ⟨h1, h2⟩ := List.pairwise_cons.1 hp
  rw [Xy] at h
  split at h
  · rename_i e
    obtain rfl : r = p := by omega
    refine ⟨by simp, e, fun q hq hlt => ?_⟩
    rcases List.mem_cons.1 hq with rfl | hq
    · omega
    · have := h1 q hq; omega
  · rename_i e
    obtain ⟨a1, a2, a3⟩ := ih h2 h
    refine ⟨by simp [a1], a2, fun q hq hlt => ?_⟩
    rcases List.mem_cons.1 hq with rfl | hq
    · exact e
    · exact a3 q hq hlt
def xE (n : Nat) (adj : Nat → Nat → Prop) (src : Nat → Prop) : Nat → Nat → Prop
 | 0, i => src i
 | d + 1, i => ∃ k, k < n ∧ adj i k ∧ xE n adj src d k
noncomputable def uQ (n : Nat) (adj : Nat → Nat → Prop) (src : Nat → Prop) (i : Nat) : Int :=
 @dite _ (∃ d, xE n adj src d i) (Classical.propDecidable _) (fun h => ((Classical.choose (kz (p := fun d => xE n adj src d i) (Classical.choose h) (Classical.choose_spec h)) : Nat) : Int)) (fun _ => -1)
theorem xI {n : Nat} {adj : Nat → Nat → Prop} {src : Nat → Prop} {i d : Nat} (h : xE n adj src d i) : ∃ m : Nat, uQ n adj src i = (m : Int) ∧ m ≤ d ∧ xE n adj src m i ∧ ∀ k, k < m → ¬ xE n adj src k i := by
 have h1 : ∃ d, xE n adj src d i := ⟨d, h⟩
 unfold uQ
 rw [dif_pos h1]
 obtain ⟨a1, a2, a3⟩ := Classical.choose_spec (kz (p := fun d => xE n adj src d i) (Classical.choose h1) (Classical.choose_spec h1))
 exact ⟨_, rfl, Nat.le_of_not_lt fun hlt => a3 d hlt h, a2, a3⟩
theorem kP {n : Nat} {adj : Nat → Nat → Prop} {src : Nat → Prop} {i : Nat} (h : ¬ ∃ d, xE n adj src d i) : uQ n adj src i = -1 := by
 unfold uQ
 rw [dif_neg h]
theorem distN_far (n : Nat) (adj : Nat → Nat → Prop) (src : Nat → Prop) : Far n adj src (uQ n adj src) where
 ge := fun i _ => by
  by_cases h : ∃ d, xE n adj src d i
  · obtain ⟨d, hd⟩ := h
    obtain ⟨m, e, _⟩ := xI hd
    omega
  · rw [kP h]; omega
 zero := fun i _ => by
  constructor
  · intro h0
    by_cases h : ∃ d, xE n adj src d i
    · obtain ⟨d, hd⟩ := h
      obtain ⟨m, e, _, h2, _⟩ := xI hd
      obtain rfl : m = 0 := by omega
      exact h2
    · rw [kP h] at h0; omega
  · intro h0
    obtain ⟨m, e, h1, _⟩ := xI (d := 0) (show xE n adj src 0 i from h0)
    omega
 step := fun i _ h0 => by
  by_cases h : ∃ d, xE n adj src d i
  · obtain ⟨d, hd⟩ := h
    obtain ⟨m, e, _, h2, h3⟩ := xI hd
    obtain ⟨m', rfl⟩ : ∃ m', m = m' + 1 := ⟨m - 1, by omega⟩
    obtain ⟨k, hk, ha, hr⟩ := h2
    obtain ⟨j, e2, hj, hj2, _⟩ := xI hr
    refine ⟨k, hk, ha, ?_⟩
    have : ¬ j < m' := fun hlt => h3 (j + 1) (by omega) ⟨k, hk, ha, hj2⟩
    omega
  · rw [kP h] at h0; omega
 low := fun i k _ hk ha h0 => by
  by_cases h : ∃ d, xE n adj src d k
  · obtain ⟨d, hd⟩ := h
    obtain ⟨m, e, _, h2, _⟩ := xI hd
    obtain ⟨j, e2, hj, _⟩ := xI (d := m + 1) (show xE n adj src (m + 1) i from ⟨k, hk, ha, h2⟩)
    omega
  · rw [kP h] at h0; omega
theorem QC (n : Nat) (adj : Nat → Nat → Prop) (src : Nat → Prop) : ∃ f : List Int, f.length = n ∧ Far n adj src (fun i => f.getD i 0) := by
 refine ⟨(List.range n).map (uQ n adj src), by simp, ?_⟩
 have h := distN_far n adj src
 have e : ∀ i, i < n → ((List.range n).map (uQ n adj src)).getD i 0 = uQ n adj src i := fun i hi => by rw [zt (by simpa using hi)]; simp
 refine ⟨fun i hi => by simp only [e i hi]; exact h.ge i hi, fun i hi => by simp only [e i hi]; exact h.zero i hi, fun i hi h0 => ?_, fun i k hi hk ha h0 => ?_⟩
 · simp only [e i hi] at h0 ⊢
   obtain ⟨k, hk, ha, hd⟩ := h.step i hi h0
   exact ⟨k, hk, ha, by rw [e k hk]; exact hd⟩
 · simp only [e i hi, e k hk] at h0 ⊢
   exact h.low i k hi hk ha h0
def qX (bs : List Bool) (k : Nat) : List Bool := bs.take k ++ List.replicate (bs.length - k) false
theorem ZG (bs : List Bool) : qX bs 0 = List.replicate bs.length false := by simp [qX]
theorem Xl (bs : List Bool) : qX bs bs.length = bs := by simp [qX]
theorem Xk (bs : List Bool) {k : Nat} (hk : k ≤ bs.length) : (qX bs k).length = bs.length := by simp [qX]; omega
theorem Xj (bs : List Bool) {k : Nat} (hk : k < bs.length) : (qX bs k).set k bs[k] = qX bs (k + 1) := by
 unfold qX
 rw [List.take_succ_eq_append_getElem hk, List.set_append_right _ _ (by simp; omega)]
 rw [show bs.length - k = (bs.length - (k + 1)) + 1 by omega, List.replicate_succ]
 rw [show k - (bs.take k).length = 0 by simp; omega, List.set_cons_zero, List.append_assoc]
 rfl
end
section
open Go.RowKit Go.Shelf
attribute [local go_sem] Oper.semAt_some
theorem Z3 (n : Nat) (hn : 0 < n) : ∀ m i, zh n i m = (List.range (m * n)).map fun t => (i + t / n, t % n)
 | 0, i => by simp [zh]
 | m + 1, i => by
  rw [zh, Z3 n hn m (i + 1), Nat.succ_mul, Nat.add_comm (m * n) n, List.range_add, List.map_append, List.map_map]
  congr 1
  · refine List.map_congr_left fun t ht => ?_
    have := List.mem_range.1 ht
    rw [Nat.div_eq_of_lt this, Nat.mod_eq_of_lt this, Nat.add_zero]
  · refine List.map_congr_left fun t _ => ?_
    simp only [Function.comp]
    rw [Nat.add_div_left _ hn, Nat.add_mod_left]
    congr 1
    omega
theorem Q4 (n m : Nat) (hn : 0 < n) : (zh n 0 m).length = m * n := by rw [Z3 n hn]; simp
theorem prs_at (n m : Nat) (hn : 0 < n) (i : Nat) (h : i < (zh n 0 m).length) : (zh n 0 m)[i] = (i / n, i % n) := by
 have := Z3 n hn m 0
 simp only [this, List.getElem_map, List.getElem_range]
 simp
set_option maxRecDepth 100000 in
theorem all_any (s : Sy) (A SV AV AX : Option Addr) (kc ks kv kx : Nat) (w : World) : Calls Tryz.prog 93 #[.agg (s.vs_ A kc SV ks AV kv AX kx)] w fun e w' =>
  e = .returned (.func (.func 147) #[] #[.pointer (some ⟨w.heap.size, 0, none⟩)]) ∧ w.alloc (.cells (s.vs_ A kc SV ks AV kv AX kx) 35) = w' := by
 unfold Sy.vs_
 go_enter Tryz.func93, Tryz.ntmps93
 go_wp2
 go_ret
 exact ⟨rfl, rfl⟩
structure PtC (C : Array Value) (K M : Nat) (AX : Option Addr) (kx : Nat) : Prop where
 c6 : C[6]? = some (.int .i64 (K : Int))
 c9 : C[9]? = some (.slice AX M kx)
set_option maxRecDepth 100000 in
theorem all1_iter (C : Array Value) (K M : Nat) (hK : K ≤ 100) (hM : M ≤ 100) (AX : Option Addr) (kx : Nat) (hC : PtC C K M AX kx) (bs : Nat) (w : World) (hb : w.heap[bs]? = some (.cells C 35 (0, 0))) :
  QR Tryz.prog 147 #[.pointer (some ⟨bs, 0, none⟩)] (fun x : Nat × Nat => #[.agg #[.int .i64 x.1, .int .i64 x.2]]) (fun k => k = bs) (zh (K + 1) 0 M) w := fun n hn l J Jx W hW hJ hJx hY h0 => by
 have hbp : bs < w.heap.size := (Array.getElem?_eq_some_iff.1 hb).1
 have hp0 := (hW.block bs hbp).trans hb
 have HY := zH hY
 have c9 := za hp0 9 hC.c9
 have HC6 := zH hC.c6
 have H0 := zH h0
 have HP0 := zH hp0
 have hpW : bs < W.heap.size := Nat.lt_of_lt_of_le hbp hW.size
 clear hY hJ hJx h0 hp0 hb hW hbp hC
 refine callsIn_of_wp Tryz.func147 rfl trivial ?_ rfl
 simp only [Tryz.ntmps147, List.size_toArray, List.length_cons, List.length_nil, Nat.reduceAdd, Nat.reduceSub, Array.replicate_succ, Array.replicate_zero, List.push_toArray, List.append_toArray, List.nil_append, List.cons_append]
 gi_wp2
 gi_loopw [8] (fun q wr => ∃ s : Nat, s ≤ M ∧ q = .int .i64 (s : Int) ∧ ∃ pre : List { x : Nat × Nat // x ∈ zh (K + 1) 0 M }, Hid (pre.map (·.1) ++ zh (K + 1) s (M - s) = zh (K + 1) 0 M) ∧ Hid (J pre wr) ∧ Hid (wr.heap[bs]? = some (.cells C 35 (0, 0))) ∧ W.heap.size ≤ wr.heap.size) (fun q _ => M - (intOf q).toNat)
 case atStart => exact ⟨0, by omega, rfl, [], by simp [Hid], H0, HP0, Nat.le_refl _⟩
 case round =>
  obtain ⟨s, hs, rfl, pre, hpr, hJ0, hPr, hsz⟩ := hrel
  clear c9 HP0 H0
  by_cases hlt : s < M
  · have hdr : zh (K + 1) s (M - s) = yD (K + 1) s 0 ++ zh (K + 1) (s + 1) (M - (s + 1)) := by
     rw [show M - s = (M - (s + 1)) + 1 by omega, zh]
     unfold yD
     rw [List.drop_zero]
    have HP : Hid (pre.map (·.1) ++ (yD (K + 1) s 0 ++ zh (K + 1) (s + 1) (M - (s + 1))) = zh (K + 1) 0 M) := by rw [← hdr]; exact hpr.out
    have q6 := za hPr.out 6 HC6.out
    have hw1 : IntKind.i64.wrap ((K : Int) + 1) = (K : Int) + 1 := by rw [IntKind.wrap_i64]; omega
    clear hdr hpr
    gi_wp2_with fail
    gi_loopw [15] (fun q wr => ∃ j : Nat, j ≤ K + 1 ∧ q = .int .i64 (j : Int) ∧ ∃ pre : List { x : Nat × Nat // x ∈ zh (K + 1) 0 M }, Hid (pre.map (·.1) ++ (yD (K + 1) s j ++ zh (K + 1) (s + 1) (M - (s + 1))) = zh (K + 1) 0 M) ∧ Hid (J pre wr) ∧ Hid (wr.heap[bs]? = some (.cells C 35 (0, 0))) ∧ W.heap.size ≤ wr.heap.size) (fun q _ => K + 1 - (intOf q).toNat)
    case atStart => exact ⟨0, by omega, rfl, pre, HP, hJ0, hPr, hsz⟩
    case round =>
     clear HP q6 hJ0 hPr hsz
     obtain ⟨j, hj, rfl, pre, hpr, hJ0, hPr, hsz⟩ := hrel
     by_cases hjl : j < K + 1
     · have hp2 : pre.map (·.1) ++ ((s, j) :: (yD (K + 1) s (j + 1) ++ zh (K + 1) (s + 1) (M - (s + 1)))) = zh (K + 1) 0 M := by
        have := hpr.out
        rw [vu hjl, List.cons_append] at this
        exact this
       have hmem : (s, j) ∈ zh (K + 1) 0 M := by rw [← hp2]; simp
       have hlen : pre.length < (zh (K + 1) 0 M).length := by
        have := congrArg List.length hp2
        simp only [List.length_append, List.length_map, List.length_cons] at this
        omega
       obtain ⟨fn, tmps, assign, body, hy, hR⟩ := HY.out pre ⟨(s, j), hmem⟩ _ hJ0.out hlen
       dsimp only at hy
       have HP2 : Hid ((pre ++ [(⟨(s, j), hmem⟩ : { x : Nat × Nat // x ∈ zh (K + 1) 0 M })]).map (·.1) ++ (yD (K + 1) s (j + 1) ++ zh (K + 1) (s + 1) (M - (s + 1))) = zh (K + 1) 0 M) := by
        rw [List.map_append, List.append_assoc]
        exact hp2
       have HR := zH hR
       have hjI : (j : Int) < (K : Int) + 1 := by omega
       clear hp2 hpr hR
       gi_wp2_with fail
       refine HR.out.mono ?_
       rintro e W3 (⟨rfl, hJ3, hk3⟩ | ⟨rfl, hJx3⟩)
       · have hs1 : wr.heap.size ≤ W3.heap.size := hk3.size
         have P3 := zH ((hk3.same bs rfl (by omega)).trans hPr.out)
         have J3 := zH hJ3
         have hsz3 : W.heap.size ≤ W3.heap.size := by omega
         clear hk3 hJ3 hs1
         gi_wp2_with fail
         go_roundw
         case rel => exact ⟨j + 1, by omega, by go_num, _, HP2, J3, P3, hsz3⟩
         case measure => simp [intOf]; omega
       · gi_wp2_with fail
         refine bodyPost_ret (results_none rfl _ _ _) rfl ?_
         refine ⟨⟨_, rfl⟩, .inr ⟨_, ?_, hJx3⟩⟩
         exact ⟨_, HP2.out⟩
     · obtain rfl : j = K + 1 := by omega
       have HP : Hid (pre.map (·.1) ++ zh (K + 1) (s + 1) (M - (s + 1)) = zh (K + 1) 0 M) := by have := hpr.out; rwa [uE, List.nil_append] at this
       have hjI : ¬ (((K + 1 : Nat) : Int) < (K : Int) + 1) := by omega
       clear hpr
       gi_wp2_with fail
       go_roundw
       case rel => exact ⟨s + 1, by omega, by go_num, pre, HP, hJ0, hPr, hsz⟩
       case measure => simp [intOf]; omega
  · obtain rfl : M = s := by omega
    have HP : Hid (pre.map (·.1) = zh (K + 1) 0 M) := by have := hpr.out; rwa [Nat.sub_self, zh, List.append_nil] at this
    clear hpr
    gi_wp2_with fail
    go_end0
    exact ⟨⟨_, rfl⟩, .inl ⟨pre, HP.out, hJ0.out⟩⟩
end
section
open Go.RowKit Go.Shelf
theorem YR {w : World} {base : Nat} {v : Value} {xs : List Int} (h : Own w base v xs) {k : Nat} {cs : Array Value} {t : TypeId} (hk : w.heap[k]? = some (.cells cs t (0, 0))) (ht : t ≠ 3) : v.ownBlock ≠ some k := by
 intro e
 rcases h.2 with ⟨rfl, _⟩ | ⟨g, cap, cur, rfl, _, hg, _⟩
 · cases e
 · simp only [Value.ownBlock, Option.some.injEq] at e
   subst e
   rw [hk] at hg
   cases hg
   exact ht rfl
theorem Zt {w : World} {base : Nat} {v : Value} {xs : List Int} (h : Own w base v xs) : ∀ r, v.ownBlock = some r → base ≤ r ∧ ∀ o, w.heap[r]? = some o → o.isCells = true := by
 intro r hr
 refine ⟨(h.lt r hr).1, fun o ho => ?_⟩
 rcases h.2 with ⟨rfl, _⟩ | ⟨g, cap, cur, rfl, _, hg, _⟩
 · cases hr
 · simp only [Value.ownBlock, Option.some.injEq] at hr
   subst hr
   rw [hg] at ho
   cases ho
   rfl
end
section
open Go.RowKit Go.Shelf
attribute [local go_sem] Oper.semAt_some
theorem ZX {α : Type} : ∀ {l m : List α}, l.Nodup → (∀ x ∈ l, x ∈ m) → l.length ≤ m.length
 | [], _, _, _ => by simp
 | a :: l, m, hn, h => by
  classical
  obtain ⟨h1, h2⟩ := List.nodup_cons.1 hn
  have ha : a ∈ m := h a (by simp)
  have := ZX (l := l) (m := m.erase a) h2 (fun x hx => by
   have hne : x ≠ a := by rintro rfl; exact h1 hx
   exact (List.mem_erase_of_ne hne).2 (h x (by simp [hx])))
  rw [List.length_erase_of_mem ha] at this
  have hpos : 0 < m.length := List.length_pos_of_mem ha
  simp only [List.length_cons]
  omega
theorem MapOf.count {κ : Type} {enc : κ → Value} (inj : ∀ a b, enc a = enc b → a = b) {w : World} {b n : Nat} {f : κ → Option Value} {l : List κ} (h : MapOf enc w b n f) (hn : l.Nodup) (hf : ∀ k, (∃ v, f k = some v) ↔ k ∈ l) :
  ∃ es clock, w.heap[b]? = some (.map es clock) ∧ es.size = l.length := by
 obtain ⟨es, clock, hb, _, hp, h1, h2⟩ := h
 refine ⟨es, clock, hb, ?_⟩
 have e1 : (es.toList.map (·.key)).Nodup := List.pairwise_map.2 hp
 have e2 : (l.map enc).Nodup := List.pairwise_map.2 (hn.imp fun hab e => hab (inj _ _ e))
 have g1 := ZX e1 (m := l.map enc) (fun x hx => by
  obtain ⟨e, he, rfl⟩ := List.mem_map.1 hx
  obtain ⟨k, hk, hv⟩ := h1 e he
  exact List.mem_map.2 ⟨k, (hf k).1 ⟨_, hv⟩, hk.symm⟩)
 have g2 := ZX e2 (m := es.toList.map (·.key)) (fun x hx => by
  obtain ⟨k, hk, rfl⟩ := List.mem_map.1 hx
  obtain ⟨v, hv⟩ := (hf k).2 hk
  obtain ⟨e, he, hek, _⟩ := h2 k v hv
  exact List.mem_map.2 ⟨e, he, hek⟩)
 simp at g1 g2
 omega
def vZ (l : List Int) : Int → Option Value := fun k => if k ∈ l then some (.int .i64 (l.idxOf k : Int)) else none
theorem numG_nil : vZ [] = fun _ => none := by funext k; simp [vZ]
theorem numG_put {l : List Int} {k : Int} (h : k ∉ l) : qG (vZ l) k (.int .i64 (l.length : Int)) = vZ (l ++ [k]) := by
 funext x
 unfold qG vZ
 by_cases e : x = k
 · subst e
   rw [if_pos rfl, if_pos (by simp), List.idxOf_append, if_neg h]
   simp
 · rw [if_neg e]
   by_cases hx : x ∈ l
   · rw [if_pos hx, if_pos (by simp [hx]), List.idxOf_append, if_pos hx]
   · rw [if_neg hx, if_neg (by simp [hx, e])]
theorem uI {α : Type} [DecidableEq α] : ∀ (l acc : List α), acc.Nodup → (l.foldl xe acc).Nodup
 | [], _, h => h
 | k :: l, acc, h => by
  rw [List.foldl_cons]
  refine uI l _ ?_
  unfold xe
  split
  · exact h
  · rename_i hk
    exact List.nodup_append.2 ⟨h, by simp, fun a ha b hb => by rw [List.mem_singleton] at hb; subst hb; rintro rfl; exact hk ha⟩
theorem YU {α : Type} [DecidableEq α] (l : List α) : (ya l).Nodup := uI l [] List.nodup_nil
theorem Qb {w : World} {b n : Nat} {us : List Int} (h : MapOf (Value.int .i64) w b n (vZ us)) (hu : us.Nodup) : ∃ es clock, w.heap[b]? = some (.map es clock) ∧ es.size = us.length :=
 h.count (fun a b e => by injection e) hu (fun k => by
  unfold vZ
  by_cases hk : k ∈ us
  · simp [hk]
  · simp [hk])
theorem Own.same {w w' : World} {base : Nat} {v : Value} {xs : List Int} (h : Own w base v xs) (hs : ∀ k, base ≤ k → k < w.heap.size → w'.heap[k]? = w.heap[k]?) : Own w' base v xs := by
 refine ⟨h.1, ?_⟩
 rcases h.2 with hn | ⟨g, cap, cur, hv, hb, hg, rest⟩
 · exact .inl hn
 · exact .inr ⟨g, cap, cur, hv, hb, (hs g hb (zd hg)).trans hg, rest⟩
structure NbIn (B : Nat) (S : Array Value) (F : Value) (R : Nat → Prop) (us ls : List Int) (w W : World) : Prop where
 wrote : Wrote R w W
 b0 : W.heap[B]? = some (.cells S 35 (0, 0))
 b1 : W.heap[B + 1]? = some (.cells #[F] 154 (0, 0))
 b3 : W.heap[B + 1 + 1 + 1]? = some (.cells #[.map (some (B + 1 + 1))] 115 (0, 0))
 b5 : W.heap[B + 1 + 1 + 1 + 1 + 1]? = some (.cells S 35 (0, 0))
 hm : ∃ m, MapOf (Value.int .i64) W (B + 1 + 1) m (vZ us)
 box : ∃ P c, W.heap[B + 1 + 1 + 1 + 1]? = some (.cells #[.slice P ls.length c] 38 (0, 0)) ∧ Own W (B + 6) (.slice P ls.length c) ls
 sz : B + 6 ≤ W.heap.size
section
variable {B : Nat} {S : Array Value} {F : Value} {R : Nat → Prop} {us ls : List Int} {w W W' : World}
theorem NbIn.turn {row : Option Nat} (h : NbIn B S F R us ls w W) (hw : w.heap.size ≤ B) (hg : W.grownBy W' row) (hr : ∀ r, row = some r → B + 6 ≤ r ∧ ∃ o : Obj, W.heap[r]? = some o ∧ o.isCells = false) : NbIn B S F R us ls w W' := by
 obtain ⟨P, c, hb, ho⟩ := h.box
 obtain ⟨m, hm⟩ := h.hm
 have hsz := h.sz
 have old : ∀ k, k < B + 6 → W'.heap[k]? = W.heap[k]? := fun k hk => hg.block k (by omega) (fun e => by have := (hr k e.symm).1; omega)
 refine ⟨h.wrote.trans (Wrote.of_grown (R := fun k => w.heap.size ≤ k) hg (fun k e hk => by have := (hr k e).1; omega)) (fun k h1 h2 => by omega), (old B (by omega)).trans h.b0, (old _ (by omega)).trans h.b1, (old _ (by omega)).trans h.b3, (old _ (by omega)).trans h.b5, ⟨m, hm.same (old _ (by omega))⟩, ⟨P, c, (old _ (by omega)).trans hb, ho.kept hg ?_⟩, Nat.le_trans hsz hg.size⟩
 rcases e : (Value.slice P ls.length c).ownBlock with _ | g
 · exact .inl rfl
 · refine .inr fun e2 => ?_
   obtain ⟨o, h1, h2⟩ := (hr g e2.symm).2
   have := (Zt ho g e).2 o h1
   rw [this] at h2; cases h2
theorem NbIn.call (h : NbIn B S F R us ls w W) (hw : Wrote R W W') (hR : ∀ k, R k → k < B) : NbIn B S F R us ls w W' := by
 obtain ⟨P, c, hb, ho⟩ := h.box
 obtain ⟨m, hm⟩ := h.hm
 have hsz := h.sz
 have old : ∀ k, B ≤ k → k < W.heap.size → W'.heap[k]? = W.heap[k]? := fun k hk hl => hw.block k hl (fun e => by have := hR k e; omega)
 exact ⟨h.wrote.trans hw (fun _ _ h => h), (old B (by omega) (by omega)).trans h.b0, (old _ (by omega) (by omega)).trans h.b1, (old _ (by omega) (by omega)).trans h.b3, (old _ (by omega) (by omega)).trans h.b5, ⟨m, hm.same (old _ (by omega) (by omega))⟩, ⟨P, c, (old _ (by omega) (by omega)).trans hb, ho.same fun k hk hl => old k (by omega) hl⟩, Nat.le_trans hsz hw.size⟩
theorem NbIn.put {us' : List Int} {m : Nat} (h : NbIn B S F R us ls w W) (hw : w.heap.size ≤ B) (hg : W.grownBy W' (some (B + 1 + 1))) (hm : MapOf (Value.int .i64) W' (B + 1 + 1) m (vZ us')) : NbIn B S F R us' ls w W' := by
 obtain ⟨P, c, hb, ho⟩ := h.box
 have hsz := h.sz
 have old : ∀ k, k < W.heap.size → k ≠ B + 1 + 1 → W'.heap[k]? = W.heap[k]? := fun k hk hl => hg.block k hk (fun e => hl (by cases e; rfl))
 exact ⟨h.wrote.trans (Wrote.of_grown (R := fun k => w.heap.size ≤ k) hg (fun k e hk => by cases e; omega)) (fun k h1 h2 => by omega), (old B (by omega) (by omega)).trans h.b0, (old _ (by omega) (by omega)).trans h.b1, (old _ (by omega) (by omega)).trans h.b3, (old _ (by omega) (by omega)).trans h.b5, ⟨m, hm⟩, ⟨P, c, (old _ (by omega) (by omega)).trans hb, ho.same fun k hk hl => old k hl (by omega)⟩, Nat.le_trans hsz hg.size⟩
theorem NbIn.push {P P2 : Option Addr} {c c2 : Nat} {u : Int} {W1 : World} (h : NbIn B S F R us ls w W) (hw : w.heap.size ≤ B) (hb : W.heap[B + 1 + 1 + 1 + 1]? = some (.cells #[.slice P ls.length c] 38 (0, 0))) (ho : Own W (B + 6) (.slice P ls.length c) ls)
  (ho1 : Own W1 (B + 6) (.slice P2 (ls.length + 1) c2) (ls ++ [u])) (hg : W.grownBy W1 (Value.slice P ls.length c).ownBlock) :
  NbIn B S F R us (ls ++ [u]) w (W1.setCell ⟨B + 1 + 1 + 1 + 1, 0, none⟩ (.slice P2 (ls.length + 1) c2)) := by
 obtain ⟨m, hm⟩ := h.hm
 have hsz := h.sz
 have hlo := ho.lt
 have hs1 := hg.size
 have old1 : ∀ k, k < B + 6 → W1.heap[k]? = W.heap[k]? := fun k hk => hg.block k (by omega) (fun e => by have := (hlo k e.symm).1; omega)
 have hb1 := (old1 _ (by omega)).trans hb
 obtain ⟨x1, x2, x3⟩ := kK hb1 (.slice P2 (ls.length + 1) c2)
 have old : ∀ k, k < B + 6 → k ≠ B + 1 + 1 + 1 + 1 → (W1.setCell ⟨B + 1 + 1 + 1 + 1, 0, none⟩ (.slice P2 (ls.length + 1) c2)).heap[k]? = W.heap[k]? := fun k hk hne => (x3 k hne).trans (old1 k hk)
 refine ⟨?_, (old B (by omega) (by omega)).trans h.b0, (old _ (by omega) (by omega)).trans h.b1, (old _ (by omega) (by omega)).trans h.b3, (old _ (by omega) (by omega)).trans h.b5, ⟨m, hm.same (old _ (by omega) (by omega))⟩, ⟨P2, c2, by rw [List.length_append]; exact x1, by rw [List.length_append]; exact ho1.same fun k hk _ => x3 k (by omega)⟩, by rw [show (W1.setCell ⟨B + 1 + 1 + 1 + 1, 0, none⟩ (.slice P2 (ls.length + 1) c2)).heap.size = W1.heap.size by simp [World.setCell]]; omega⟩
 have a1 : Wrote (fun k => w.heap.size ≤ k) W W1 := Wrote.of_grown hg (fun k e hk => by have := (hlo k e).1; omega)
 have a2 : Wrote (fun k => w.heap.size ≤ k) W1 (W1.setCell ⟨B + 1 + 1 + 1 + 1, 0, none⟩ (.slice P2 (ls.length + 1) c2)) := Wrote.of_grown (yh W1 _ 0 _) (fun k e hk => by cases e; omega)
 exact h.wrote.trans (a1.trans a2 (fun _ _ h => h)) (fun k h1 h2 => by omega)
theorem NbIn.keeps {P : Option Addr} {c : Nat} {W1 : World} (h : NbIn B S F R us ls w W) (hb : W.heap[B + 1 + 1 + 1 + 1]? = some (.cells #[.slice P ls.length c] 38 (0, 0))) (ho : Own W (B + 6) (.slice P ls.length c) ls)
  (hg : W.grownBy W1 (Value.slice P ls.length c).ownBlock) (v : Value) : KeepsFrom (B + 6) W (W1.setCell ⟨B + 1 + 1 + 1 + 1, 0, none⟩ v) ∧ KeepB (fun k => k = B + 1 + 1 + 1 + 1 + 1) W (W1.setCell ⟨B + 1 + 1 + 1 + 1, 0, none⟩ v) := by
 have hlo := ho.lt
 have hsz := h.sz
 have hs1 := hg.size
 have hb1 := (hg.block (B + 1 + 1 + 1 + 1) (by omega) (fun e => by have := (hlo _ e.symm).1; omega)).trans hb
 obtain ⟨x1, x2, x3⟩ := kK hb1 v
 refine ⟨⟨by simp [World.setCell]; omega, fun k o hk hk1 ho1 => ?_⟩, ⟨by simp [World.setCell]; omega, fun k hk hl => ?_⟩⟩
 · refine (x3 k (by omega)).trans ((hg.block k (zd hk1) (fun e => ?_)).trans hk1)
   have := (Zt ho k e.symm).2 o hk1
   rw [this] at ho1; cases ho1
 · subst hk
   exact (x3 _ (by omega)).trans (hg.block _ (by omega) (fun e => by have := (hlo _ e.symm).1; omega))
end
end
section
open Go.RowKit Go.Shelf
attribute [local go_sem] Oper.semAt_some
set_option maxRecDepth 100000 in
theorem Z9 (s : Sy) (K M : Nat) (hK : K ≤ 100) (hM : M ≤ 100) (hk : s.p.k = (K : Int)) (hx : s.xs.length = M) (A SV AV AX : Option Addr) (kc ks kv kx : Nat) (kf : Nat) (kb : Array Value) (ek : Enters Tryz.prog kf) (key : Nat × Nat → Int)
  (R : Nat → Prop) (J : World → Prop) (w : World) (hR : ∀ k, R k → k < w.heap.size) (hJ0 : J w) (hJ : ∀ W W', J W → Wrote (fun k => w.heap.size ≤ k) W W' → J W')
  (hkey : ∀ x ∈ zh (K + 1) 0 M, ∀ W, J W → w.heap.size ≤ W.heap.size → Calls Tryz.prog kf (#[.agg #[.int .i64 x.1, .int .i64 x.2]] ++ kb) W fun e w' => e = .returned (.int .i64 (key x)) ∧ J w' ∧ Wrote R W w') :
  Calls Tryz.prog 83 #[.agg (s.vs_ A kc SV ks AV kv AX kx), .func (.func kf) #[] kb] w fun e w' => ∃ v, e = .returned v ∧ Own w' w.heap.size v (yS ((zh (K + 1) 0 M).map key)) ∧ J w' ∧ Wrote R w w' := by
 have hC : PtC (s.vs_ A kc SV ks AV kv AX kx) K M AX kx := ⟨by unfold Sy.vs_; rw [← hk]; rfl, by unfold Sy.vs_; rw [← hx]; rfl⟩
 have hlen : (zh (K + 1) 0 M).length ≤ 20000 := by
  rw [Q4 (K + 1) M (by omega)]
  exact Nat.le_trans (Nat.mul_le_mul hM (show K + 1 ≤ 101 by omega)) (by decide)
 have HIT := zH (fun (bs : Nat) (W : World) (hb : W.heap[bs]? = some (.cells (s.vs_ A kc SV ks AV kv AX kx) 35 (0, 0))) => all1_iter (s.vs_ A kc SV ks AV kv AX kx) K M hK hM AX kx hC bs W hb)
 have HAL := zH (fun (W : World) => all_any s A SV AV AX kc ks kv kx W)
 have HKEY := zH hkey
 have HJ := zH hJ
 have HJ0 := zH hJ0
 have hz : ∀ W : World, (zeroValue 3).run Tryz.prog W = .ok (.int .i64 0) W := fun W => by kernel_rfl
 have ht : Tryz.prog.underlying 115 = some (.map 3 3) := Tryz.underlying115
 have hmm := @run_makeMap Tryz.prog
 obtain ⟨L, hL⟩ : ∃ L, zh (K + 1) 0 M = L := ⟨_, rfl⟩
 rw [hL] at HIT HKEY hlen ⊢
 unfold Sy.vs_ at HIT HAL ⊢
 clear hkey hJ hJ0 hL hC hk hx
 refine yx Tryz.func83 rfl ?_
 simp only [Tryz.ntmps83, List.size_toArray, List.length_cons, List.length_nil, Nat.reduceAdd, Nat.reduceSub, Array.replicate_succ, Array.replicate_zero, List.push_toArray, List.append_toArray, List.nil_append, List.cons_append]
 go_wp2_with fail
 refine (HAL.out _).mono ?_
 rintro e w2 ⟨rfl, hw2⟩
 obtain ⟨S, hS⟩ : ∃ S, S = #[Value.int .i64 s.p.t.n, .int .i64 s.p.t.ins, .int .i64 s.p.t.outs, .slice A s.p.t.cases.length kc, .int .i64 s.p.a.n, .slice SV s.p.a.sts.length ks, .int .i64 s.p.k, .int .i64 s.n, .slice AV s.vs.length kv, .slice AX s.xs.length kx] := ⟨_, rfl⟩
 rw [← hS] at hw2 HIT
 have hNW : NbIn w.heap.size S (.func (.func kf) #[] kb) R [] [] w w2 ∧ Wrote (fun k => w.heap.size ≤ k) w w2 := by
  obtain ⟨a1, h1, x1, y1, z1⟩ := zk w S 35
  rw [h1] at hw2
  obtain ⟨a2, h2, x2, y2, z2⟩ := zk a1 #[.func (.func kf) #[] kb] 154
  rw [h2] at hw2
  obtain ⟨a3, h3⟩ : ∃ a3, a2.alloc (.map #[] 0) = a3 := ⟨_, rfl⟩
  have m3 : MapOf (Value.int .i64) a3 a2.heap.size 0 (fun _ => none) := by rw [← h3]; exact MapOf.made a2
  have y3 : a3.heap.size = a2.heap.size + 1 := by rw [← h3]; simp
  have z3 : Below a2.heap.size a2 a3 := by rw [← h3]; exact zG _ _
  rw [h3] at hw2
  obtain ⟨a4, h4, x4, y4, z4⟩ := zk a3 #[.map (some (w.heap.size + 1 + 1))] 115
  rw [h4] at hw2
  obtain ⟨a5, h5, x5, y5, z5⟩ := zk a4 #[.slice none 0 0] 38
  rw [h5] at hw2
  obtain ⟨a6, h6, x6, y6, z6⟩ := zk a5 S 35
  rw [h6] at hw2
  subst hw2
  rw [y1] at x2 y2
  rw [y2] at m3 y3
  rw [y3] at x4 y4
  rw [y4] at x5 y5
  rw [y5] at x6 y6
  have w1 : Wrote (fun k => w.heap.size ≤ k) w a6 := by
   have b1 := (Wrote.of_below (R := fun k => w.heap.size ≤ k) z1).trans (Wrote.of_below (R := fun k => w.heap.size ≤ k) z2) (fun _ _ h => h)
   have b2 := (b1.trans (Wrote.of_below (R := fun k => w.heap.size ≤ k) z3) (fun _ _ h => h)).trans (Wrote.of_below (R := fun k => w.heap.size ≤ k) z4) (fun _ _ h => h)
   exact ((b2.trans (Wrote.of_below (R := fun k => w.heap.size ≤ k) z5) (fun _ _ h => h)).trans (Wrote.of_below (R := fun k => w.heap.size ≤ k) z6) (fun _ _ h => h))
  refine ⟨⟨w1.more (fun k h1 h2 => by omega), ?_, ?_, ?_, x6, ⟨0, ?_⟩, ⟨none, 0, ?_, Own.nil _ _⟩, by omega⟩, w1⟩
  · exact (z6.block _ (by omega)).trans ((z5.block _ (by omega)).trans ((z4.block _ (by omega)).trans ((z3.block _ (by omega)).trans ((z2.block _ (by omega)).trans x1))))
  · exact (z6.block _ (by omega)).trans ((z5.block _ (by omega)).trans ((z4.block _ (by omega)).trans ((z3.block _ (by omega)).trans x2)))
  · exact (z6.block _ (by omega)).trans ((z5.block _ (by omega)).trans x4)
  · rw [numG_nil]
    exact m3.same ((z6.block _ (by omega)).trans ((z5.block _ (by omega)).trans (z4.block _ (by omega))))
  · exact (z6.block _ (by omega)).trans x5
 have hsz2 : w2.heap.size = w.heap.size + 6 := by rw [← hw2]; simp
 have HJ2 : Hid (J w2) := HJ.out w w2 HJ0.out hNW.2
 have HIT2 := zH (HIT.out (w.heap.size + 1 + 1 + 1 + 1 + 1) w2 hNW.1.b5)
 have HN := zH hNW.1
 clear hNW hw2 HIT HAL HJ0 hmm hS
 go_wp2_with fail
 refine ka rfl (enters_of Tryz.func147 (by kernel_rfl) rfl) HIT2.out (by rintro x rfl; omega) (fun _ => rfl)
  (fun (pre : List { x : Nat × Nat // x ∈ L }) (X : World) => NbIn w.heap.size S (.func (.func kf) #[] kb) R (ya (pre.map fun x => key x.1)) (yS (pre.map fun x => key x.1)) w X ∧ J X)
  (fun _ _ _ => False)
  ?hI (fun _ _ _ _ _ h _ _ => h)
  ⟨HN.out, HJ2.out⟩ (fun x => #[.int .i64 x.1, .int .i64 x.2]) 153 ?a1 ?assign ?body ?done ?stop (fun _ _ h => by have := h.1.sz; omega)
 case hI =>
  intro pre X X' row hX hg hr
  refine ⟨hX.1.turn (Nat.le_refl _) hg (fun r e => ⟨by have := (hr r e).1; omega, (hr r e).2⟩), HJ.out X X' hX.2 (Wrote.of_grown hg fun k e hk => by have := (hr k e).1; omega)⟩
 case assign =>
  intro l pre x X K' hI hK
  obtain ⟨g', hg'⟩ : ∃ g', g' = X.heap.size := ⟨_, rfl⟩
  have HK := zH (hK g' hg' ⟨hI.1.turn (Nat.le_refl _) (row := none) ⟨rfl, rfl, rfl, by simp, fun k hk _ => Below.heap_alloc X _ k hk⟩ (fun r e => by cases e), HJ.out X _ hI.2 (Wrote.of_below (zG X _))⟩)
  have HG := zH hg'
  clear hK hg' hI
  gi_wp2
  rw [← HG.out]
  exact HK.out
 case body =>
  intro l pre x g W3 hg hgb hI hlt
  obtain ⟨us, hus⟩ : ∃ us, ya (pre.map fun x => key x.1) = us := ⟨_, rfl⟩
  obtain ⟨ls, hls⟩ : ∃ ls, yS (pre.map fun x => key x.1) = ls := ⟨_, rfl⟩
  have hll : ls.length ≤ 20000 := by rw [← hls, yq, List.length_map]; omega
  have hun : us.Nodup := by rw [← hus]; exact YU _
  obtain ⟨kk, hkk⟩ : ∃ kk, key x.1 = kk := ⟨_, rfl⟩
  have hus2 : ya ((pre ++ [x]).map fun x => key x.1) = xe us kk := by rw [List.map_append, List.map_cons, List.map_nil, xD, hus, hkk]
  have hls2 : yS ((pre ++ [x]).map fun x => key x.1) = ls ++ [if kk ∈ us then (us.idxOf kk : Int) else (us.length : Int)] := by
   rw [List.map_append, List.map_cons, List.map_nil, jx, hus, hls, hkk]
   congr 2
   by_cases h : kk ∈ us
   · rw [if_pos h, if_pos (zQ.1 (hus ▸ h))]
   · rw [if_neg h, if_neg (fun e => h (hus ▸ zQ.2 e))]
  rw [hus, hls] at hI
  have hcall := HKEY.out x.1 x.2 W3 hI.2 (by have := hI.1.sz; omega)
  rw [hkk] at hcall
  have HC := zH hcall
  have HN3 := zH hI.1
  have HU2 := zH hus2
  have HL2 := zH hls2
  have HUN := zH hun
  have q1 := za hI.1.b1 0 rfl
  have g0 := za hgb 0 rfl
  have g1 := za hgb 1 rfl
  clear hI hcall hus hls hus2 hls2 hkk hgb hun HKEY HIT2 HN HJ2
  gi_wp2_with fail
  refine ⟨trivial, ?_⟩
  rw [ek]
  refine ⟨fun _ => by omega, (CallsIn.inRound l ((callsIn_wide (n := 6)).2 HC.out)).mono ?_⟩
  rintro e W4 ⟨rfl, hJ4, hw4⟩
  have HN4 := zH (HN3.out.call hw4 hR)
  have HJ4 := zH hJ4
  have HW4 := zH hw4
  have q3 := za HN4.out.b3 0 rfl
  obtain ⟨m, hm⟩ := HN4.out.hm
  have hlk := hm.look2 kM ht (hz W4) kk
  have HM4 := zH hm
  clear q1 g0 g1 HC hJ4 hw4 hm
  by_cases hin : kk ∈ us
  case pos =>
   have hf : vZ us kk = some (.int .i64 (us.idxOf kk : Int)) := if_pos hin
   rw [hf] at hlk
   simp only [Option.getD_some, Option.isSome_some] at hlk
   have hlk1 := HM4.out.look kM ht (hz W4) kk
   rw [hf] at hlk1
   simp only [Option.getD_some] at hlk1
   have hu : xe us kk = us := if_pos hin
   have HU3 : Hid (ya ((pre ++ [x]).map fun x => key x.1) = us) := HU2.out.trans hu
   have HL3 : Hid (yS ((pre ++ [x]).map fun x => key x.1) = ls ++ [(us.idxOf kk : Int)]) := HL2.out.trans (by rw [if_pos hin])
   clear HU2 HL2
   have HU2 := HU3
   have HL2 := HL3
   clear HU3 HL3 hf hu hin HM4
   obtain ⟨P, c, hbx, ho⟩ := HN4.out.box
   have HBX := zH hbx
   have HO := zH ho
   have q4 := za hbx 0 rfl
   clear hbx ho
   gi_wp2_with (gi_at_builtin; go_must (refine jG rfl _ _ rfl (w.heap.size + 6) (.slice P ls.length c) ls (us.idxOf kk : Int) rfl HO.out rfl (by omega) (by have := HN4.out.sz; omega) ?_); intro v' W6 hown1 hg6 hb6
                obtain ⟨A6, k6, rfl, h61, h62, _⟩ := hown1.form
                have h4b := (hg6.block (w.heap.size + 1 + 1 + 1 + 1) (zd HBX.out) (fun e => YR HO.out HBX.out (by decide) e.symm)).trans HBX.out
                have q6 := za h4b 0 rfl
                have f6 := zb h4b 0
                have l6 := zd h4b
                have HO6 := zH hown1
                have HG6 := zH hg6
                clear h4b hown1 hg6 hb6)
   have hka := HN4.out.keeps HBX.out HO.out HG6.out (.slice A6 (ls.length + 1) k6)
   have hpu := HN4.out.push (Nat.le_refl _) HBX.out HO.out (by have := HO6.out; simpa using this) HG6.out
   refine ⟨((show KeepsFrom w2.heap.size W3 W4 from ⟨HW4.out.size, fun k o hk hk1 _ => (HW4.out.block k (zd hk1) (fun e => by have := hR k e; omega)).trans hk1⟩)).trans (hsz2 ▸ hka.1), ((show KeepB (fun k => k = w.heap.size + 1 + 1 + 1 + 1 + 1) W3 W4 from ⟨HW4.out.size, fun k hk hl => HW4.out.block k hl (fun e => by have := hR k e; omega)⟩)).trans hka.2, ?_, ?_⟩
   · rw [HU2.out, HL2.out]
     exact hpu
   · have a2 : Wrote (fun k => w.heap.size ≤ k) W4 W6 := Wrote.of_grown HG6.out (fun k e hk => by have := (HO.out.lt k e).1; omega)
     have a3 : Wrote (fun k => w.heap.size ≤ k) W6 (W6.setCell ⟨w.heap.size + 1 + 1 + 1 + 1, 0, none⟩ (.slice A6 (ls.length + 1) k6)) := Wrote.of_grown (yh W6 _ 0 _) (fun k e hk => by cases e; omega)
     exact HJ.out _ _ HJ4.out (a2.trans a3 (fun _ _ h => h))
  case neg =>
   have hf : vZ us kk = none := if_neg hin
   rw [hf] at hlk
   simp only [Option.getD_none, Option.isSome_none] at hlk
   have hu : xe us kk = us ++ [kk] := if_neg hin
   have HU3 : Hid (ya ((pre ++ [x]).map fun x => key x.1) = us ++ [kk]) := HU2.out.trans hu
   have HL3 : Hid (yS ((pre ++ [x]).map fun x => key x.1) = ls ++ [(us.length : Int)]) := HL2.out.trans (by rw [if_neg hin])
   obtain ⟨es, clock, hes, hesz⟩ := Qb HM4.out HUN.out
   obtain ⟨W5, hrun, hm5, hg5⟩ := HM4.out.put kM ht kk (.int .i64 (us.length : Int))
   rw [numG_put hin] at hm5
   have HN5 := zH (HN4.out.put (Nat.le_refl _) hg5 hm5)
   have HG5 := zH hg5
   have HM5 := zH hm5
   have hlk1 := hm5.look kM ht (hz W5) kk
   have hf5 : vZ (us ++ [kk]) kk = some (.int .i64 (us.length : Int)) := by
    unfold vZ
    rw [if_pos (by simp), List.idxOf_append, if_neg hin]; simp
   rw [hf5] at hlk1
   simp only [Option.getD_some] at hlk1
   have HJ5 := zH (HJ.out W4 W5 HJ4.out (Wrote.of_grown hg5 fun k e hk => by cases e; omega))
   have HW5 : Hid (KeepsFrom w2.heap.size W4 W5 ∧ KeepB (fun k => k = w.heap.size + 1 + 1 + 1 + 1 + 1) W4 W5) := by
    refine ⟨⟨hg5.size, fun k o hk hk1 _ => (hg5.block k (zd hk1) (fun e => by cases e; omega)).trans hk1⟩, ⟨hg5.size, fun k hk hl => hg5.block k hl (fun e => by cases e; omega)⟩⟩
   have q35 := za HN5.out.b3 0 rfl
   obtain ⟨P, c, hbx, ho⟩ := HN5.out.box
   have HBX := zH hbx
   have HO := zH ho
   have q4 := za hbx 0 rfl
   clear HU2 HL2
   have HU2 := HU3
   have HL2 := HL3
   clear HU3 HL3 hf hu hin HM4 hm5 hg5 hf5 hbx ho
   have hln : (Builtin.len_ #[115] 3 #[.map (some (w.heap.size + 1 + 1))]).run Tryz.prog W4 = .ok (.int .i64 (us.length : Int)) W4 := by
    rw [← hesz]
    exact run_len_map W4 _ _ _ es clock (by kernel_rfl) hes
   clear hes hesz
   gi_wp2_with (gi_at_builtin; go_must (refine jG rfl _ _ rfl (w.heap.size + 6) (.slice P ls.length c) ls (us.length : Int) rfl HO.out rfl (by omega) (by have := HN5.out.sz; omega) ?_); intro v' W6 hown1 hg6 hb6
                obtain ⟨A6, k6, rfl, h61, h62, _⟩ := hown1.form
                have h4b := (hg6.block (w.heap.size + 1 + 1 + 1 + 1) (zd HBX.out) (fun e => YR HO.out HBX.out (by decide) e.symm)).trans HBX.out
                have q6 := za h4b 0 rfl
                have f6 := zb h4b 0
                have l6 := zd h4b
                have HO6 := zH hown1
                have HG6 := zH hg6
                clear h4b hown1 hg6 hb6)
   have hka := HN5.out.keeps HBX.out HO.out HG6.out (.slice A6 (ls.length + 1) k6)
   have hpu := HN5.out.push (Nat.le_refl _) HBX.out HO.out (by have := HO6.out; simpa using this) HG6.out
   refine ⟨(((show KeepsFrom w2.heap.size W3 W4 from ⟨HW4.out.size, fun k o hk hk1 _ => (HW4.out.block k (zd hk1) (fun e => by have := hR k e; omega)).trans hk1⟩)).trans HW5.out.1).trans (hsz2 ▸ hka.1), (((show KeepB (fun k => k = w.heap.size + 1 + 1 + 1 + 1 + 1) W3 W4 from ⟨HW4.out.size, fun k hk hl => HW4.out.block k hl (fun e => by have := hR k e; omega)⟩)).trans HW5.out.2).trans hka.2, ?_, ?_⟩
   · rw [HU2.out, HL2.out]
     exact hpu
   · have a2 : Wrote (fun k => w.heap.size ≤ k) W5 W6 := Wrote.of_grown HG6.out (fun k e hk => by have := (HO.out.lt k e).1; omega)
     have a3 : Wrote (fun k => w.heap.size ≤ k) W6 (W6.setCell ⟨w.heap.size + 1 + 1 + 1 + 1, 0, none⟩ (.slice A6 (ls.length + 1) k6)) := Wrote.of_grown (yh W6 _ 0 _) (fun k e hk => by cases e; omega)
     exact HJ.out _ _ HJ5.out (a2.trans a3 (fun _ _ h => h))
 case done =>
  intro D ys W hD hys hI hDk
  have hmap : ys.map (fun x => key x.1) = L.map key := by rw [show ys.map (fun x => key x.1) = (ys.map (·.1)).map key by rw [List.map_map]; rfl, hys]
  rw [hmap] at hI
  obtain ⟨hN, hJW⟩ := hI
  obtain ⟨P, c, hbx, ho⟩ := hN.box
  have q4 := za hbx 0 rfl
  have HN9 := zH hN
  have HO := zH ho
  have HJ9 := zH hJW
  have HDk := zH hDk
  clear hN ho hbx hJW hDk hys hmap
  go_wp2_with fail
  refine xa (B := w2.heap.size) (w := W) (show Marks w2.heap.size _ W from ⟨[D], rfl, by simp, fun r hr => by rw [List.mem_singleton] at hr; subst hr; exact ⟨hD, HDk.out⟩⟩) (v := .slice P (yS (L.map key)).length c) (fun W => by kernel_rfl) ?_
  intro X hS
  have hb : Below w2.heap.size W X := hS.below
  refine ⟨_, rfl, (HO.out.shut hS).low (by omega), HJ.out W X HJ9.out ⟨hb.os, hb.tape, hb.output, hb.size, fun k hk hn => hb.block k (by omega)⟩, HN9.out.wrote.trans (R' := fun k => w2.heap.size ≤ k) ⟨hb.os, hb.tape, hb.output, hb.size, fun k hk hn => hb.block k (by omega)⟩ (fun k h1 h2 => by omega)⟩
 case stop =>
  intro D c pre W _ _ h
  exact h.elim
end
section
def xw (x : Exn) (k q : Nat) : Int := (x.views.getD k []).getD q 0
section
variable {s : Sy} {K N : Nat}
end
end
section
open Go.RowKit Go.Shelf
attribute [local go_sem] Oper.semAt_some
theorem kB {α : Type} {l : List α} {i : Nat} (h : i < l.length) (d : α) : l.getD i d = l[i] := by rw [List.getD_eq_getElem?_getD, List.getElem?_eq_getElem h]; rfl
def xk (s : Sy) (q : Nat) : List Int := (zh (s.p.k.toNat + 1) 0 s.xs.length).map fun x => xw (s.xs.getD x.1 default) x.2 q
def zZ (s : Sy) (q : Nat) : List Int := yS (xk s q)
def clsE (s : Sy) (p : Int) : List Int × Int := if xU s ≠ 0 then ([], xU s) else if p < 0 ∨ s.n ≤ p then ([], 2) else (zZ s p.toNat, 0)
def RetOE (xs : List Int) (n : Int) (w : World) (e : Ending) (w' : World) : Prop := ∃ A c, e = .returned (.tuple #[.slice A xs.length c, .int .i64 n]) ∧ Own w' w.heap.size (.slice A xs.length c) xs ∧ Below w.heap.size w w'
theorem jw (s : Sy) (q : Nat) : (xk s q).length = s.xs.length * (s.p.k.toNat + 1) := by unfold xk; rw [List.length_map, Q4 _ _ (by omega)]
theorem keyL_at (s : Sy) (q i : Nat) (h : i < (xk s q).length) : (xk s q)[i] = xw (s.xs.getD (i / (s.p.k.toNat + 1)) default) (i % (s.p.k.toNat + 1)) q := by
 have h2 : i < (zh (s.p.k.toNat + 1) 0 s.xs.length).length := by have := h; unfold xk at this; simpa using this
 have : (xk s q)[i] = xw (s.xs.getD ((zh (s.p.k.toNat + 1) 0 s.xs.length)[i]).1 default) ((zh (s.p.k.toNat + 1) 0 s.xs.length)[i]).2 q := by unfold xk; exact List.getElem_map ..
 rw [this, prs_at _ _ (by omega)]
set_option maxRecDepth 100000 in
theorem cls1_any (s : Sy) (K N : Nat) (hF : Fine s K N) (e k q : Nat) (he : e < s.xs.length) (hk : k ≤ K) (hq : q < N) (A SV AV AX : Option Addr) (kc ks kv kx bs bp : Nat) (w : World) (hX : XAt w w.heap.size AX s.xs)
  (hb : w.heap[bs]? = some (.cells (s.vs_ A kc SV ks AV kv AX kx) 35 (0, 0))) (hp : w.heap[bp]? = some (.cells #[.int .i64 (q : Int)] 3 (0, 0))) :
  Calls Tryz.prog 84 #[.agg #[.int .i64 (e : Int), .int .i64 (k : Int)], .pointer (some ⟨bs, 0, none⟩), .pointer (some ⟨bp, 0, none⟩)] w fun r w' => r = .returned (.int .i64 (xw s.xs[e] k q)) ∧ Below w.heap.size w w' := by
 obtain ⟨w1, hw1, d0, hs1, hB⟩ := zk w #[.int .i64 (e : Int), .int .i64 (k : Int)] 153
 have hxm := List.getElem_mem he
 obtain ⟨hvl, hrow⟩ := hF.views _ hxm
 obtain ⟨bx, ox, A1, c1, A2, c2, eX, hbx, x0, x1, x2, hRw, hLv⟩ := (hX.keep hB).row e he
 subst eX
 obtain ⟨x, hx⟩ : ∃ x, x = s.xs[e] := ⟨_, rfl⟩
 rw [← hx] at hvl hrow x2 hLv ⊢
 obtain ⟨bl, ol, A3, c3, eL, hbl, y1, hI⟩ := hLv.at_ k (by omega)
 subst eL
 obtain ⟨hl, hpos⟩ := hrow _ (List.getElem_mem (by omega : k < x.views.length))
 have hxw : ∀ row, x.views[k]'(by omega) = row → xw x k q = row.getD q 0 := fun row hr => by unfold xw; rw [kB (by omega : k < x.views.length), hr]
 obtain ⟨row, hrw⟩ : ∃ row, x.views[k]'(by omega) = row := ⟨_, rfl⟩
 rw [hxw row hrw]
 rw [hrw] at y1 hI hl
 obtain ⟨b4, o4, e4, hb4, z4⟩ := hI.at_ q (by omega)
 subst e4
 have hval : row[q]'(by omega) = row.getD q 0 := by rw [List.getD_eq_getElem?_getD, List.getElem?_eq_getElem (by omega)]; rfl
 rw [hval] at z4
 obtain ⟨u, hu⟩ : ∃ u, row.getD q 0 = u := ⟨_, rfl⟩
 rw [hu] at z4 ⊢
 obtain ⟨nv, hnv⟩ : ∃ nv, x.views.length = nv := ⟨_, rfl⟩
 rw [hnv] at x2 hvl
 obtain ⟨nr, hnr⟩ : ∃ nr, row.length = nr := ⟨_, rfl⟩
 rw [hnr] at y1 hl
 have HW1 := zH hw1
 have HB := zH hB
 have g0 := za d0 0 rfl
 have g1 := za d0 1 rfl
 have p0 := za ((hB.block _ (zd hp)).trans hp) 0 rfl
 have p9 : w1.cell? ⟨bs, 9, none⟩ = some (.slice (some ⟨bx, ox, none⟩) s.xs.length kx) := za ((hB.block _ (zd hb)).trans hb) 9 rfl
 have h1 : (0 : Int) ≤ (e : Int) := by omega
 have h2 : (e : Int) < (s.xs.length : Int) := by omega
 have h3 : (0 : Int) ≤ (k : Int) := by omega
 have h4 : (k : Int) < (nv : Int) := by omega
 have h5 : (0 : Int) ≤ (q : Int) := by omega
 have h6 : (q : Int) < (nr : Int) := by omega
 have lbs := zd hb
 have lbp := zd hp
 clear hw1 d0 hB hX hb hp hF hval hu hnv hnr hx hRw hLv hI hpos hrow hxm hxw hrw x0 x1 hl hvl
 go_enter Tryz.func84, Tryz.ntmps84
 go_wp2_with fail
 rw [HW1.out]
 go_quiet (fail)
 go_wp2_with fail
 go_ret
 exact ⟨rfl, zJ HB.out _⟩
theorem Yq {w w' : World} (h : Wrote (fun _ => False) w w') : Below w.heap.size w w' := ⟨h.os, h.tape, h.output, h.size, fun k hk => h.block k hk (fun h => h)⟩
set_option maxRecDepth 100000 in
theorem Xw (s : Sy) (hs : LowS s) (hf : xT s.p) (p : Int) (A SV AV AX : Option Addr) (kc ks kv kx : Nat) (w : World) (hS : SyAt w w.heap.size A SV AV AX s) :
  Calls Tryz.prog 35 #[.agg (s.vs_ A kc SV ks AV kv AX kx), .int .i64 p] w (RetOE (clsE s p).1 (clsE s p).2 w) := by
 obtain ⟨w1, hw1, d0, d1, hs1, hB⟩ := zW w (s.vs_ A kc SV ks AV kv AX kx) #[.int .i64 p] 35 3
 have HV := zH (QT s hs hf A SV AV AX kc ks kv kx w1 (hS.up hB))
 have HS1 := zH (hS.up hB)
 have HE : Hid (clsE s p = if xU s ≠ 0 then ([], xU s) else if p < 0 ∨ s.n ≤ p then ([], 2) else (zZ s p.toNat, 0)) := rfl
 have HVF := zH (fun h => qm hf h)
 have HNB := zH (fun (K N q : Nat) (hF : Fine s K N) (hq : q < N) (X : World) (hX : SyAt X X.heap.size A SV AV AX s) (bs bp : Nat) (hb : X.heap[bs]? = some (.cells (s.vs_ A kc SV ks AV kv AX kx) 35 (0, 0))) (hp : X.heap[bp]? = some (.cells #[.int .i64 (q : Int)] 3 (0, 0))) =>
  Z9 s K s.xs.length (by have := hF.k6; omega) (by have := hF.lx; omega) hF.k rfl A SV AV AX kc ks kv kx 84 #[.pointer (some ⟨bs, 0, none⟩), .pointer (some ⟨bp, 0, none⟩)]
   (enters_of Tryz.func84 (by kernel_rfl) rfl) (fun x => xw (s.xs.getD x.1 default) x.2 q) (fun _ => False)
   (fun W => XAt W X.heap.size AX s.xs ∧ W.heap[bs]? = some (.cells (s.vs_ A kc SV ks AV kv AX kx) 35 (0, 0)) ∧ W.heap[bp]? = some (.cells #[.int .i64 (q : Int)] 3 (0, 0)) ∧ X.heap.size ≤ W.heap.size) X (fun _ h => h.elim)
   ⟨hX.fx, hb, hp, Nat.le_refl _⟩
   (fun W W' h hw => by
    have hbl : Below X.heap.size W W' := ⟨hw.os, hw.tape, hw.output, hw.size, fun k hk => hw.block k (by have := h.2.2.2; omega) (fun h2 => by omega)⟩
    exact ⟨h.1.keep hbl, (hbl.block _ (zd hb)).trans h.2.1, (hbl.block _ (zd hp)).trans h.2.2.1, Nat.le_trans h.2.2.2 hw.size⟩)
   (fun x hx W hJ hW => by
    obtain ⟨_, h1, h2⟩ := qS _ _ x hx
    have he : x.1 < s.xs.length := by omega
    have := cls1_any s K N hF x.1 x.2 q he (by omega) hq A SV AV AX kc ks kv kx bs bp W (hJ.1.more hJ.2.2.2) hJ.2.1 hJ.2.2.1
    refine this.mono ?_
    rintro r w' ⟨rfl, hb'⟩
    rw [kB he]
    refine ⟨rfl, ⟨hJ.1.keep (hb'.mono hJ.2.2.2), (hb'.block _ (zd hJ.2.1)).trans hJ.2.1, (hb'.block _ (zd hJ.2.2.1)).trans hJ.2.2.1, Nat.le_trans hJ.2.2.2 hb'.size⟩, Wrote.of_below hb'⟩))
 have HKL := zH (fun (K q : Nat) (h : s.p.k = (K : Int)) => (by unfold zZ xk; rw [h]; rfl : zZ s q = yS ((zh (K + 1) 0 s.xs.length).map fun x => xw (s.xs.getD x.1 default) x.2 q)))
 obtain ⟨R, hR⟩ : ∃ R, clsE s p = R := ⟨_, rfl⟩
 obtain ⟨r, hr⟩ : ∃ r, xU s = r := ⟨_, rfl⟩
 rw [hr] at HV HE HVF
 rw [hR] at HE ⊢
 unfold Sy.vs_ at hw1 d0 HV HNB ⊢
 have HW1 := zH hw1
 have HB := zH hB
 have HD := zH d0
 have HD1 := zH d1
 obtain ⟨p0, p1, p2, p3, p4, p5, p6, p7, p8, p9⟩ := zv d0
 clear hw1 d0 d1 hB hS hr hR hs hf
 go_enter Tryz.func35, Tryz.ntmps35
 go_wp2_with fail
 rw [HW1.out]
 go_wp2_with fail
 refine HV.out.mono ?_
 rintro e w2 ⟨rfl, hb2⟩
 have HB2 := zH (HB.out.trans (hb2.mono (by omega)))
 have HS2 := zH (HS1.out.up hb2)
 have d0 := (hb2.block _ (by omega : w.heap.size < w1.heap.size)).trans HD.out
 have d1 := (hb2.block _ (by omega : w.heap.size + 1 < w1.heap.size)).trans HD1.out
 clear p0 p1 p2 p3 p4 p5 p6 p7 p8 p9 hb2 HV HW1 HS1 HD HD1
 by_cases h0 : r = 0
 case neg =>
  have hR : Hid (R = ([], r)) := HE.out.trans (if_pos h0)
  have e0 : (r != 0) = true := by simpa using h0
  clear HE HVF h0 d0 d1 HNB HKL
  go_wp2_with fail
  go_ret2
  rw [hR.out]
  exact ⟨none, 0, rfl, Own.nil _ _, HB2.out⟩
 case pos =>
 subst h0
 obtain ⟨hsb, K, N, hF⟩ := HVF.out rfl
 clear hsb
 have hE2 : R = if p < 0 ∨ s.n ≤ p then ([], 2) else (zZ s p.toNat, 0) := HE.out.trans (if_neg (by simp))
 have hn := hF.n
 have h5 := hF.n5
 rw [hn] at hE2
 have HE2 := zH hE2
 have HFF := zH hF
 have HDD := zH d0
 have q0 := za d1 0 rfl
 have q7 : w2.cell? ⟨w.heap.size, 7, none⟩ = some (.int .i64 (N : Int)) := by rw [← hn]; exact za d0 7 rfl
 have HD1 := zH d1
 clear HE HVF hE2 hF d0 d1 hn
 by_cases h1 : p < 0
 case pos =>
  have hR : Hid (R = ([], 2)) := HE2.out.trans (if_pos (.inl h1))
  clear HE2 HNB HKL
  go_wp2_with fail
  go_ret2
  rw [hR.out]
  exact ⟨none, 0, rfl, Own.nil _ _, HB2.out⟩
 case neg =>
 obtain ⟨q, rfl⟩ := Int.eq_ofNat_of_zero_le (show 0 ≤ p by omega)
 have e1 : (decide ((q : Int) < 0)) = false := by simp
 by_cases h2 : q < N
 case neg =>
  have hR : Hid (R = ([], 2)) := HE2.out.trans (if_pos (.inr (by omega)))
  have e2 : (decide ((N : Int) ≤ (q : Int))) = true := by simp; omega
  have h3 : (N : Int) ≤ (q : Int) := by omega
  clear HE2 HNB HKL
  go_wp2_with fail
  go_ret2
  rw [hR.out]
  exact ⟨none, 0, rfl, Own.nil _ _, HB2.out⟩
 case pos =>
  have hR : Hid (R = (zZ s q, 0)) := HE2.out.trans (if_neg (by omega))
  have e2 : (decide ((N : Int) ≤ (q : Int))) = false := by simp; omega
  have h3 : ¬ (N : Int) ≤ (q : Int) := by omega
  have HC := zH (HNB.out K N q HFF.out h2 w2 HS2.out w.heap.size (w.heap.size + 1) HDD.out HD1.out)
  have hkl := HKL.out K q HFF.out.k
  have hn := HFF.out.n
  rw [← hkl, hn] at HC
  have p0 := za HDD.out 0 rfl
  have p1 := za HDD.out 1 rfl
  have p2 := za HDD.out 2 rfl
  have p3 := za HDD.out 3 rfl
  have p4 := za HDD.out 4 rfl
  have p5 := za HDD.out 5 rfl
  have p6 := za HDD.out 6 rfl
  have p8 := za HDD.out 8 rfl
  have p9 := za HDD.out 9 rfl
  clear HE2 HNB HKL HS2 hkl HFF hn
  go_wp2_with fail
  all_goals first | (exfalso; omega) | skip
  refine HC.out.mono ?_
  rintro e w3 ⟨v, rfl, ho, _, hw3⟩
  have HO := zH ho
  have hb3 := Yq hw3
  have HB3 := zH (HB2.out.trans (hb3.mono HB2.out.size))
  clear ho hw3 hb3 HC p0 p1 p2 p3 p4 p5 p6 q7 p8 p9
  obtain ⟨A6, k6, rfl, _, _, _⟩ := HO.out.form
  go_wp2_with fail
  go_ret2
  rw [hR.out]
  exact ⟨A6, k6, rfl, HO.out.low HB2.out.size, HB3.out⟩
end
section
open Go.RowKit
def ko (x : Int × Int) : Value := .agg #[.int .i64 x.1, .int .i64 x.2]
theorem st_inj (a b : Int × Int) (h : ko a = ko b) : a = b := by
 injection h with h
 obtain ⟨a0, a1⟩ := a
 obtain ⟨b0, b1⟩ := b
 simpa using h
open Classical in
theorem wE : KeyOk Tryz.prog 75 ko where
 inj := st_inj
 check := fun w em v => by
  have hu : Tryz.prog.underlying 75 = some (.struct (Tryz.prog.fieldsOf 75)) := by kernel_rfl
  have hf : (Tryz.prog.fieldsOf 75).toList.map (fun f => (f.name, f.type, f.offset)) = [("Point", 3, 0), ("Proc", 3, 1)] := by kernel_rfl
  have p0 := fun x0 x1 => zL #[x0, x1] 0 x0 rfl w
  have p1 := fun x0 x1 => zL #[x0, x1] 1 x1 rfl w
  unfold Instr.checkKey ko
  simp only [Sem.run_bind, run_underlying hu, Result.andThen_ok]
  rw [← Array.forIn_toList]
  generalize (Tryz.prog.fieldsOf 75).toList = fs at hf
  obtain ⟨f0, f1, rfl⟩ : ∃ f0 f1, fs = [f0, f1] := by
   have hl : fs.length = 2 := by simpa using congrArg List.length hf
   rcases fs with _ | ⟨f0, _ | ⟨f1, _ | ⟨f2, r⟩⟩⟩ <;> simp at hl
   exact ⟨_, _, rfl⟩
  clear hu
  simp only [List.map_cons, List.map_nil, List.cons.injEq, Prod.mk.injEq, and_true] at hf
  obtain ⟨⟨n0, t0, o0⟩, ⟨n1, t1, o1⟩⟩ := hf
  simp only [List.forIn_cons, List.forIn_nil, n0, n1, t0, t1, o0, o1, p0, p1, Sem.run_bind, Result.andThen_ok, uk, ne_eq, String.reduceEq, not_false_eq_true, if_true, Sem.run_pure]
 equal := fun w a b => by
  have hu : Tryz.prog.underlying 75 = some (.struct (Tryz.prog.fieldsOf 75)) := by kernel_rfl
  have hi : Tryz.prog.underlying 3 = some (.int .i64) := Tryz.underlying3
  have hf : (Tryz.prog.fieldsOf 75).toList.map (fun f => (f.name, f.type, f.offset)) = [("Point", 3, 0), ("Proc", 3, 1)] := by kernel_rfl
  have p0 := fun x0 x1 => zL #[x0, x1] 0 x0 rfl w
  have p1 := fun x0 x1 => zL #[x0, x1] 1 x1 rfl w
  unfold Op.equal Op.maxDepth ko
  rw [run_equalIn_struct w 9999 75 _ _ hu (by kernel_rfl)]
  generalize (Tryz.prog.fieldsOf 75).toList = fs at hf
  obtain ⟨f0, f1, rfl⟩ : ∃ f0 f1, fs = [f0, f1] := by
   have hl : fs.length = 2 := by simpa using congrArg List.length hf
   rcases fs with _ | ⟨f0, _ | ⟨f1, _ | ⟨f2, r⟩⟩⟩ <;> simp at hl
   exact ⟨_, _, rfl⟩
  clear hu
  simp only [List.map_cons, List.map_nil, List.cons.injEq, Prod.mk.injEq, and_true] at hf
  obtain ⟨⟨n0, t0, o0⟩, ⟨n1, t1, o1⟩⟩ := hf
  have hd : (@decide (Value.agg #[.int .i64 a.1, .int .i64 a.2] = .agg #[.int .i64 b.1, .int .i64 b.2]) (propDecidable _)) = (a.1 == b.1 && a.2 == b.2) := by
   rw [Bool.eq_iff_iff]; simp
  rw [hd]
  cases h0 : (a.1 == b.1) <;> cases h1 : (a.2 == b.2) <;>
   simp only [Op.eqFields, n0, n1, t0, t1, o0, o1, p0, p1, Sem.run_bind, Result.andThen_ok, run_equalIn_int w _ 3 _ _ _ _ hi, h0, h1, ne_eq, not_false_eq_true, if_true, Bool.not_false, Bool.not_true, Bool.false_eq_true, if_false, Sem.run_pure, Bool.true_and, Bool.false_and, String.reduceEq]
 now := fun d hd => .inr fun a b => by
  have hu : Tryz.prog.underlying 75 = some (.struct (Tryz.prog.fieldsOf 75)) := by kernel_rfl
  rw [hu] at hd
  cases hd
  simp [Instr.sameNow]
 stays := fun a => by simp [Instr.sameBits, ko]
 kind := ⟨_, by have hu : Tryz.prog.underlying 75 = some (.struct (Tryz.prog.fieldsOf 75)) := by kernel_rfl
                exact hu⟩
structure StAt (w : World) (B : Nat) (Ap : Option Addr) (bC bM n : Nat) (ps : List Nat) (cls : Nat → List Int) : Prop where
 procs : IAt w B Ap (zN ps)
 lc : bC < B
 lm : bM < B
 cl : ∃ m f, MapOf (Value.int .i64) w bC m f ∧ ∀ p ∈ ps, ∃ A c, f (p : Int) = some (.slice A n c) ∧ IAt w B A (cls p)
 mb : ∃ m f, MapOf ko w bM m f ∧ ∀ p ∈ ps, ∀ k : Int, ∃ A c, (f (k, (p : Int))).getD (.slice none 0 0) = .slice A (kW (cls p) k).length c ∧ IAt w B A (zN (kW (cls p) k))
 len : ∀ p ∈ ps, (cls p).length = n
theorem StAt.keep {w w' : World} {B : Nat} {Ap : Option Addr} {bC bM n : Nat} {ps : List Nat} {cls : Nat → List Int} (h : StAt w B Ap bC bM n ps cls) (hb : Below B w w') : StAt w' B Ap bC bM n ps cls := by
 obtain ⟨m, f, h1, h2⟩ := h.cl
 obtain ⟨m', f', h3, h4⟩ := h.mb
 refine ⟨h.procs.keep hb, h.lc, h.lm, ⟨m, f, h1.same (hb.block _ h.lc), fun p hp => ?_⟩, ⟨m', f', h3.same (hb.block _ h.lm), fun p hp k => ?_⟩, h.len⟩
 · obtain ⟨A, c, e1, e2⟩ := h2 p hp
   exact ⟨A, c, e1, e2.keep hb⟩
 · obtain ⟨A, c, e1, e2⟩ := h4 p hp k
   exact ⟨A, c, e1, e2.keep hb⟩
theorem IAt.sameB {w w' : World} {B : Nat} {A : Option Addr} {xs : List Int} (h : IAt w B A xs) (hb : ∀ k, k < B → w'.heap[k]? = w.heap[k]?) : IAt w' B A xs := fun h0 => by
 obtain ⟨b, off, e, hlt, hc⟩ := h h0
 exact ⟨b, off, e, hlt, fun i hi => (World.cell?_of_block (hb b hlt)).trans (hc i hi)⟩
theorem StAt.same {w w' : World} {B : Nat} {Ap : Option Addr} {bC bM n : Nat} {ps : List Nat} {cls : Nat → List Int} (h : StAt w B Ap bC bM n ps cls) (hb : ∀ k, k < B → w'.heap[k]? = w.heap[k]?) : StAt w' B Ap bC bM n ps cls := by
 obtain ⟨m, f, h1, h2⟩ := h.cl
 obtain ⟨m', f', h3, h4⟩ := h.mb
 refine ⟨h.procs.sameB hb, h.lc, h.lm, ⟨m, f, h1.same (hb _ h.lc), fun p hp => ?_⟩, ⟨m', f', h3.same (hb _ h.lm), fun p hp k => ?_⟩, h.len⟩
 · obtain ⟨A, c, e1, e2⟩ := h2 p hp
   exact ⟨A, c, e1, e2.sameB hb⟩
 · obtain ⟨A, c, e1, e2⟩ := h4 p hp k
   exact ⟨A, c, e1, e2.sameB hb⟩
theorem StAt.more {w : World} {B B' : Nat} {Ap : Option Addr} {bC bM n : Nat} {ps : List Nat} {cls : Nat → List Int} (h : StAt w B Ap bC bM n ps cls) (hB : B ≤ B') : StAt w B' Ap bC bM n ps cls := by
 obtain ⟨m, f, h1, h2⟩ := h.cl
 obtain ⟨m', f', h3, h4⟩ := h.mb
 have l1 := h.lc
 have l2 := h.lm
 refine ⟨h.procs.more hB, by omega, by omega, ⟨m, f, h1, fun p hp => ?_⟩, ⟨m', f', h3, fun p hp k => ?_⟩, h.len⟩
 · obtain ⟨A, c, e1, e2⟩ := h2 p hp
   exact ⟨A, c, e1, e2.more hB⟩
 · obtain ⟨A, c, e1, e2⟩ := h4 p hp k
   exact ⟨A, c, e1, e2.more hB⟩
def stC (n : Nat) (Ap : Option Addr) (m kp bC bM : Nat) : Array Value := #[.int .i64 (n : Int), .slice Ap m kp, .map (some bC), .map (some bM)]
end
end Go.Proofs.YtdkmpccfnnpnbaaGreat
