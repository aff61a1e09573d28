/- Parts Rf39C Rf39D RefB2 LwHo. -/
import Derived.Test.YtdkmpccfnnpnbaaGreatProg
import Derived.Test.YtdkmpccfnnpnbaaGreatQh
import Derived.Test.YtdkmpccfnnpnbaaGreatQg
import Derived.Test.YtdkmpccfnnpnbaaGreatQf
import Derived.Test.YtdkmpccfnnpnbaaGreatQb
import Derived.Deep.QuietTactic
import Derived.BigQuiet

namespace Go.Proofs.YtdkmpccfnnpnbaaGreat
set_option maxHeartbeats 4000000
section
open Go.RowKit Go.Shelf
attribute [local go_sem] Oper.semAt_some
def kE (set : List Bool) (k : Nat) : List Int := (List.range set.length).map fun i => if i < k then (if set.getD i false = true then -1 else 0) else 0
theorem vJ (set : List Bool) (k : Nat) : (kE set k).length = set.length := by simp [kE]
theorem begL_zero (set : List Bool) : kE set 0 = List.replicate set.length 0 := by
 refine List.ext_getElem (by simp [kE]) fun i h1 h2 => ?_
 simp [kE]
theorem begL_set (set : List Bool) (k : Nat) (_hk : k < set.length) : (kE set k).set k (if set.getD k false = true then -1 else 0) = kE set (k + 1) := by
 refine List.ext_getElem (by simp [kE]) fun i h1 h2 => ?_
 rw [List.getElem_set]
 by_cases e : k = i
 · subst e; simp [kE]
 · have e1 : i < k + 1 ↔ i < k := by omega
   simp [kE, e, e1]
theorem begL_at (set : List Bool) (i : Nat) (hi : i < set.length) : (kE set set.length).getD i 0 = if i ∈ zV set then 0 else -1 := by
 rw [zt (by rw [vJ]; exact hi)]
 simp only [kE, List.getElem_map, List.getElem_range, hi, if_true]
 by_cases h : set.getD i false = true
 · rw [if_pos h, if_neg]
   intro hm
   have := (jd.1 hm).2
   rw [h] at this; cases this
 · rw [if_neg h, if_pos]
   exact jd.2 ⟨hi, by simpa using h⟩
set_option maxRecDepth 100000 in
theorem rfar_any (s : Sy) (K N : Nat) (hF : Fine s K N) (G : Nat) (hG : G < 2 ^ N) (set : List Bool) (hsl : set.length = ptn s) (A SV AV AX AB : Option Addr) (kc ks kv kx kb : Nat) (w : World) (hX : XAt w w.heap.size AX s.xs) (hB0 : BAt w w.heap.size AB set) :
  Calls Tryz.prog 73 #[.agg (s.vs_ A kc SV ks AV kv AX kx), .int .i64 (G : Int), .slice AB set.length kb] w fun e w' => ∃ g : Nat, e = .returned (.slice (some ⟨g, 0, none⟩) set.length set.length) ∧ RowAt w' g (uZ (ptn s) (yC s G) (zV set)) ∧ Below w.heap.size w w' := by
 obtain ⟨w1, hw1, d0, hs1, hB⟩ := zk w (s.vs_ A kc SV ks AV kv AX kx) 35
 have HBY := zH (fun (i k : Nat) (hi : i < ptn s) (hk : k < ptn s) (X : World) (hX : XAt X X.heap.size AX s.xs) => rby_any s K N hF G hG i k hi hk A SV AV AX kc ks kv kx X hX)
 have HBA : Hid (∀ i k, 0 ≤ byE (psG s G) (zZ s) i k ↔ yC s G i k) := fun i k => Js _ _ i k
 have hpn : ptn s ≤ 700 := by
  have hk := hF.k
  have hk6 := hF.k6
  have := Nat.mul_le_mul hF.lx (show s.p.k.toNat + 1 ≤ 7 by omega)
  unfold ptn; omega
 have HAT := zH (fun i (hi : i < set.length) => begL_at set i hi)
 have HEND := zH (fun (f : List Int) (hl : f.length = ptn s) (h : Far (ptn s) (yC s G) (fun i => i ∈ zV set) (fun i => f.getD i 0)) => qy hl h)
 obtain ⟨BY, hBY⟩ : ∃ BY, byE (psG s G) (zZ s) = BY := ⟨_, rfl⟩
 obtain ⟨ADJ, hADJ⟩ : ∃ ADJ, yC s G = ADJ := ⟨_, rfl⟩
 rw [hBY] at HBY HBA
 rw [hADJ] at HBA HEND ⊢
 obtain ⟨n, hn⟩ : ∃ n, ptn s = n := ⟨_, rfl⟩
 rw [hn] at HBY hpn HEND hsl ⊢
 subst hsl
 have HX := zH (hX.keep hB)
 have HBS := zH (hB0.keep hB)
 have hmk := uf set.length (by omega)
 obtain ⟨Z, hZ⟩ : ∃ Z, ((List.replicate set.length 0).map (Value.int .i64)).toArray = Z := ⟨_, rfl⟩
 rw [hZ] at hmk
 have HZ := zH hZ
 unfold Sy.vs_ at hw1 d0 HBY ⊢
 have HW1 := zH hw1
 have HB := zH hB
 have HD := zH d0
 clear hw1 d0 hB hF hX hB0 hn hBY hADJ hG hZ
 go_enter Tryz.func73, Tryz.ntmps73
 go_wp2_with fail
 rw [HW1.out]
 clear HW1
 go_upto_region 2 with fail
 obtain ⟨w2, hw2, d2, hs2, hb2⟩ := zk w1 Z 3
 rw [hw2]
 have HR2 : Hid (RowAt w2 w1.heap.size (kE set 0)) := by show RowAt _ _ _; rw [begL_zero]; unfold RowAt; rw [HZ.out]; exact d2
 have HB2 := zH hb2
 clear hw2 d2 hb2 hmk
 rw [hs1] at HR2
 try rw [hs1]
 go_wp2_with fail
 go_loopw [8] (fun i wr => ∃ k : Nat, k ≤ set.length ∧ i = .int .i64 (k : Int) ∧ Hid (RowAt wr (w.heap.size + 1) (kE set k)) ∧ Hid (Below w1.heap.size w1 wr)) (fun i _ => set.length - (intOf i).toNat)
 case atStart => exact ⟨0, by omega, rfl, HR2, HB2⟩
 case round =>
  obtain ⟨k, hk, rfl, HR, HBw⟩ := hrel
  clear HR2 HB2
  by_cases hlt : k < set.length
  · have y0 := HR.out.cell k (by rw [vJ]; exact hlt)
    have f0 := HR.out.froz k
    have l0 := HR.out.lt
    have hset := begL_set set k hlt
    have hgs : set.getD k false = set[k] := by rw [List.getD_eq_getElem?_getD, List.getElem?_eq_getElem hlt]; rfl
    rw [hgs] at hset
    have hsz := HBw.out.size
    obtain ⟨bb, ob, eB, hbb, z0⟩ := (HBS.out.keep (HBw.out.mono (by omega))).at_ k hlt
    subst eB
    obtain ⟨v, hv⟩ : ∃ v, set[k] = v := ⟨_, rfl⟩
    rw [hv] at hset z0
    have HSET := zH hset
    have hk0 : (0 : Int) ≤ (k : Int) := by omega
    have hk1 : (k : Int) < (set.length : Int) := by omega
    have HRs1 := zH (HR.out.set k (-1))
    have HBs1 := zH (HBw.out.setCell (p := ⟨w.heap.size + 1, k, none⟩) (by show w1.heap.size ≤ w.heap.size + 1; omega) (.int .i64 (-1)))
    have z1 : (wr.setCell ⟨w.heap.size + 1, k, none⟩ (.int .i64 (-1))).cell? ⟨bb, ob + k, none⟩ = some (.bool v) := (World.cell?_of_block (Below.heap_setCell wr ⟨w.heap.size + 1, k, none⟩ _ bb (by show bb ≠ w.heap.size + 1; omega))).trans z0
    clear hset hgs hv z0
    cases v with
    | true =>
     have HRn : Hid (RowAt (wr.setCell ⟨w.heap.size + 1, k, none⟩ (.int .i64 (-1))) (w.heap.size + 1) (kE set (k + 1))) := by
      have h1 := HRs1.out
      have h2 := HSET.out
      rw [if_pos rfl] at h2
      rwa [h2] at h1
     clear HSET HRs1
     go_upto_region 6 with fail
     obtain ⟨W4, hW4⟩ : ∃ W4, wr.setCell ⟨w.heap.size + 1, k, none⟩ (.int .i64 (-1)) = W4 := ⟨_, rfl⟩
     rw [hW4] at HRn HBs1 z1 ⊢
     clear hW4 y0 f0 l0 HR HBw
     go_wp2_with fail
     go_roundw
     case rel => exact ⟨k + 1, by omega, by go_num, HRn, HBs1⟩
     case measure => simp [intOf]; omega
    | false =>
     go_upto_region 6 with fail
     obtain ⟨W4, hW4⟩ : ∃ W4, wr.setCell ⟨w.heap.size + 1, k, none⟩ (.int .i64 (-1)) = W4 := ⟨_, rfl⟩
     rw [hW4] at HRs1 HBs1 z1 ⊢
     have y4 := HRs1.out.cell k (by rw [List.length_set, vJ]; exact hlt)
     have f4 := HRs1.out.froz k
     have l4 := HRs1.out.lt
     have HRn : Hid (RowAt (W4.setCell ⟨w.heap.size + 1, k, none⟩ (.int .i64 0)) (w.heap.size + 1) (kE set (k + 1))) := by
      have h1 := HRs1.out.set k 0
      have h2 := HSET.out
      rw [if_neg (by simp)] at h2
      rw [List.set_set, h2] at h1
      exact h1
     have HBn := zH (HBs1.out.setCell (p := ⟨w.heap.size + 1, k, none⟩) (by show w1.heap.size ≤ w.heap.size + 1; omega) (.int .i64 0))
     clear hW4 y0 f0 l0 HR HBw HSET HRs1
     go_wp2_with fail
     go_roundw
     case rel => exact ⟨k + 1, by omega, by go_num, HRn, HBn⟩
     case measure => simp [intOf]; omega
  · obtain rfl : set.length = k := by omega
    have HI0 : Hid (FarI set.length ADJ (fun i => i ∈ zV set) 0 (fun i => (kE set set.length).getD i 0)) := FarI.start fun i hi => ⟨fun h => by
     show (kE set set.length).getD i 0 = 0
     rw [HAT.out i hi, if_pos h], fun h => by
     show (kE set set.length).getD i 0 = -1
     rw [HAT.out i hi, if_neg h]⟩
    have HL0 : Hid ((kE set set.length).length = set.length) := vJ _ _
    clear hlt HAT
    go_wp2_with fail
    go_loopw [9] (fun j wr => ∃ (d : Nat) (f : List Int), d ≤ set.length ∧ j = .int .i64 (d : Int) ∧ Hid (f.length = set.length) ∧ Hid (FarI set.length ADJ (fun i => i ∈ zV set) d (fun i => f.getD i 0)) ∧ Hid (RowAt wr (w.heap.size + 1) f) ∧ Hid (Below w1.heap.size w1 wr)) (fun j _ => set.length - (intOf j).toNat)
    case atStart => exact ⟨0, _, by omega, rfl, HL0, HI0, HR, HBw⟩
    case round =>
     obtain ⟨d, f, hd, rfl, HL, HI, HR1, HB1⟩ := hrel
     clear HL0 HI0 HR HBw
     by_cases hdl : d < set.length
     · have hd1 : (d : Int) < (set.length : Int) := by omega
       have HJ0 := zH HI.out.open
       clear HI
       go_wp2_with fail
       go_loopw [10] (fun j wr => ∃ (i : Nat) (f : List Int), i ≤ set.length ∧ j = .int .i64 (i : Int) ∧ Hid (f.length = set.length) ∧ Hid (FarJ set.length ADJ (fun i => i ∈ zV set) d i (fun i => f.getD i 0)) ∧ Hid (RowAt wr (w.heap.size + 1) f) ∧ Hid (Below w1.heap.size w1 wr)) (fun j _ => set.length - (intOf j).toNat)
       case atStart => exact ⟨0, f, by omega, rfl, HL, HJ0, HR1, HB1⟩
       case round =>
        obtain ⟨i, f, hi, rfl, HL, HJ, HR1, HB1⟩ := hrel
        clear HJ0
        by_cases hil : i < set.length
        · have hi0 : (0 : Int) ≤ (i : Int) := by omega
          have hi1 : (i : Int) < (set.length : Int) := by omega
          go_wp2_with fail
          go_loopw [11] (fun j wr => ∃ (m : Nat) (f2 : List Int), m ≤ set.length ∧ j = .int .i64 (m : Int) ∧ Hid (f2.length = set.length) ∧ Hid (RowAt wr (w.heap.size + 1) f2) ∧ Hid (Below w1.heap.size w1 wr) ∧ Hid ((f2 = f ∧ ∀ k, k < m → f.getD k 0 = (d : Int) → BY i k < 0) ∨ (FarJ set.length ADJ (fun i => i ∈ zV set) d (i + 1) (fun i => f2.getD i 0) ∧ 0 ≤ f2.getD i 0))) (fun j _ => set.length - (intOf j).toNat)
          case atStart => exact ⟨0, f, by omega, rfl, HL, HR1, HB1, .inl ⟨rfl, fun k hk => absurd hk (by omega)⟩⟩
          case round =>
           obtain ⟨m, f2, hm, rfl, HL2, HR2, HB2, HOR⟩ := hrel
           clear HL HR1 HB1
           have hif : i < f2.length := by rw [HL2.out]; exact hil
           have y0 := HR2.out.cell i hif
           rw [← zt hif 0] at y0
           obtain ⟨fi, hfi⟩ : ∃ fi, f2.getD i 0 = fi := ⟨_, rfl⟩
           rw [hfi] at y0
           have HFI := zH hfi
           clear hfi
           by_cases hml : m < set.length
           · have hm0 : (0 : Int) ≤ (m : Int) := by omega
             have hm1 : (m : Int) < (set.length : Int) := by omega
             by_cases hneg : fi < 0
             · have hA : f2 = f ∧ ∀ k, k < m → f.getD k 0 = (d : Int) → BY i k < 0 := by
                rcases HOR.out with h | ⟨_, h⟩
                · exact h
                · rw [HFI.out] at h; omega
               obtain ⟨hff, hno⟩ := hA
               subst hff
               have HNO := zH hno
               have hmf : m < f2.length := by rw [HL2.out]; exact hml
               have y1 := HR2.out.cell m hmf
               rw [← zt hmf 0] at y1
               obtain ⟨fm, hfm⟩ : ∃ fm, f2.getD m 0 = fm := ⟨_, rfl⟩
               rw [hfm] at y1
               have HFM := zH hfm
               clear hno hfm HOR
               by_cases hfd : fm = (d : Int)
               · subst hfd
                 have hsz := HB2.out.size
                 have dd := (HB2.out.block _ (zd HD.out)).trans HD.out
                 obtain ⟨p0, p1, p2, p3, p4, p5, p6, p7, p8, p9⟩ := zv (dd)
                 clear dd
                 have HC := zH (HBY.out i m hil hml wr ((HX.out.keep (HB2.out.mono (by omega))).more (by omega)))
                 have HBI := zH (HBA.out i m)
                 obtain ⟨bv, hbv⟩ : ∃ bv, BY i m = bv := ⟨_, rfl⟩
                 rw [hbv] at HC HBI
                 have HBV := zH hbv
                 clear hbv
                 go_wp2_with fail
                 refine HC.out.mono ?_
                 rintro e w5 ⟨rfl, hb5⟩
                 have HR5 : Hid (RowAt w5 (w.heap.size + 1) f2) := (hb5.block _ HR2.out.lt).trans HR2.out
                 have HB5 := zH (HB2.out.trans (hb5.mono hsz))
                 clear hb5 HC p0 p1 p2 p3 p4 p5 p6 p7 p8 p9 y0 y1 HR2 HB2
                 by_cases hbn : 0 ≤ bv
                 · have y5 := HR5.out.cell i hif
                   have f5 := HR5.out.froz i
                   have l5 := HR5.out.lt
                   have hnew : FarJ set.length ADJ (fun i => i ∈ zV set) d (i + 1) (fun j => (f2.set i ((d : Int) + 1)).getD j 0) := HJ.out.set (k := m) hil hml (HBI.out.1 hbn) HFM.out (by show f2.getD i 0 < 0; rw [HFI.out]; exact hneg) (fun j => by rw [kA hif])
                   have HNEW : Hid ((f2.set i ((d : Int) + 1) = f2 ∧ ∀ k, k < m + 1 → f2.getD k 0 = (d : Int) → BY i k < 0) ∨ (FarJ set.length ADJ (fun i => i ∈ zV set) d (i + 1) (fun j => (f2.set i ((d : Int) + 1)).getD j 0) ∧ 0 ≤ (f2.set i ((d : Int) + 1)).getD i 0)) := .inr ⟨hnew, by rw [kA hif, if_pos rfl]; omega⟩
                   have hwd : IntKind.i64.wrap ((d : Int) + 1) = (d : Int) + 1 := by rw [IntKind.wrap_i64]; omega
                   have HRn := zH (HR5.out.set i ((d : Int) + 1))
                   have HBn := zH (HB5.out.setCell (p := ⟨w.heap.size + 1, i, none⟩) (by show w1.heap.size ≤ w.heap.size + 1; omega) (.int .i64 ((d : Int) + 1)))
                   have HLn : Hid ((f2.set i ((d : Int) + 1)).length = set.length) := by show _ = _; rw [List.length_set]; exact HL2.out
                   clear hnew HNO HJ HR5 HB5 HFM HFI HL2 HBI HBV
                   go_wp2_with fail
                   go_roundw
                   case rel => exact ⟨m + 1, _, by omega, by go_num, HLn, HRn, HBn, HNEW⟩
                   case measure => simp [intOf]; omega
                 · have HN2 : Hid (∀ k, k < m + 1 → f2.getD k 0 = (d : Int) → BY i k < 0) := fun k hk he => by
                    by_cases e : k = m
                    · subst e; rw [HBV.out]; omega
                    · exact HNO.out k (by omega) he
                   have hbn2 : ¬ 0 ≤ bv := hbn
                   clear HNO HFM HFI HBI HBV
                   go_wp2_with fail
                   go_roundw
                   case rel => exact ⟨m + 1, f2, by omega, by go_num, HL2, HR5, HB5, .inl ⟨rfl, HN2.out⟩⟩
                   case measure => simp [intOf]; omega
               · have HN2 : Hid (∀ k, k < m + 1 → f2.getD k 0 = (d : Int) → BY i k < 0) := fun k hk he => by
                   by_cases e : k = m
                   · subst e; rw [HFM.out] at he; exact absurd he hfd
                   · exact HNO.out k (by omega) he
                 have q1 : (fm == (d : Int)) = false := by simpa using hfd
                 clear HNO HFM HFI
                 go_wp2_with fail
                 go_roundw
                 case rel => exact ⟨m + 1, f2, by omega, by go_num, HL2, HR2, HB2, .inl ⟨rfl, HN2.out⟩⟩
                 case measure => simp [intOf]; omega
             · have HJ2 : Hid (FarJ set.length ADJ (fun i => i ∈ zV set) d (i + 1) (fun j => f2.getD j 0)) := by
                rcases HOR.out with ⟨h, _⟩ | ⟨h, _⟩
                · subst h
                  exact HJ.out.skip (.inl (by show 0 ≤ f2.getD i 0; rw [HFI.out]; omega))
                · exact h
               clear HOR HJ HFI
               go_wp2_with fail
               go_roundw
               case rel => exact ⟨i + 1, f2, by omega, by go_num, HL2, HJ2, HR2, HB2⟩
               case measure => simp [intOf]; omega
           · obtain rfl : set.length = m := by omega
             have hmm : ¬ (set.length : Int) < (set.length : Int) := by omega
             have HJ2 : Hid (FarJ set.length ADJ (fun i => i ∈ zV set) d (i + 1) (fun j => f2.getD j 0)) := by
              rcases HOR.out with ⟨h, h2⟩ | ⟨h, _⟩
              · subst h
                refine HJ.out.skip (.inr fun k hk ha he => ?_)
                have := h2 k hk he
                have := (HBA.out i k).2 ha
                omega
              · exact h
             clear HOR HJ HFI y0
             go_wp2_with fail
             go_roundw
             case rel => exact ⟨i + 1, f2, by omega, by go_num, HL2, HJ2, HR2, HB2⟩
             case measure => simp [intOf]; omega
        · obtain rfl : set.length = i := by omega
          have hnn : ¬ (set.length : Int) < (set.length : Int) := by omega
          have HI2 := zH HJ.out.shut
          clear HJ
          go_wp2_with fail
          go_roundw
          case rel => exact ⟨d + 1, f, by omega, by go_num, HL, HI2, HR1, HB1⟩
          case measure => simp [intOf]; omega
     · obtain rfl : set.length = d := by omega
       have hnn : ¬ (set.length : Int) < (set.length : Int) := by omega
       have hfar := HEND.out f HL.out HI.out.far
       have HE2 := zH hfar
       clear hfar HI HEND
       go_wp2_with fail
       go_ret
       refine ⟨w.heap.size + 1, rfl, ?_, HB.out.trans (HB1.out.mono (by omega))⟩
       rw [HE2.out]
       exact HR1.out
set_option maxRecDepth 100000 in
theorem YB (s : Sy) (hs : LowS s) (hf : xT s.p) (g : Int) (set : List Bool) (A SV AV AX AB : Option Addr) (kc ks kv kx kb : Nat) (w : World) (hS : SyAt w w.heap.size A SV AV AX s) (hB0 : BAt w w.heap.size AB set) :
  Calls Tryz.prog 25 #[.agg (s.vs_ A kc SV ks AV kv AX kx), .int .i64 g, .slice AB set.length kb] w (XF (qd s g set).1 (qd s g set).2 w) := by
 obtain ⟨w1, hw1, d0, hs1, hB⟩ := zk w (s.vs_ A kc SV ks AV kv AX kx) 35
 have HV := zH (wP s hs hf g set A SV AV AX AB kc ks kv kx kb w1 (hS.up hB))
 have HS1 := zH (hS.up hB)
 have HBS := zH (hB0.keep hB)
 have HE0 : Hid (zz s g set ≠ 0 → qd s g set = ([], zz s g set)) := fun h => if_pos h
 have HE1 : Hid (zz s g set = 0 → set.length = ptn s ∧ ∃ (K N G : Nat), Fine s K N ∧ G < 2 ^ N ∧ g = (G : Int) ∧ qd s g set = (uZ (ptn s) (yC s G) (zV set), 0)) := fun h => by
  obtain ⟨h0, hl⟩ := xH h
  obtain ⟨h1, h2, h3⟩ := vy h0
  obtain ⟨_, K, N, hF⟩ := qm hf h1
  have hn := hF.n
  rw [hn, Int.toNat_natCast] at h3
  refine ⟨hl, K, N, g.toNat, hF, ?_, by omega, ?_⟩
  · have : (g.toNat : Int) < ((2 ^ N : Nat) : Int) := by push_cast; omega
    exact_mod_cast this
  · unfold qd
    rw [if_neg (by simpa using h), Int.toNat_of_nonneg h2]
 have HFR := zH (fun (K N : Nat) (hF : Fine s K N) (G : Nat) (hG : G < 2 ^ N) (hsl : set.length = ptn s) (X : World) (hX : XAt X X.heap.size AX s.xs) (hB : BAt X X.heap.size AB set) => rfar_any s K N hF G hG set hsl A SV AV AX AB kc ks kv kx kb X hX hB)
 have HFL : Hid (∀ G : Nat, set.length = ptn s → (uZ (ptn s) (yC s G) (zV set)).length = set.length) := fun G h => by
  obtain ⟨f, h1, h2⟩ := QC (ptn s) (yC s G) (fun i => i ∈ zV set)
  rw [qy h1 h2, h1, h]
 obtain ⟨r, hr⟩ : ∃ r, zz s g set = r := ⟨_, rfl⟩
 rw [hr] at HV HE0 HE1
 obtain ⟨R, hRR⟩ : ∃ R, qd s g set = R := ⟨_, rfl⟩
 rw [hRR] at HE0 HE1 ⊢
 unfold Sy.vs_ at hw1 d0 HV HFR ⊢
 have HW1 := zH hw1
 have HB := zH hB
 have HD := zH d0
 obtain ⟨p0, p1, p2, p3, p4, p5, p6, p7, p8, p9⟩ := zv (d0)
 clear hw1 d0 hB hS hr hRR hs hf hB0
 go_enter Tryz.func25, Tryz.ntmps25
 go_wp2_with fail
 rw [HW1.out]
 go_wp2_with fail
 refine HV.out.mono ?_
 rintro e w2 ⟨rfl, hb2⟩
 have HB2 := zH (HB.out.trans (hb2.mono (by omega)))
 have HS2 := zH (HS1.out.up hb2)
 have HBS2 := zH ((HBS.out.keep (hb2.mono (by omega))).more HB2.out.size)
 have d0 := (hb2.block _ (by omega : w.heap.size < w1.heap.size)).trans HD.out
 clear p0 p1 p2 p3 p4 p5 p6 p7 p8 p9 hb2 HV HW1 HD HS1 HBS
 obtain ⟨p0, p1, p2, p3, p4, p5, p6, p7, p8, p9⟩ := zv (d0)
 clear d0
 by_cases h0 : r = 0
 case neg =>
  have hR : Hid (R = ([], r)) := HE0.out h0
  have e0 : (r != 0) = true := by simpa using h0
  clear HE0 HE1 HFR HFL
  go_wp2_with fail
  go_ret2
  rw [hR.out]
  exact ⟨none, 0, rfl, IAt.nil _ _ _, HB2.out⟩
 case pos =>
 subst h0
 obtain ⟨hsl, K, N, G, hF, hG, rfl, hRe⟩ := HE1.out rfl
 have HC := zH (HFR.out K N hF G hG hsl w2 HS2.out.fx HBS2.out)
 have hR := zH hRe
 have HCL := zH (HFL.out G hsl)
 clear HE0 HE1 hF hG HFR hRe HS2 HFL hsl HBS2
 go_wp2_with fail
 refine HC.out.mono ?_
 rintro e w3 ⟨g5, rfl, hr5, hb5⟩
 have HR5 := zH hr5
 have HB5 := zH (HB2.out.trans (hb5.mono HB2.out.size))
 clear hr5 hb5 HC HB2 p0 p1 p2 p3 p4 p5 p6 p7 p8 p9
 go_wp2_with fail
 go_ret2
 rw [hR.out]
 exact ⟨some ⟨g5, 0, none⟩, set.length, by rw [HCL.out]; rfl, HR5.out.iat, HB5.out⟩
end
section
open Go.RowKit Go.Shelf
attribute [local go_sem] Oper.semAt_some
set_option maxRecDepth 100000 in
theorem XQ (s : Sy) (K N : Nat) (hF : Fine s K N) (G : Nat) (hG : G < 2 ^ N) (set : List Bool) (hsl : set.length = ptn s) (A SV AV AX AB : Option Addr) (kc ks kv kx kb : Nat) (w : World) (hX : XAt w w.heap.size AX s.xs) (hB0 : BAt w w.heap.size AB set) :
  Calls Tryz.prog 70 #[.agg (s.vs_ A kc SV ks AV kv AX kx), .int .i64 (G : Int), .slice AB set.length kb] w fun e w' => ∃ g : Nat, e = .returned (.slice (some ⟨g, 0, none⟩) set.length set.length) ∧ BRow w' g (xW (ptn s) (yC s G) set) ∧ Below w.heap.size w w' := by
 obtain ⟨w1, hw1, d0, hs1, hB⟩ := zk w (s.vs_ A kc SV ks AV kv AX kx) 35
 have HSM := zH (fun (X : World) (hX : XAt X X.heap.size AX s.xs) => JM s K N hF G hG A SV AV AX kc ks kv kx X hX)
 have hpn : ptn s ≤ 700 := by
  have hk := hF.k
  have hk6 := hF.k6
  have := Nat.mul_le_mul hF.lx (show s.p.k.toNat + 1 ≤ 7 by omega)
  unfold ptn; omega
 have HHL := zH (fun (i : Nat) (hi : i < ptn s) => held_lab (set := set) (xb s G) i hi)
 have HLH : Hid ((xW (ptn s) (yC s G) set).length = ptn s) := qg _ _ _
 have HLL : Hid ((ye (ptn s) (yC s G)).length = ptn s) := yi _ _
 obtain ⟨H, hH⟩ : ∃ H, xW (ptn s) (yC s G) set = H := ⟨_, rfl⟩
 obtain ⟨L, hL⟩ : ∃ L, ye (ptn s) (yC s G) = L := ⟨_, rfl⟩
 rw [hL] at HSM HLL
 rw [hH] at HLH ⊢
 have HHL2 : Hid (∀ i, i < ptn s → (H.getD i false = true ↔ ∀ k, k < ptn s → L.getD k 0 = L.getD i 0 → set.getD k false = true)) := fun i hi => by
  have h1 := HHL.out i hi
  have h3 : i < (xW (ptn s) (yC s G) set).length := by rw [qg]; exact hi
  have h2 : (xW (ptn s) (yC s G) set).getD i false = (xW (ptn s) (yC s G) set)[i]'h3 := by rw [List.getD_eq_getElem?_getD, List.getElem?_eq_getElem h3]; rfl
  rw [← hH, h2, ← hL]
  exact h1
 obtain ⟨n, hn⟩ : ∃ n, ptn s = n := ⟨_, rfl⟩
 rw [hn] at hpn HLL HLH HHL2 hsl
 subst hsl
 have HX := zH (hX.keep hB)
 have HBS := zH hB0
 have hmk := gg set.length (by omega)
 unfold Sy.vs_ at hw1 d0 HSM ⊢
 have HW1 := zH hw1
 have HB := zH hB
 have HD := zH d0
 obtain ⟨p0, p1, p2, p3, p4, p5, p6, p7, p8, p9⟩ := zv (d0)
 clear hw1 d0 hB hF hX hB0 hn hH hL hG HHL
 go_enter Tryz.func70, Tryz.ntmps70
 go_wp2_with fail
 rw [HW1.out]
 clear HW1
 go_wp2_with fail
 refine (HSM.out w1 (HX.out.more (by omega))).mono ?_
 rintro e w2 ⟨A2, c2, rfl, ho2, hb2⟩
 rw [HLL.out] at ho2 ⊢
 have HI2 : Hid (IAt w2 w2.heap.size A2 L) := by
  obtain ⟨A', c', e', _, _, hI'⟩ := ho2.form
  simp only [Value.slice.injEq] at e'
  obtain ⟨e1', -, -⟩ := e'
  subst e1'
  exact hI'
 have HB2 := zH (HB.out.trans (hb2.mono (by omega)))
 have hs12 := hb2.size
 clear ho2 hb2 HSM p0 p1 p2 p3 p4 p5 p6 p7 p8 p9 HX HD
 go_upto_region 3 with fail
 obtain ⟨w3, hw3, d3, hs3, hb3⟩ := zk w2 (jq (List.replicate set.length false)) 4
 rw [hw3]
 have HR3 : Hid (BRow w3 w2.heap.size (qX H 0)) := by show BRow _ _ _; rw [ZG, HLH.out]; exact d3
 have HI3 : Hid (IAt w3 w2.heap.size A2 L) := HI2.out.keep hb3
 have HB3 := zH (HB2.out.trans (hb3.mono HB2.out.size))
 have HBS3 : Hid (BAt w3 w.heap.size AB set) := HBS.out.keep HB3.out
 have hg2 : w.heap.size < w2.heap.size := by omega
 clear hw3 d3 hb3 hmk HI2 HB2 HBS
 go_wp2_with fail
 go_loopw [9] (fun j wr => ∃ i : Nat, i ≤ set.length ∧ j = .int .i64 (i : Int) ∧ Hid (BRow wr w2.heap.size (qX H i)) ∧ Hid (Below w2.heap.size w3 wr)) (fun j _ => set.length - (intOf j).toNat)
 case atStart => exact ⟨0, by omega, rfl, HR3, Below.refl _ _⟩
 case round =>
  obtain ⟨i, hi, rfl, HR, hb⟩ := hrel
  clear HR3
  by_cases hil : i < set.length
  · have hiH : i < H.length := by rw [HLH.out]; exact hil
    have hml := Xk H (Nat.le_of_lt hiH)
    have hi0 : (0 : Int) ≤ (i : Int) := by omega
    have hi1 : (i : Int) < (set.length : Int) := by omega
    obtain ⟨c0, hc0⟩ : ∃ c, wr.cell? ⟨w2.heap.size, i, none⟩ = some (.bool c) := ⟨_, za HR.out i (vH (qX H i) i (by omega))⟩
    have f0 := zb HR.out i
    have l0 := zd HR.out
    have HRs : Hid (BRow (wr.setCell ⟨w2.heap.size, i, none⟩ (.bool true)) w2.heap.size ((qX H i).set i true)) := by
     unfold BRow
     show _ = _
     rw [heap_setCell_same wr _ i _ _ _ HR.out, un]
    have HBs := zH (hb.out.setCell (p := ⟨w2.heap.size, i, none⟩) (by show w2.heap.size ≤ w2.heap.size; omega) (.bool true))
    have HSF := zH (Xj H hiH)
    have HFI := zH (HHL2.out i hil)
    have hgH : H.getD i false = H[i] := by rw [List.getD_eq_getElem?_getD, List.getElem?_eq_getElem hiH]; rfl
    rw [hgH] at HFI
    obtain ⟨hv, hhv⟩ : ∃ v, H[i] = v := ⟨_, rfl⟩
    rw [hhv] at HFI HSF
    have hll : (qX H i).length = set.length := by rw [hml, HLH.out]
    obtain ⟨Q, hQ⟩ : ∃ Q, qX H i = Q := ⟨_, rfl⟩
    rw [hQ] at HRs HSF hll
    have HLQ := zH hll
    clear hgH hhv hml hll
    go_upto_region 7 with fail
    obtain ⟨W4, hW4⟩ : ∃ W4, wr.setCell ⟨w2.heap.size, i, none⟩ (.bool true) = W4 := ⟨_, rfl⟩
    rw [hW4] at HRs HBs ⊢
    clear hW4 hc0 f0 l0 HR hb hQ
    go_wp2_with fail
    go_loopw [10] (fun j wr => ∃ (m : Nat) (b : Bool), m ≤ set.length ∧ j = .int .i64 (m : Int) ∧ Hid (b = true ↔ ∀ k, k < m → L.getD k 0 = L.getD i 0 → set.getD k false = true) ∧ Hid (BRow wr w2.heap.size (Q.set i b)) ∧ Hid (Below w2.heap.size w3 wr)) (fun j _ => set.length - (intOf j).toNat)
    case atStart => exact ⟨0, true, by omega, rfl, ⟨fun _ k hk => absurd hk (by omega), fun _ => rfl⟩, HRs, HBs⟩
    case round =>
     obtain ⟨m, b, hm, rfl, HB9, HR9, HBw⟩ := hrel
     clear HRs HBs
     by_cases hml : m < set.length
     · have hm0 : (0 : Int) ≤ (m : Int) := by omega
       have hm1 : (m : Int) < (set.length : Int) := by omega
       obtain ⟨bL, oL, eL, hbL, z0⟩ := (HI3.out.keep HBw.out).at_ m (by rw [HLL.out]; exact hml)
       obtain ⟨bL', oL', eL', _, z1⟩ := (HI3.out.keep HBw.out).at_ i (by rw [HLL.out]; exact hil)
       rw [eL] at eL'
       simp only [Option.some.injEq, Addr.mk.injEq, and_true] at eL'
       obtain ⟨rfl, rfl⟩ := eL'
       subst eL
       obtain ⟨bS, oS, eS, hbS, z2⟩ := (HBS3.out.keep (HBw.out.mono (by omega))).at_ m hml
       subst eS
       rw [← zt (by rw [HLL.out]; exact hml) 0] at z0
       rw [← zt (by rw [HLL.out]; exact hil) 0] at z1
       have hgS : set.getD m false = set[m] := by rw [List.getD_eq_getElem?_getD, List.getElem?_eq_getElem hml]; rfl
       have z0 : wr.drew.cell? ⟨bL, oL + m, none⟩ = some (.int .i64 (L.getD m 0)) := z0
       have z1 : wr.drew.cell? ⟨bL, oL + i, none⟩ = some (.int .i64 (L.getD i 0)) := z1
       have z2 : wr.drew.cell? ⟨bS, oS + m, none⟩ = some (.bool set[m]) := z2
       obtain ⟨l0, hl0⟩ : ∃ x, L.getD m 0 = x := ⟨_, rfl⟩
       obtain ⟨l1, hl1⟩ : ∃ x, L.getD i 0 = x := ⟨_, rfl⟩
       obtain ⟨sv, hsv⟩ : ∃ x, set[m] = x := ⟨_, rfl⟩
       rw [hl0] at z0
       rw [hl1] at z1
       rw [hsv] at z2
       have HL0 := zH hl0
       have HL1 := zH hl1
       have HSV := zH (hgS.trans hsv)
       have HRd : Hid (BRow wr.drew w2.heap.size (Q.set i b)) := HR9.out
       have HBd : Hid (Below w2.heap.size w3 wr.drew) := HBw.out.drew
       have hstep : Hid (∀ b', (b' = true ↔ (b = true ∧ (l0 = l1 → sv = true))) → (b' = true ↔ ∀ k, k < m + 1 → L.getD k 0 = L.getD i 0 → set.getD k false = true)) := fun b' h => by
        rw [h, HB9.out]
        constructor
        · rintro ⟨h1, h2⟩ k hk he
          by_cases e : k = m
          · subst e
            rw [HSV.out]
            exact h2 (by rw [← HL0.out, ← HL1.out]; exact he)
          · exact h1 k (by omega) he
        · intro h1
          exact ⟨fun k hk => h1 k (by omega), fun he => by
           have := h1 m (by omega) (by rw [HL0.out, HL1.out]; exact he)
           rwa [HSV.out] at this⟩
       clear hl0 hl1 hsv hgS
       by_cases hll2 : l0 = l1
       · subst hll2
         cases sv with
         | true =>
          have HN : Hid (b = true ↔ ∀ k, k < m + 1 → L.getD k 0 = L.getD i 0 → set.getD k false = true) := hstep.out b (by simp)
          clear hstep HB9
          go_wp2_with fail
          refine zj [(0, true), (1, true), (2, true), (3, true), (4, true), (5, true), (6, true), (7, true), (8, true), (9, true), (10, true), (11, true), (12, true), (13, true), (14, true), (15, true)] (fun X => X = wr.drew) (by kernel_rfl) (by kernel_rfl) rfl ?_
          repeat
           apply zn rfl
           · rintro K' hK' X rfl
             go_simp
             exact hK'
          refine zD ?_
          obtain ⟨W5, hW5⟩ : ∃ W5, wr.drew = W5 := ⟨_, rfl⟩
          rw [hW5] at HRd HBd ⊢
          clear hW5 z0 z1 z2 HR9 HBw
          go_wp2_with fail
          go_roundw
          case rel => exact ⟨m + 1, b, by omega, by go_num, HN, HRd, HBd⟩
          case measure => simp [intOf]; omega
         | false =>
          have HN : Hid (false = true ↔ ∀ k, k < m + 1 → L.getD k 0 = L.getD i 0 → set.getD k false = true) := hstep.out false (by simp)
          have hQi : i < (Q.set i b).length := by rw [List.length_set, HLQ.out]; exact hil
          clear hstep HB9
          go_wp2_with fail
          refine zj [(0, true), (1, true), (2, true), (3, true), (4, true), (5, true), (6, true), (7, true), (8, true), (9, true), (10, true), (11, true), (12, true), (13, true), (14, true), (15, true)] (fun X => X = wr.drew) (by kernel_rfl) (by kernel_rfl) rfl ?_
          repeat
           apply zn rfl
           · rintro K' hK' X rfl
             go_simp
             exact hK'
          refine zD ?_
          obtain ⟨W5, hW5⟩ : ∃ W5, wr.drew = W5 := ⟨_, rfl⟩
          rw [hW5] at HRd HBd ⊢
          obtain ⟨c1, hc1⟩ : ∃ c, W5.cell? ⟨w2.heap.size, i, none⟩ = some (.bool c) := ⟨_, za HRd.out i (vH (Q.set i b) i hQi)⟩
          have f1 := zb HRd.out i
          have l1' := zd HRd.out
          have HRn : Hid (BRow (W5.setCell ⟨w2.heap.size, i, none⟩ (.bool false)) w2.heap.size (Q.set i false)) := by
           unfold BRow
           show _ = _
           rw [heap_setCell_same W5 _ i _ _ _ HRd.out, un, List.set_set]
          have HBn := zH (HBd.out.setCell (p := ⟨w2.heap.size, i, none⟩) (by show w2.heap.size ≤ w2.heap.size; omega) (.bool false))
          clear hW5 z0 z1 z2 HR9 HBw HRd HBd hQi
          go_wp2_with fail
          go_roundw
          case rel => exact ⟨m + 1, false, by omega, by go_num, by unfold Hid; simpa using HN.out, HRn, HBn⟩
          case measure => simp [intOf]; omega
       · have HN : Hid (b = true ↔ ∀ k, k < m + 1 → L.getD k 0 = L.getD i 0 → set.getD k false = true) := hstep.out b (by simp [hll2])
         have q1 : (l0 == l1) = false := by simpa using hll2
         clear hstep HB9
         go_wp2_with fail
         refine zj [(0, true), (1, true), (2, true), (3, true), (4, true), (5, true), (6, true), (7, true), (8, true), (9, true), (10, true), (11, true), (12, true), (13, true), (14, true), (15, true)] (fun X => X = wr.drew) (by kernel_rfl) (by kernel_rfl) rfl ?_
         repeat
          apply zn rfl
          · rintro K' hK' X rfl
            go_simp
            exact hK'
         refine zD ?_
         obtain ⟨W5, hW5⟩ : ∃ W5, wr.drew = W5 := ⟨_, rfl⟩
         rw [hW5] at HRd HBd ⊢
         clear hW5 z0 z1 z2 HR9 HBw
         go_wp2_with fail
         go_roundw
         case rel => exact ⟨m + 1, b, by omega, by go_num, HN, HRd, HBd⟩
         case measure => simp [intOf]; omega
     · obtain rfl : set.length = m := by omega
       have hmm : ¬ (set.length : Int) < (set.length : Int) := by omega
       have hbv : b = hv := by
        have h1 := HB9.out.trans HFI.out.symm
        cases b <;> cases hv <;> simp_all
       have HRn : Hid (BRow wr w2.heap.size (qX H (i + 1))) := by
        rw [← HSF.out, ← hbv]; exact HR9
       clear HB9 HR9 hbv HFI HSF HLQ
       go_wp2_with fail
       go_roundw
       case rel => exact ⟨i + 1, by omega, by go_num, HRn, HBw⟩
       case measure => simp [intOf]; omega
  · obtain rfl : set.length = i := by omega
    have hmm : ¬ (set.length : Int) < (set.length : Int) := by omega
    have hbe := HR.out
    rw [← HLH.out, Xl] at hbe
    have HBE := zH hbe
    clear hbe HR
    go_wp2_with fail
    go_ret
    exact ⟨w2.heap.size, rfl, HBE.out, HB3.out.trans (hb.out.mono (by omega))⟩
set_option maxRecDepth 100000 in
theorem JP (s : Sy) (hs : LowS s) (hf : xT s.p) (g : Int) (set : List Bool) (A SV AV AX AB : Option Addr) (kc ks kv kx kb : Nat) (w : World) (hS : SyAt w w.heap.size A SV AV AX s) (hB0 : BAt w w.heap.size AB set) :
  Calls Tryz.prog 23 #[.agg (s.vs_ A kc SV ks AV kv AX kx), .int .i64 g, .slice AB set.length kb] w (Jz (xt s g set).1 (xt s g set).2 w) := by
 obtain ⟨w1, hw1, d0, hs1, hB⟩ := zk w (s.vs_ A kc SV ks AV kv AX kx) 35
 have HV := zH (wP s hs hf g set A SV AV AX AB kc ks kv kx kb w1 (hS.up hB))
 have HS1 := zH (hS.up hB)
 have HBS := zH (hB0.keep hB)
 have HE0 : Hid (zz s g set ≠ 0 → xt s g set = ([], zz s g set)) := fun h => if_pos h
 have HE1 : Hid (zz s g set = 0 → set.length = ptn s ∧ ∃ (K N G : Nat), Fine s K N ∧ G < 2 ^ N ∧ g = (G : Int) ∧ xt s g set = (xW (ptn s) (yC s G) set, 0)) := fun h => by
  obtain ⟨h0, hl⟩ := xH h
  obtain ⟨h1, h2, h3⟩ := vy h0
  obtain ⟨_, K, N, hF⟩ := qm hf h1
  have hn := hF.n
  rw [hn, Int.toNat_natCast] at h3
  refine ⟨hl, K, N, g.toNat, hF, ?_, by omega, ?_⟩
  · have : (g.toNat : Int) < ((2 ^ N : Nat) : Int) := by push_cast; omega
    exact_mod_cast this
  · unfold xt
    rw [if_neg (by simpa using h), Int.toNat_of_nonneg h2]
 have HFR := zH (fun (K N : Nat) (hF : Fine s K N) (G : Nat) (hG : G < 2 ^ N) (hsl : set.length = ptn s) (X : World) (hX : XAt X X.heap.size AX s.xs) (hB : BAt X X.heap.size AB set) => XQ s K N hF G hG set hsl A SV AV AX AB kc ks kv kx kb X hX hB)
 have HFL : Hid (∀ G : Nat, set.length = ptn s → (xW (ptn s) (yC s G) set).length = set.length) := fun G h => by rw [qg, h]
 obtain ⟨r, hr⟩ : ∃ r, zz s g set = r := ⟨_, rfl⟩
 rw [hr] at HV HE0 HE1
 obtain ⟨R, hRR⟩ : ∃ R, xt s g set = R := ⟨_, rfl⟩
 rw [hRR] at HE0 HE1 ⊢
 unfold Sy.vs_ at hw1 d0 HV HFR ⊢
 have HW1 := zH hw1
 have HB := zH hB
 have HD := zH d0
 obtain ⟨p0, p1, p2, p3, p4, p5, p6, p7, p8, p9⟩ := zv (d0)
 clear hw1 d0 hB hS hr hRR hs hf hB0
 go_enter Tryz.func23, Tryz.ntmps23
 go_wp2_with fail
 rw [HW1.out]
 go_wp2_with fail
 refine HV.out.mono ?_
 rintro e w2 ⟨rfl, hb2⟩
 have HB2 := zH (HB.out.trans (hb2.mono (by omega)))
 have HS2 := zH (HS1.out.up hb2)
 have HBS2 := zH ((HBS.out.keep (hb2.mono (by omega))).more HB2.out.size)
 have d0 := (hb2.block _ (by omega : w.heap.size < w1.heap.size)).trans HD.out
 clear p0 p1 p2 p3 p4 p5 p6 p7 p8 p9 hb2 HV HW1 HD HS1 HBS
 obtain ⟨p0, p1, p2, p3, p4, p5, p6, p7, p8, p9⟩ := zv (d0)
 clear d0
 by_cases h0 : r = 0
 case neg =>
  have hR : Hid (R = ([], r)) := HE0.out h0
  have e0 : (r != 0) = true := by simpa using h0
  clear HE0 HE1 HFR HFL
  go_wp2_with fail
  go_ret2
  rw [hR.out]
  exact ⟨none, 0, rfl, BAt.nil _ _ _, HB2.out⟩
 case pos =>
 subst h0
 obtain ⟨hsl, K, N, G, hF, hG, rfl, hRe⟩ := HE1.out rfl
 have HC := zH (HFR.out K N hF G hG hsl w2 HS2.out.fx HBS2.out)
 have hR := zH hRe
 have HCL := zH (HFL.out G hsl)
 clear HE0 HE1 hF hG HFR hRe HS2 HFL hsl HBS2
 go_wp2_with fail
 refine HC.out.mono ?_
 rintro e w3 ⟨g5, rfl, hr5, hb5⟩
 have HR5 := zH hr5
 have HB5 := zH (HB2.out.trans (hb5.mono HB2.out.size))
 clear hr5 hb5 HC HB2 p0 p1 p2 p3 p4 p5 p6 p7 p8 p9
 go_wp2_with fail
 go_ret2
 rw [hR.out]
 exact ⟨some ⟨g5, 0, none⟩, set.length, by rw [HCL.out]; rfl, HR5.out.at_ HR5.out.lt, HB5.out⟩
end
section
open Go.RowKit
set_option maxRecDepth 100000 in
theorem Z0 (A A' : Option Addr) (cap cap' : Nat) (xs ys : List Int) (w : World) (B : Nat) (hA : IAt w B A xs) (hA' : IAt w B A' ys) (hl : xs.length ≤ 17592186044416) (hl' : ys.length ≤ 17592186044416) :
  Calls Tryz.prog 21 #[.slice A xs.length cap, .slice A' ys.length cap'] w fun e w' => e = .returned (.bool (decide (xs = ys))) ∧ Below w.heap.size w w' := by
 have HB := Below.refl w.heap.size w
 by_cases hll : xs.length = ys.length
 · have HL := zH hll
   have hl1 : ((xs.length : Int) != (ys.length : Int)) = false := by simp [hll]
   clear hll
   go_enter Tryz.func21, Tryz.ntmps21
   go_wp2
   go_loopw [5] (fun i wr => ∃ k m : Nat, k ≤ xs.length ∧ i = .int .i64 k ∧ wr = w.drewN m ∧ Hid (xs.take k = ys.take k)) (fun i _ => xs.length - (intOf i).toNat)
   case atStart => exact ⟨0, 0, by omega, rfl, rfl, by show xs.take 0 = ys.take 0; simp⟩
   case round =>
    obtain ⟨k, m, hk, rfl, rfl, hall⟩ := hrel
    have hle : k ≤ ys.length := by have := HL.out; omega
    by_cases hlt : k < xs.length
    · have hlt' : k < ys.length := by have := HL.out; omega
      obtain ⟨b, off, rfl, hb1, c0⟩ := hA.at_ k hlt
      obtain ⟨b', off', rfl, hb1', d0⟩ := hA'.at_ k hlt'
      clear hA hA'
      by_cases hv : xs[k] = ys[k]
      · have e1 : (xs[k] != ys[k]) = false := by simp [hv]
        have hz : Hid (xs.take (k + 1) = ys.take (k + 1)) := qa hlt hlt' hall.out hv
        clear hv
        go_wp2
        go_quiet (fail)
        go_wp2
        go_roundw
        case rel => exact ⟨k + 1, _, by omega, by go_num, rfl, hz⟩
        case measure => simp [intOf]; omega
      · have e1 : (xs[k] != ys[k]) = true := by simpa using hv
        have hz : Hid (decide (xs = ys) = false) := decide_eq_false (yR hlt hlt' hv)
        clear hv
        go_wp2
        go_quiet (fail)
        go_wp2
        go_ret
        exact ⟨zg hz.out.symm, by repeat (first | exact HB | refine zJ ?_ _)⟩
    · obtain rfl : k = xs.length := by omega
      have hz : Hid (decide (xs = ys) = true) := decide_eq_true (yU HL.out hall.out)
      go_wp2
      go_ret
      exact ⟨zg hz.out.symm, by repeat (first | exact HB | refine zJ ?_ _)⟩
 · have hz : Hid (decide (xs = ys) = false) := decide_eq_false (by rintro rfl; exact hll rfl)
   have hl1 : ((xs.length : Int) != (ys.length : Int)) = true := by simp; omega
   clear hll
   go_enter Tryz.func21, Tryz.ntmps21
   go_wp2
   go_ret
   exact ⟨zg hz.out.symm, HB⟩
end
section
open Go.RowKit
attribute [local go_sem] Oper.semAt_some
theorem held_lens {s : Sy} (hf : xT s.p) (g : Int) (set : List Bool) : (qd s g set).1.length ≤ 700 ∧ (xt s g set).1.length ≤ 700 := by
 by_cases h : zz s g set = 0
 · obtain ⟨h1, h2⟩ := xH h
   obtain ⟨f1, f2, f3⟩ := qc hf h1
   have hex := QC (ptn s) (yC s g) (fun i => i ∈ zV set)
   obtain ⟨f, hl, hfar⟩ := hex
   have e1 : qd s g set = (f, 0) := by unfold qd; rw [if_neg (by simpa using h), qy hl hfar]
   have e2 : xt s g set = (xW (ptn s) (yC s g) set, 0) := by unfold xt; rw [if_neg (by simpa using h)]
   rw [e1, e2]
   exact ⟨by simpa only [hl] using f2, by simpa [xW] using f2⟩
 · rw [show qd s g set = ([], zz s g set) from if_pos h, show xt s g set = ([], zz s g set) from if_pos h]
   simp
set_option maxRecDepth 100000 in
theorem law_holds (s : Sy) (hl : LowSy s) (A SV AV AX : Option Addr) (kc ks kv kx : Nat) (g : Int) (bs : List Bool) (AB : Option Addr) (kb : Nat) (w : World) (hS : SyAt w w.heap.size A SV AV AX s) (hb0 : BAt w w.heap.size AB bs) :
  Calls Tryz.prog 4 #[.agg (s.vs_ A kc SV ks AV kv AX kx), .int .i64 g, .slice AB bs.length kb] w fun e w' => e = .returned (.bool true) ∧ Below w.heap.size w w' := by
 obtain ⟨w1, hw1, d0, hs1, hB1⟩ := zk w (s.vs_ A kc SV ks AV kv AX kx) 35
 have hS1 := hS.up hB1
 have hb1 := (hb0.keep hB1).more hB1.size
 have HF := zH (fewS_any s hl A SV AV AX kc ks kv kx w1 hS1)
 have C1 := zH (fun (h : jl s = true) (hq : bs.length ≤ 1000000) (X : World) (hX : Below w1.heap.size w1 X) => gq s (yT hl h).2.2.1 (yT hl h).1 g bs A SV AV AX AB kc ks kv kx kb X (hS1.up hX) ((hb1.keep hX).more hX.size) hq)
 have C2 := zH (fun (h : jl s = true) (hq : bs.length ≤ 1000000) (X : World) (hX : Below w1.heap.size w1 X) => JP s (yT hl h).2.2.1 (yT hl h).1 g bs A SV AV AX AB kc ks kv kx kb X (hS1.up hX) ((hb1.keep hX).more hX.size))
 have C3 := zH (fun (h : jl s = true) (hq : bs.length ≤ 1000000) (X : World) (hX : Below w1.heap.size w1 X) => j7 s (yT hl h).2.2.1 (yT hl h).1 g bs A SV AV AX AB kc ks kv kx kb X (hS1.up hX) ((hb1.keep hX).more hX.size) hq)
 have C4 := zH (fun (h : jl s = true) (hq : bs.length ≤ 1000000) (X : World) (hX : Below w1.heap.size w1 X) => YB s (yT hl h).2.2.1 (yT hl h).1 g bs A SV AV AX AB kc ks kv kx kb X (hS1.up hX) ((hb1.keep hX).more hX.size))
 have HLN : Hid (jl s = true → (qd s g bs).1.length ≤ 700 ∧ (xt s g bs).1.length ≤ 700) := fun h => held_lens (yT hl h).1 g bs
 unfold Sy.vs_ at hw1 d0 HF C1 C2 C3 C4 ⊢
 obtain ⟨R, hR⟩ : ∃ R, qd s g bs = R := ⟨_, rfl⟩
 obtain ⟨H, hH⟩ : ∃ H, xt s g bs = H := ⟨_, rfl⟩
 rw [hR] at C3 C4 HLN
 rw [hH] at C1 C2 HLN
 have HW1 := zH hw1
 have HB1 := zH hB1
 have HDB : Hid (∀ X, Below w1.heap.size w1 X → X.heap[w.heap.size]? = some (.cells #[.int .i64 s.p.t.n, .int .i64 s.p.t.ins, .int .i64 s.p.t.outs, .slice A s.p.t.cases.length kc, .int .i64 s.p.a.n, .slice SV s.p.a.sts.length ks, .int .i64 s.p.k, .int .i64 s.n, .slice AV s.vs.length kv, .slice AX s.xs.length kx] 35 (0, 0))) := fun X hX => (hX.block _ (zd d0)).trans d0
 have G1 : Hid (Below w1.heap.size w1 w1) := Below.refl _ _
 obtain ⟨F, hF⟩ : ∃ F, jl s = F := ⟨_, rfl⟩
 rw [hF] at HF C1 C2 C3 C4 HLN
 clear hw1 d0 hB1 hS hS1 hF hl hR hH hb0 hb1
 obtain ⟨p0, p1, p2, p3, p4, p5, p6, p7, p8, p9⟩ := zv (HDB.out _ G1.out)
 go_enter Tryz.func4, Tryz.ntmps4
 go_wp2_with fail
 rw [HW1.out]
 go_wp2_with fail
 refine HF.out.mono ?_
 rintro e w2 ⟨rfl, hb2⟩
 have G2 := zH (G1.out.trans (hb2.mono G1.out.size))
 clear hb2 HF HW1 p0 p1 p2 p3 p4 p5 p6 p7 p8 p9
 cases F with
 | false =>
  clear C1 C2 C3 C4 HLN
  go_wp2_with fail
  refine (jr w2).mono ?_
  rintro e v3 ⟨rfl, hb3⟩
  have B3 := zH (HB1.out.trans ((G2.out.trans (hb3.mono G2.out.size)).mono HB1.out.size))
  clear hb3
  go_wp2_with fail
  go_ret
  exact ⟨rfl, B3.out⟩
 | true =>
 by_cases hlen : (800 : Int) < (bs.length : Int)
 · clear C1 C2 C3 C4 HLN
   have hq : ((bs.length : Int) > 800) = True := eq_true hlen
   go_wp2_with fail
   refine (jr w2).mono ?_
   rintro e v3 ⟨rfl, hb3⟩
   have B3 := zH (HB1.out.trans ((G2.out.trans (hb3.mono G2.out.size)).mono HB1.out.size))
   clear hb3
   go_wp2_with fail
   go_ret
   exact ⟨rfl, B3.out⟩
 have D1 := zH (C1.out rfl (by omega))
 have D2 := zH (C2.out rfl (by omega))
 have D3 := zH (C3.out rfl (by omega))
 have D4 := zH (C4.out rfl (by omega))
 have hln := zH (HLN.out rfl)
 clear C1 C2 C3 C4 HLN
 unfold Jz at D1 D2
 unfold XF at D3 D4
 obtain ⟨p0, p1, p2, p3, p4, p5, p6, p7, p8, p9⟩ := zv (HDB.out _ G2.out)
 go_wp2_with fail
 refine (D1.out w2 G2.out).mono ?_
 rintro e w3 ⟨A3, c3, rfl, hr3, hb3⟩
 have G3 := zH (G2.out.trans (hb3.mono G2.out.size))
 have R3 := zH hr3
 clear hb3 hr3 D1 hlen p0 p1 p2 p3 p4 p5 p6 p7 p8 p9
 obtain ⟨p0, p1, p2, p3, p4, p5, p6, p7, p8, p9⟩ := zv (HDB.out _ G3.out)
 go_wp2_with fail
 refine (D2.out w3 G3.out).mono ?_
 rintro e w4 ⟨A4, c4, rfl, hr4, hb4⟩
 have G4 := zH (G3.out.trans (hb4.mono G3.out.size))
 have R4 := zH hr4
 have R3 := zH ((R3.out.keep hb4).more hb4.size)
 clear hb4 hr4 D2 p0 p1 p2 p3 p4 p5 p6 p7 p8 p9
 obtain ⟨p0, p1, p2, p3, p4, p5, p6, p7, p8, p9⟩ := zv (HDB.out _ G4.out)
 go_wp2_with fail
 refine (D3.out w4 G4.out).mono ?_
 rintro e w5 ⟨A5, c5, rfl, hr5, hb5⟩
 have G5 := zH (G4.out.trans (hb5.mono G4.out.size))
 have R5 := zH hr5
 have R4 := zH ((R4.out.keep hb5).more hb5.size)
 have R3 := zH ((R3.out.keep hb5).more hb5.size)
 clear hb5 hr5 D3 p0 p1 p2 p3 p4 p5 p6 p7 p8 p9
 obtain ⟨p0, p1, p2, p3, p4, p5, p6, p7, p8, p9⟩ := zv (HDB.out _ G5.out)
 go_wp2_with fail
 refine (D4.out w5 G5.out).mono ?_
 rintro e w6 ⟨A6, c6, rfl, hr6, hb6⟩
 have G6 := zH (G5.out.trans (hb6.mono G5.out.size))
 have R6 := zH hr6
 have R5 := zH (R5.out.up hb6)
 have R4 := zH ((R4.out.keep hb6).more hb6.size)
 have R3 := zH ((R3.out.keep hb6).more hb6.size)
 have HC := ZZ A3 A4 c3 c4 H.1 H.1 w6 w6.heap.size (Nat.le_refl _) R3.out R4.out (by have := hln.out.2; omega) (by have := hln.out.2; omega)
 rw [show decide (H.1 = H.1) = true by simp] at HC
 have HC := zH HC
 clear hb6 hr6 D4 p0 p1 p2 p3 p4 p5 p6 p7 p8 p9 R3 R4
 go_wp2_with fail
 refine HC.out.mono ?_
 rintro e w7 ⟨rfl, n7, hn7⟩
 have hb7 : Below w6.heap.size w6 w7 := by rw [hn7]; exact zJ (Below.refl _ _) n7
 have G7 := zH (G6.out.trans (hb7.mono G6.out.size))
 have HC := Z0 A5 A6 c5 c6 R.1 R.1 w7 w7.heap.size (R5.out.up hb7) (R6.out.up hb7) (by have := hln.out.1; omega) (by have := hln.out.1; omega)
 rw [show decide (R.1 = R.1) = true by simp] at HC
 have HC := zH HC
 clear hb7 hn7 R5 R6 hln
 go_wp2_with fail
 refine HC.out.mono ?_
 rintro e w8 ⟨rfl, hb8⟩
 have G8 := zH (G7.out.trans (hb8.mono G7.out.size))
 clear hb8 HC
 go_wp2_with fail
 refine (jr w8).mono ?_
 rintro e v3 ⟨rfl, hb3⟩
 have B3 := zH (HB1.out.trans ((G8.out.trans (hb3.mono G8.out.size)).mono HB1.out.size))
 clear hb3
 go_wp2_with fail
 go_ret
 exact ⟨rfl, B3.out⟩
end
end Go.Proofs.YtdkmpccfnnpnbaaGreat
