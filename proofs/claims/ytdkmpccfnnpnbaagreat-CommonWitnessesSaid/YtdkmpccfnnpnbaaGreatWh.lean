/- Parts CmnW CmnV EqS Aw39 Rf36B Rf39A Rf39B Rf39C Rf39E Rf39F LwSt LwWi. -/
import Derived.Test.YtdkmpccfnnpnbaaGreatProg
import Derived.Test.YtdkmpccfnnpnbaaGreatWg
import Derived.Deep.LoopGhost
import Derived.Test.YtdkmpccfnnpnbaaGreatWa
import Derived.Test.YtdkmpccfnnpnbaaGreatWb
import Derived.Test.YtdkmpccfnnpnbaaGreatWf
import Derived.Test.YtdkmpccfnnpnbaaGreatWe
import Derived.Test.YtdkmpccfnnpnbaaGreatWc
import Derived.Test.YtdkmpccfnnpnbaaGreatWd
import Derived.Deep.QuietTactic
import Derived.BigQuiet

namespace Go.Proofs.YtdkmpccfnnpnbaaGreat
set_option maxHeartbeats 4000000
section
open Go.RowKit Go.Shelf
attribute [local go_sem] Oper.semAt_some
def Jg (x : (List (Int × Int) × Bool) × Int) (w : World) (e : Ending) (w' : World) : Prop := ∃ A c, e = .returned (.tuple #[.slice A x.1.1.length c, .bool x.1.2, .int .i64 x.2]) ∧ x.1.1.length ≤ c ∧ c ≤ maxLen ∧ TAt w' w'.heap.size A x.1.1 ∧ Below w.heap.size w w'
structure WtIn (B D : Nat) (wD : World) (pt : Nat) (w W : World) : Prop where
 below : Below B w W
 pt : W.heap[B + 1]? = some (.cells #[.int .i64 (pt : Int)] 3 (0, 0))
 old : ∀ k, B + 2 ≤ k → k < D → W.heap[k]? = wD.heap[k]?
 size : D ≤ W.heap.size
section
variable {B D pt : Nat} {wD w W W' : World}
theorem WtIn.free (h : WtIn B D wD pt w W) (hb : Below D W W') (hD : B + 2 ≤ D) : WtIn B D wD pt w W' :=
 ⟨h.below.trans (hb.mono (by omega)), (hb.block _ (by omega)).trans h.pt, fun k h1 h2 => (hb.block k h2).trans (h.old k h1 h2), Nat.le_trans h.size hb.size⟩
theorem WtIn.on (h : WtIn B D wD pt w W) (hb : Below W.heap.size W W') (hD : B + 2 ≤ D) : WtIn B D wD pt w W' := h.free (hb.mono h.size) hD
theorem WtIn.turn {row : Option Nat} (h : WtIn B D wD pt w W) (hg : W.grownBy W' row) (hr : ∀ r, row = some r → D ≤ r) (hD : B + 2 ≤ D) : WtIn B D wD pt w W' :=
 h.free ((Below.refl D W).grown hg h.size hr) hD
theorem WtIn.move (h : WtIn B D wD pt w W) (q : Nat) (_hD : B + 2 ≤ D) : WtIn B D wD q w (W.setCell ⟨B + 1, 0, none⟩ (.int .i64 (q : Int))) :=
 ⟨h.below.setCell (by show B ≤ B + 1; omega) _, by rw [heap_setCell_same W (B + 1) 0 _ _ _ h.pt]; rfl, fun k h1 h2 => (Below.heap_setCell W ⟨B + 1, 0, none⟩ _ k (by show k ≠ B + 1; omega)).trans (h.old k h1 h2), by simp [World.setCell]; exact h.size⟩
theorem vO {K : Kd} {base : Nat} {v : Value} {n : Nat} {cs : List Value} (h : OwnR K W base v n cs) (hs : ∀ k, v.ownBlock = some k → W'.heap[k]? = W.heap[k]?) : OwnR K W' base v n cs := by
 refine ⟨h.1, ?_⟩
 rcases h.2 with hn | ⟨g, cap, cur, rfl, hb, hg, rest⟩
 · exact .inl hn
 · exact .inr ⟨g, cap, cur, rfl, hb, (hs g rfl).trans hg, rest⟩
theorem XQ {K : Kd} {base : Nat} {v : Value} {n : Nat} {cs : List Value} (h : OwnR K W base v n cs) (hs : ∀ (k : Nat) (o : Obj), W.heap[k]? = some o → o.isCells = true → W'.heap[k]? = some o) : OwnR K W' base v n cs := by
 refine ⟨h.1, ?_⟩
 rcases h.2 with hn | ⟨g, cap, cur, rfl, hb, hg, rest⟩
 · exact .inl hn
 · exact .inr ⟨g, cap, cur, rfl, hb, hs g _ hg rfl, rest⟩
theorem ownR_ne {K : Kd} {base : Nat} {v : Value} {n y : Nat} {cs : List Value} {d : Option (List Deferred)} (h : OwnR K W base v n cs) (hy : W.heap[y]? = some (Obj.deferred d)) : v.ownBlock ≠ some y := fun e => by
 rcases h.2 with ⟨rfl, _⟩ | ⟨g, cap, cur, rfl, hb, hg, rest⟩
 · cases e
 · have : g = y := by simpa [Value.ownBlock] using e
   subst this
   rw [hg] at hy
   cases hy
theorem ownR_one {g base : Nat} {x y : Int} (h : W.heap[g]? = some (.cells #[.int .i64 x, .int .i64 y] 75 (0, 0))) (hb : base ≤ g) : OwnR kSt W base (.slice (some ⟨g, 0, none⟩) 1 1) 1 (xt [(x, y)]) :=
 ⟨by simp [xt, kSt], .inr ⟨g, 1, _, rfl, hb, h, Nat.le_refl _, by unfold maxLen; omega, by simp [kSt], by simp [xt, kSt]⟩⟩
end
theorem set2 {w : World} {g : Nat} {x0 x1 : Value} {t : TypeId} (h : w.heap[g]? = some (.cells #[x0, x1] t (0, 0))) (y0 y1 : Value) :
  ∃ W, ((w.setCell ⟨g, 0, none⟩ y0).setCell ⟨g, 1, none⟩ y1) = W ∧ W.heap[g]? = some (.cells #[y0, y1] t (0, 0)) ∧ (∀ k, k ≠ g → W.heap[k]? = w.heap[k]?) ∧ ∀ B, B ≤ g → Below B w W := by
 refine ⟨_, rfl, ?_, fun k hk => ?_, fun B hB => ?_⟩
 · have a1 := heap_setCell_same w g 0 _ _ y0 h
   exact heap_setCell_same _ g 1 _ _ y1 a1
 · exact (Below.heap_setCell _ ⟨g, 1, none⟩ y1 k hk).trans (Below.heap_setCell _ ⟨g, 0, none⟩ y0 k hk)
 · exact ((Below.refl B w).setCell (by show B ≤ g; omega) y0).setCell (by show B ≤ g; omega) y1
theorem best_ok {f : List Int} {n : Nat} {L : List Nat} {ps : List Nat} {cls : Nat → List Int} (hl : ∀ p ∈ ps, (cls p).length = n) (hp : ps.Pairwise (· < ·)) (hf : Far n (yN ps cls) (fun i => i ∈ L) (fun i => f.getD i 0)) {i d : Nat} (hi : i < n) (hd : f.getD i 0 = (d : Int) + 1) :
  (yt f (d : Int) n (zL ps cls i)).1 < n ∧ f.getD (yt f (d : Int) n (zL ps cls i)).1 0 = (d : Int) := by
 obtain ⟨k, hk, ha, he⟩ := hf.step i hi (by show 0 < f.getD i 0; omega)
 have he' : f.getD k 0 = (d : Int) := by have : f.getD k 0 = f.getD i 0 - 1 := he; omega
 obtain ⟨p, hpp, e⟩ := ha
 have hm : (k, p) ∈ zL ps cls i := (qC hl).2 ⟨hk, hpp, e.symm⟩
 obtain ⟨h1, h2⟩ := uh f (d : Int) n (zL ps cls i) (n, 0) (QU hp i)
 have h3 := h1 _ hm he'
 change (yt f (d : Int) n (zL ps cls i)).1 ≤ k at h3
 refine ⟨by omega, ?_⟩
 rcases h2 with e2 | ⟨_, e2, _⟩
 · exfalso
   have e3 : yt f (d : Int) n (zL ps cls i) = (n, 0) := e2
   rw [e3] at h3
   simp at h3; omega
 · exact e2
set_option maxRecDepth 100000 in
theorem un (s : Sy) (hs : LowS s) (hf : xO s.p) (g pt : Int) (set : List Bool) (A SV AV AX AB : Option Addr) (kc ks kv kx kb : Nat) (w : World) (hS : SyAt w w.heap.size A SV AV AX s) (hB0 : BAt w w.heap.size AB set) (hsl : set.length ≤ 1000000) :
  Calls Tryz.prog 27 #[.agg (s.vs_ A kc SV ks AV kv AX kx), .int .i64 g, .int .i64 pt, .slice AB set.length kb] w (Jg (qJ s g pt set) w) := by
 obtain ⟨w1, hw1, d0, d1, hs1, hB⟩ := zW w (s.vs_ A kc SV ks AV kv AX kx) #[.int .i64 pt] 35 3
 have HR := zH (kX s hs hf g set A SV AV AX AB kc ks kv kx kb w1 (hS.up hB) ((hB0.keep hB).more hB.size) hsl)
 have HF := zH (fun h => xU (s := s) (g := g) hf h)
 have HG := zH (fun h => xX (s := s) (g := g) (set := set) h)
 have HE0 : Hid (zC s g set ≠ 0 → qJ s g pt set = (([], false), zC s g set)) := fun h => if_pos h
 have HE1 : Hid (zC s g set = 0 → pt < 0 ∨ (ptn s : Int) ≤ pt → qJ s g pt set = (([], false), 6)) := fun h h1 => by unfold qJ; rw [if_neg (by simpa using h), if_pos h1]
 have HE2 : Hid (∀ (q : Nat) (f : List Int), zC s g set = 0 → q < ptn s → pt = (q : Int) → f.length = ptn s → Far (ptn s) (yN (psG s g) (zS s)) (fun i => i ∈ zX set) (fun i => f.getD i 0) → f.getD q 0 < 0 → qJ s g pt set = (([], false), 0)) := fun q f h h1 h2 h3 h4 h5 => by
  subst h2
  unfold qJ xh
  rw [if_neg (by simpa using h), if_neg (by omega), qm h3 h4, Int.toNat_natCast, if_pos h5]
 have HE3 : Hid (∀ (q : Nat) (f : List Int), zC s g set = 0 → q < ptn s → pt = (q : Int) → f.length = ptn s → Far (ptn s) (yN (psG s g) (zS s)) (fun i => i ∈ zX set) (fun i => f.getD i 0) → ¬ f.getD q 0 < 0 → qJ s g pt set = ((yV f (ptn s) (zL (psG s g) (zS s)) q, true), 0)) := fun q f h h1 h2 h3 h4 h5 => by
  subst h2
  unfold qJ xh
  rw [if_neg (by simpa using h), if_neg (by omega), qm h3 h4, Int.toNat_natCast, if_neg h5]
 unfold gI stC yS at HR
 unfold Sy.vs_ at hw1 d0 HR ⊢
 obtain ⟨r, hr⟩ : ∃ r, zC s g set = r := ⟨_, rfl⟩
 rw [hr] at HR HG HE0 HE1 HE2 HE3
 obtain ⟨R, hRR⟩ : ∃ R, qJ s g pt set = R := ⟨_, rfl⟩
 rw [hRR] at HE0 HE1 HE2 HE3 ⊢
 have HW1 := zH hw1
 have HB := zH hB
 have HD1 := zH d1
 have HNB := zH (fun (n i : Nat) (hn : n ≤ 100000) (hi : i < n) (Ap : Option Addr) (kp bC bM : Nat) (ps : List Nat) (hpl : ps.length ≤ 100) (cls : Nat → List Int) (B bx bp : Nat) (X : World) (hx : X.heap[bx]? = some (.cells #[.int .i64 (n : Int), .slice Ap ps.length kp, .map (some bC), .map (some bM)] 126 (0, 0)))
  (hp : X.heap[bp]? = some (.cells #[.int .i64 (i : Int)] 3 (0, 0))) (hS : StAt X B Ap bC bM n ps cls) (hB : B ≤ X.heap.size) => Zm n i hn hi Ap kp bC bM ps hpl cls B bx bp X hx hp hS hB)
 have HNA := zH (fun (n : Nat) (Ap : Option Addr) (m kp bC bM : Nat) (i : Int) (X : World) => YK n Ap m kp bC bM i X)
 unfold stC at HNA
 obtain ⟨p0, p1, p2, p3, p4, p5, p6, p7, p8, p9⟩ := zv d0
 have q1 := za d1 0 rfl
 clear hw1 d0 d1 hB hS hr hRR hs hf hB0
 refine yr Tryz.func27 rfl ?_
 simp only [Tryz.ntmps27, List.size_toArray, List.length_cons, List.length_nil, Nat.reduceAdd, Nat.reduceSub, Array.replicate_succ, Array.replicate_zero, List.push_toArray, List.append_toArray, List.nil_append, List.cons_append]
 go_wp2_with fail
 rw [HW1.out]
 go_wp2_with fail
 refine HR.out.mono ?_
 rintro e w2 ⟨hb2, (⟨hne, rfl⟩ | ⟨h0, Ap, kp, bC, bM, AO, cO, rfl, hSO⟩)⟩
 · have HB2 := zH (HB.out.trans (hb2.mono (by omega)))
   have hR : Hid (R = (([], false), r)) := HE0.out hne
   have e0 : (r != 0) = true := by simpa using hne
   clear p0 p1 p2 p3 p4 p5 p6 p7 p8 p9 q1 hb2 HR HW1 HF HE0 HE1 HE2 HE3 hne HG HNB HNA HD1
   go_wp2_with fail
   obtain ⟨w3, hw3, d3, hs3, hB3⟩ := zj w2 #[.int .i64 0, .slice none 0 0, .map none, .map none] 126
   rw [hw3]
   go_wp2_with fail
   refine yR (Marks.nil w.heap.size w3) (v := .tuple #[.slice none 0 0, .bool false, .int .i64 r]) (fun W => by kernel_rfl) ?_
   intro X hX
   rw [hR.out]
   exact ⟨none, 0, rfl, Nat.le_refl _, Nat.zero_le _, TAt.nil _ _ _, (HB2.out.trans (hB3.mono HB2.out.size)).trans hX.below⟩
 · have HB2 := zH (HB.out.trans (hb2.mono (by omega)))
   have HSO := zH hSO
   have hR1 : Hid (pt < 0 ∨ (ptn s : Int) ≤ pt → R = (([], false), 6)) := HE1.out h0
   have hR2 := zH (fun (q : Nat) (f : List Int) => HE2.out q f h0)
   have hR3 := zH (fun (q : Nat) (f : List Int) => HE3.out q f h0)
   obtain ⟨g1, g2⟩ := HG.out h0
   obtain ⟨f1, f2, f3⟩ := HF.out g1
   have HFI := zH (fun (X : World) (hX : StAt X X.heap.size Ap bC bM (ptn s) (psG s g) (zS s)) (hI : IAt X X.heap.size AO (zO (zX set))) => gg (ptn s) f1 (by omega) Ap kp bC bM (psG s g) (by omega) (zS s) (zX set) (QT g2) (by have := wO set; omega) AO cO X hX hI)
   have HLN : Hid (∀ p ∈ psG s g, (zS s p).length = ptn s) := fun p _ => gx s p
   have HAS : Hid ((psG s g).Pairwise (· < ·)) := ZR s g
   unfold stC at HFI
   subst h0
   have d1 := (hb2.block _ (by omega : w.heap.size + 1 < w1.heap.size)).trans HD1.out
   have HD2 := zH d1
   obtain ⟨PN, hPN⟩ : ∃ PN, ptn s = PN := ⟨_, rfl⟩
   obtain ⟨PS, hPS⟩ : ∃ PS, psG s g = PS := ⟨_, rfl⟩
   obtain ⟨CLS, hCLS⟩ : ∃ CLS, zS s = CLS := ⟨_, rfl⟩
   obtain ⟨OL, hOL⟩ : ∃ OL, zX set = OL := ⟨_, rfl⟩
   rw [hPN, hPS, hCLS, hOL] at hR2 hR3 HFI HSO
   rw [hPN, hPS, hCLS] at HLN
   rw [hPN] at hR1 f1 f2
   rw [hPS] at f3 HAS
   have HPN := zH hPN
   have HPS := zH hPS
   have HOL := zH hOL
   have hb2s := hb2.size
   have HB12 := zH hb2
   clear p0 p1 p2 p3 p4 p5 p6 p7 p8 p9 q1 hb2 HR HW1 HF HE0 HE1 HE2 HE3 hPN hPS hCLS hOL g1 g2 HG hSO d1 HD1
   go_upto_region 2 with fail
   rw [HPN.out, HPS.out, HOL.out]
   obtain ⟨w3, hw3, d3, hs3, hB3⟩ := zj w2 #[.int .i64 (PN : Int), .slice Ap PS.length kp, .map (some bC), .map (some bM)] 126
   rw [hw3]
   have x0 := za d3 0 rfl
   have x1 := za d3 1 rfl
   have x2 := za d3 2 rfl
   have x3 := za d3 3 rfl
   have HX3 := zH d3
   have HB23 := zH hB3
   have d1 := (hB3.block _ (zd HD2.out)).trans HD2.out
   have HD3 := zH d1
   have HB3 := zH (HB2.out.trans (hB3.mono HB2.out.size))
   have q1 := za d1 0 rfl
   clear hw3 d3 hB3 HD2 d1 HB2 HPN HPS HOL
   by_cases hpt : pt < 0 ∨ (PN : Int) ≤ pt
   case pos =>
    have hR : Hid (R = (([], false), 6)) := hR1.out hpt
    clear hR1 hR2 hR3 HFI HNB HNA
    by_cases h1 : pt < 0
    · go_wp2_with fail
      refine yR (Marks.nil w.heap.size w3) (v := .tuple #[.slice none 0 0, .bool false, .int .i64 6]) (fun W => by kernel_rfl) ?_
      intro X hX
      rw [hR.out]
      exact ⟨none, 0, rfl, Nat.le_refl _, Nat.zero_le _, TAt.nil _ _ _, HB3.out.trans hX.below⟩
    · have h2 : (PN : Int) ≤ pt := by omega
      go_wp2_with fail
      refine yR (Marks.nil w.heap.size w3) (v := .tuple #[.slice none 0 0, .bool false, .int .i64 6]) (fun W => by kernel_rfl) ?_
      intro X hX
      rw [hR.out]
      exact ⟨none, 0, rfl, Nat.le_refl _, Nat.zero_le _, TAt.nil _ _ _, HB3.out.trans hX.below⟩
   case neg =>
   obtain ⟨q0, hq0⟩ := Int.eq_ofNat_of_zero_le (show 0 ≤ pt by omega)
   have h1 : ¬ pt < 0 := by omega
   have h2 : ¬ (PN : Int) ≤ pt := by omega
   have hq1 : q0 < PN := by omega
   have HST3 : Hid (StAt w3 w3.heap.size Ap bC bM PN PS CLS ∧ IAt w3 w3.heap.size AO (zO OL)) := by
    obtain ⟨a1, a2⟩ := HSO.out w3 fun k _ hk => HB23.out.block k hk
    exact ⟨a1.more HB23.out.size, a2.more HB23.out.size⟩
   clear hR1 hpt
   go_wp2_with fail
   refine (HFI.out w3 HST3.out.1 HST3.out.2).mono ?_
   rintro e w4 ⟨f, g4, rfl, hg4, hr4, hl4, hfar, hb4⟩
   go_upto_region 7 with fail
   obtain ⟨w5, hw5, d5, hs5, hB5⟩ := zj w4 #[.slice (some ⟨g4, 0, none⟩) PN PN] 38
   rw [hw5]
   have HB45 := zH hB5
   have HB34 := zH hb4
   have HB35 := zH (hb4.trans (hB5.mono hb4.size))
   have HROW := zH (show RowAt w5 g4 f from (hB5.block _ hr4.lt).trans hr4)
   have HB5 := zH (HB3.out.trans (HB35.out.mono HB3.out.size))
   have HD5 := zH d5
   have d1 := (HB35.out.block _ (zd HD3.out)).trans HD3.out
   have q1 : w5.cell? ⟨w.heap.size + 1, 0, none⟩ = some (.int .i64 (q0 : Int)) := by rw [← hq0]; exact za d1 0 rfl
   have z0 := za d5 0 rfl
   have y0 := HROW.out.cell q0 (by omega)
   rw [← zD (by omega : q0 < f.length) 0] at y0
   have HL4 := zH hl4
   have HFAR := zH hfar
   have HD15 := zH d1
   have hR2' : Hid (f.getD q0 0 < 0 → R = (([], false), 0)) := hR2.out q0 f hq1 hq0 hl4 hfar
   have hR3' : Hid (¬ f.getD q0 0 < 0 → R = ((yV f PN (zL PS CLS) q0, true), 0)) := fun h => hR3.out q0 f hq1 hq0 hl4 hfar (by omega)
   obtain ⟨d, hd⟩ : ∃ d, f.getD q0 0 = d := ⟨_, rfl⟩
   rw [hd] at y0 hR2' hR3'
   have hq00 : (0 : Int) ≤ (q0 : Int) := by omega
   have hq01 : (q0 : Int) < (PN : Int) := by omega
   have HDD := zH hd
   have HQ0 := zH hq0
   have hg4l := HROW.out.lt
   have HSZ : Hid (w.heap.size + 2 ≤ w1.heap.size ∧ w3.heap.size = w2.heap.size + 1 ∧ w5.heap.size = w4.heap.size + 1 ∧ w3.heap.size ≤ w4.heap.size ∧ w1.heap.size ≤ w2.heap.size ∧ w3.heap.size ≤ g4) := by
    have := HB34.out.size
    exact ⟨hs1, hs3, hs5, by omega, hb2s, hg4⟩
   clear hw5 d5 hB5 hb4 hr4 hl4 hfar d1 hR2 hR3 hd hq0 HFI x0 x1 x2 x3 h1 h2 HST3 HD3 hs1 hs3 hs5 hb2s hg4
   by_cases hd0 : d < 0
   case pos =>
    have hR : Hid (R = (([], false), 0)) := hR2'.out hd0
    clear hR2' hR3' HNB HNA
    go_wp2_with fail
    refine yR (Marks.nil w.heap.size w5) (v := .tuple #[.slice none 0 0, .bool false, .int .i64 0]) (fun W => by kernel_rfl) ?_
    intro X hX
    rw [hR.out]
    exact ⟨none, 0, rfl, Nat.le_refl _, Nat.zero_le _, TAt.nil _ _ _, HB5.out.trans hX.below⟩
   case neg =>
   have hR : Hid (R = ((yV f PN (zL PS CLS) q0, true), 0)) := hR3'.out hd0
   clear hR2' hR3'
   go_wp2_with fail
   obtain ⟨m0, hm0⟩ := Int.eq_ofNat_of_zero_le (show 0 ≤ d by omega)
   have HB11 : Hid (w5.heap[w2.heap.size]? = some (.cells #[.int .i64 (PN : Int), .slice Ap PS.length kp, .map (some bC), .map (some bM)] 126 (0, 0))) := (HB35.out.block _ (zd HX3.out)).trans HX3.out
   have HSTD : Hid (∀ W, (∀ k, w.heap.size + 2 ≤ k → k < w5.heap.size → W.heap[k]? = w5.heap[k]?) → StAt W w5.heap.size Ap bC bM PN PS CLS) := fun W h => by
    obtain ⟨a1, a2, a3, a4, a5, a6⟩ := HSZ.out
    refine (HSO.out W fun k h1 h2 => ?_).1.more (by omega)
    exact (h k (by omega) (by omega)).trans ((HB35.out.block k (by omega)).trans (HB23.out.block k h2))
   have HWT0 : Hid (WtIn w.heap.size w5.heap.size w5 q0 w (w5.alloc (.cells #[.int .i64 (q0 : Int), .int .i64 (-1)] 75))) := by
    refine ⟨HB5.out.trans ((zF w5 _).mono HB5.out.size), ?_, fun k _ hk => Below.heap_alloc w5 _ k hk, by simp⟩
    refine (Below.heap_alloc w5 _ _ (zd HD15.out)).trans ?_
    rw [← HQ0.out]; exact HD15.out
   have HO0 : Hid (OwnR kSt (w5.alloc (.cells #[.int .i64 (q0 : Int), .int .i64 (-1)] 75)) w5.heap.size (.slice (some ⟨w5.heap.size, 0, none⟩) 1 1) 1 (xt [((q0 : Int), -1)])) := ownR_one (zh w5 _) (Nat.le_refl _)
   have HL0 : Hid ([((q0 : Int), (-1 : Int))] ++ kO (qv f PN (zL PS CLS) m0 q0) = yV f PN (zL PS CLS) q0) := by
    unfold yV
    rw [HDD.out, hm0]; rfl
   have hdm : f.getD q0 0 = (m0 : Int) := HDD.out.trans hm0
   have hmP : m0 ≤ PN := by
    have h9 := jU (f := fun i => f.getD i 0) HFAR.out.step hq1
    change f.getD q0 0 < (PN : Int) at h9
    omega
   have HTOT : Hid ((yV f PN (zL PS CLS) q0).length ≤ PN + 1) := by
    unfold yV kO
    rw [HDD.out, hm0, List.length_cons, List.length_map, jm, Int.toNat_natCast]
    show _ ≤ _
    omega
   refine wp_loop_ghost (fun (m : Nat) (a' : Act) (w' : World) => ∃ (ds : List Deferred) (v : Value) (p : Nat) (l : List (Int × Int)) (u16 u18 u19 u20 u21 u22 u23 u24 u25 u26 u27 u28 u29 u30 u31 u32 u33 u34 u35 u36 u37 u38 u39 u40 u41 u42 u43 u44 u45 u46 u47 u48 u49 u50 u51 u52 u53 u54 u55 u56 u57 u58 u79 u80 u81 u82 u83 u84 : Value), (p < PN ∧ Hid (f.getD p 0 = (m : Int)) ∧ Hid (WtIn w.heap.size w5.heap.size w5 p w w') ∧ Hid (OwnR kSt w' w5.heap.size v l.length (xt l)) ∧ Hid (l ++ kO (qv f PN (zL PS CLS) m p) = yV f PN (zL PS CLS) q0) ∧ Hid (Marks w.heap.size ds w')) ∧ a' = { tmps := #[.agg #[.int .i64 s.p.t.n, .int .i64 s.p.t.ins, .int .i64 s.p.t.outs, .slice A s.p.t.cases.length kc, .int .i64 s.p.a.n, .slice SV s.p.a.sts.length ks, .int .i64 s.p.k, .int .i64 s.n, .slice AV s.vs.length kv, .slice AX s.xs.length kx], .int .i64 g, .int .i64 (q0 : Int), .slice AB set.length kb, .pointer (some ⟨w.heap.size, 0, none⟩), undef, .pointer (some ⟨w.heap.size + 1, 0, none⟩), undef, .slice none 0 0, .bool false, .int .i64 0, .pointer (some ⟨w2.heap.size, 0, none⟩), .slice AO OL.length cO, .int .i64 0, .pointer (some ⟨w4.heap.size, 0, none⟩), v, u16, undef, u18, u19, u20, u21, u22, u23, u24, u25, u26, u27, u28, u29, u30, u31, u32, u33, u34, u35, u36, u37, u38, u39, u40, u41, u42, u43, u44, u45, u46, u47, u48, u49, u50, u51, u52, u53, u54, u55, u56, u57, u58, undef, undef, undef, undef, undef, undef, undef, undef, undef, undef, undef, undef, undef, undef, undef, undef, undef, undef, undef, undef, u79, u80, u81, u82, u83, u84, undef], defers := ds }) m0 ?_ ?_
   · exact ⟨[], _, q0, [((q0 : Int), -1)], _, _, _, _, _, _, _, _, _, _, _, _, _, _, _, _, _, _, _, _, _, _, _, _, _, _, _, _, _, _, _, _, _, _, _, _, _, _, _, _, _, _, _, _, _, _, _, _, ⟨hq1, hdm, HWT0, HO0, HL0, Marks.nil _ _⟩, rfl⟩
   clear HWT0 HO0 HL0 hdm hmP hm0 HDD hd0 y0 z0 q1 hq00 hq01 hq1 HD15 HQ0
   rintro m a' W ⟨ds, v, p, l, u16, u18, u19, u20, u21, u22, u23, u24, u25, u26, u27, u28, u29, u30, u31, u32, u33, u34, u35, u36, u37, u38, u39, u40, u41, u42, u43, u44, u45, u46, u47, u48, u49, u50, u51, u52, u53, u54, u55, u56, u57, u58, u79, u80, u81, u82, u83, u84, ⟨hpn, HM, HW, HO, HL, MK⟩, rfl⟩
   obtain ⟨AQ, cq, rfl, hle, hmx, _⟩ := HO.out.form
   have d1 := HW.out.pt
   obtain ⟨a1, a2, a3, a4, a5, a6⟩ := HSZ.out
   have d14 := (HW.out.old w4.heap.size (by omega) (by omega)).trans HD5.out
   have d11 := (HW.out.old w2.heap.size (by omega) (by omega)).trans HB11.out
   have hrow : RowAt W g4 f := (HW.out.old g4 (by omega) (by omega)).trans HROW.out
   have q1 := za d1 0 rfl
   have z0 := za d14 0 rfl
   have hpf : p < f.length := by rw [HL4.out]; exact hpn
   have y0 := hrow.cell p hpf
   rw [← zD hpf 0, HM.out] at y0
   have hp0 : (0 : Int) ≤ (p : Int) := by omega
   have hp1 : (p : Int) < (PN : Int) := by omega
   have hlen : l.length ≤ PN + 1 := by
    have h1 := HTOT.out
    rw [← HL.out, List.length_append] at h1
    omega
   cases m with
   | zero =>
    have hRl : l = yV f PN (zL PS CLS) q0 := by
     have := HL.out
     simpa [qv, kO] using this
    have HRL := zH hRl
    clear hRl HNB HNA HSTD d14 d11 hrow hpf d1
    go_wp2_with fail
    refine yR MK.out (v := .tuple #[.slice AQ l.length cq, .bool true, .int .i64 0]) (fun W => by kernel_rfl) ?_
    intro X hX
    rw [hR.out, ← HRL.out]
    refine ⟨AQ, cq, rfl, hle, hmx, ?_, HW.out.below.trans hX.below⟩
    refine TAt.of_own (K := kSt) (base := w5.heap.size) (n := l.length) (c := cq) (XQ HO.out fun k o h1 h2 => hX.same _ _ h1 h2) rfl
   | succ m =>
    have y0 : W.cell? ⟨g4, p, none⟩ = some (.int .i64 ((m : Int) + 1)) := y0
    have HX11 := zH d11
    have HX1 := zH d1
    have HBO := zH (best_ok HLN.out HAS.out HFAR.out hpn HM.out)
    have hWs := HW.out.size
    have c11 := za d11 0 rfl
    clear d14 d11 hrow d1 hle hmx hpf
    go_upto_region 12 with fail
    obtain ⟨W1, hW1, d16, hs16, hb16⟩ := zj W #[.int .i64 (PN : Int), .int .i64 0] 75
    rw [hW1]
    have d11 := (hb16.block _ (zd HX11.out)).trans HX11.out
    have d1 := (hb16.block _ (zd HX1.out)).trans HX1.out
    have x0 := za d11 0 rfl
    have x1 := za d11 1 rfl
    have x2 := za d11 2 rfl
    have x3 := za d11 3 rfl
    have r1 : W1.cell? ⟨w.heap.size + 1, 0, none⟩ = some (.int .i64 (p : Int)) := za d1 0 rfl
    have HW1 := zH (HW.out.on hb16 (by omega))
    have HO1 := zH (HO.out.below hb16 (Nat.le_refl _))
    have HVB : Hid (∀ z, (Value.slice AQ l.length cq).ownBlock = some z → w5.heap.size ≤ z ∧ z < W.heap.size) := HO.out.lt
    have HD16 := zH d16
    have MK1 : Hid (Marks w.heap.size ds W1) := xv (w := W) MK.out fun y hy => (hb16.block y (Array.getElem?_eq_some_iff.1 hy).1).trans hy
    clear hW1 d16 hb16 d11 d1 q1 z0 y0 HW HO MK HX11 HX1 c11
    go_wp2_with fail
    refine (HNA.out PN Ap PS.length kp bC bM (p : Int) W1).mono ?_
    rintro e W3 ⟨rfl, hW3⟩
    obtain ⟨V3, hV3, k0, k1, hs3, hB3⟩ := zW W1 #[.int .i64 (PN : Int), .slice Ap PS.length kp, .map (some bC), .map (some bM)] #[.int .i64 (p : Int)] 126 3
    rw [hW3] at hV3
    subst hV3
    have hs3' : W3.heap.size = W.heap.size + 1 + 2 := by rw [← hW3]; simp; omega
    rw [hs16] at k0 k1 ⊢
    have HW3 := zH (HW1.out.on hB3 (by omega))
    have HO3 := zH (HO1.out.below hB3 (Nat.le_refl _))
    have HD3 := zH ((hB3.block _ (zd HD16.out)).trans HD16.out)
    have MK3 : Hid (Marks w.heap.size ds W3) := xv (w := W1) MK1.out fun y hy => (hB3.block y (Array.getElem?_eq_some_iff.1 hy).1).trans hy
    have HIT := zH (HNB.out PN p (by omega) hpn Ap kp bC bM PS (by omega) CLS w5.heap.size (W.heap.size + 1) (W.heap.size + 1 + 1) W3 k0 k1 (HSTD.out W3 HW3.out.old) HW3.out.size)
    clear hW3 k0 k1 hs3 hB3 HD16 MK1 HW1 HO1 x0 x1 x2 x3 r1 HNB HNA hs16
    go_wp2_with fail
    refine qV rfl (enters_of Tryz.func131 (by kernel_rfl) rfl) HIT.out (by rintro x (h | rfl | rfl) <;> omega) (fun _ => rfl)
     (fun (pre : List { x : Nat × Nat // x ∈ zL PS CLS p }) (X : World) => WtIn w.heap.size w5.heap.size w5 p w X ∧ OwnR kSt X w5.heap.size (.slice AQ l.length cq) l.length (xt l) ∧ X.heap[W.heap.size]? = some (.cells #[.int .i64 (((yt f (m : Int) PN (pre.map (·.1))).1 : Nat) : Int), .int .i64 (((yt f (m : Int) PN (pre.map (·.1))).2 : Nat) : Int)] 75 (0, 0)) ∧ W3.heap.size ≤ X.heap.size ∧ (∀ y : Nat, W3.heap[y]? = some (Obj.deferred (some [])) → X.heap[y]? = some (Obj.deferred (some []))))
     (fun _ _ _ => False)
     ?hI (fun _ _ _ _ _ h _ _ => h)
     ⟨HW3.out, HO3.out, HD3.out, Nat.le_refl _, fun _ h => h⟩ (fun x => #[.int .i64 x.1, .int .i64 x.2]) 75 ?a1 ?assign ?body ?done ?stop (fun _ _ h => h.2.2.2.1)
    case hI =>
     rintro pre X X' row ⟨k1, k2, k3, k4, k5⟩ hg hr
     refine ⟨k1.turn hg (fun r e => by have := (hr r e).1; omega) (by omega), vO k2 fun z e => ?_, (grownBy_keeps_cells hg (fun r e => (hr r e).2) k3 rfl).trans k3, Nat.le_trans k4 hg.size, fun y hy => ?_⟩
     · have h2 := k2.lt z e
       exact hg.block z h2.2 (fun e2 => by have h3 := (hr z e2.symm).1; have h4 := (HVB.out z e).2; omega)
     · have hy2 := k5 y hy
       have hyl := (Array.getElem?_eq_some_iff.1 hy).1
       exact (hg.block y (by omega) (fun e => by have := (hr y e.symm).1; omega)).trans hy2
    case assign =>
     intro l9 pre x X K' hI hK
     obtain ⟨g', hg'⟩ : ∃ g', g' = X.heap.size := ⟨_, rfl⟩
     obtain ⟨k1, k2, k3, k4, k5⟩ := hI
     have HK := zH (hK g' hg' ⟨k1.on (zF X _) (by omega), k2.below (zF X _) (Nat.le_refl _), zY k3 _, by simp; omega, fun y hy => (Below.heap_alloc X _ y (Array.getElem?_eq_some_iff.1 (k5 y hy)).1).trans (k5 y hy)⟩)
     have HG := zH hg'
     clear hK hg' k1 k2 k3 k4 k5
     gi_wp2
     rw [← HG.out]
     exact HK.out
    case body =>
     rintro l9 pre x g9 W4 hg9 hgb ⟨k1, k2, k3, k4, k5⟩ hlt
     obtain ⟨t, ht⟩ : ∃ t, x.1.1 = t := ⟨_, rfl⟩
     obtain ⟨c, hc⟩ : ∃ c, x.1.2 = c := ⟨_, rfl⟩
     obtain ⟨hm1, _, _⟩ := (qC HLN.out).1 x.2
     rw [ht] at hm1 hgb
     rw [hc] at hgb
     have hbs : yt f (m : Int) PN ((pre ++ [x]).map (·.1)) = xK f (m : Int) (yt f (m : Int) PN (pre.map (·.1))) (t, c) := by
      rw [List.map_append, List.map_cons, List.map_nil, Qy, show x.1 = (t, c) from Prod.ext ht hc]
     have hble : (yt f (m : Int) PN (pre.map (·.1))).1 ≤ PN := Yd f _ PN _ _
     obtain ⟨bb, hbb⟩ : ∃ bb, yt f (m : Int) PN (pre.map (·.1)) = bb := ⟨_, rfl⟩
     rw [hbb] at hbs k3 hble
     have d14 := (k1.old w4.heap.size (by omega) (by omega)).trans HD5.out
     have hrow : RowAt W4 g4 f := (k1.old g4 (by omega) (by omega)).trans HROW.out
     have htf : t < f.length := by rw [HL4.out]; exact hm1
     have hpf : p < f.length := by rw [HL4.out]; exact hpn
     have u0 : W4.drew.cell? ⟨w4.heap.size, 0, none⟩ = some (.slice (some ⟨g4, 0, none⟩) PN PN) := za d14 0 rfl
     have u1 : W4.drew.cell? ⟨g9, 0, none⟩ = some (.int .i64 (t : Int)) := za hgb 0 rfl
     have u2 : W4.drew.cell? ⟨g4, t, none⟩ = some (.int .i64 (f.getD t 0)) := by rw [zD htf]; exact hrow.cell t htf
     have u3 : W4.drew.cell? ⟨w.heap.size + 1, 0, none⟩ = some (.int .i64 (p : Int)) := za k1.pt 0 rfl
     have u4 : W4.drew.cell? ⟨g4, p, none⟩ = some (.int .i64 ((m : Int) + 1)) := by
      have := hrow.cell p hpf
      rw [← zD hpf 0, HM.out] at this
      exact this
     have u5 : W4.drew.cell? ⟨W.heap.size, 0, none⟩ = some (.int .i64 (bb.1 : Int)) := za k3 0 rfl
     have hwr : IntKind.i64.wrap (m : Int) = (m : Int) := by
      have h9 := jU (f := fun i => f.getD i 0) HFAR.out.step hpn
      change f.getD p 0 < (PN : Int) at h9
      rw [HM.out] at h9
      rw [IntKind.wrap_i64]; omega
     have hft : Hid (∀ b : Nat × Nat, xK f (m : Int) b (t, c) = if f.getD t 0 = (m : Int) ∧ t < b.1 then (t, c) else b) := fun _ => rfl
     obtain ⟨ft, hft0⟩ : ∃ ft, f.getD t 0 = ft := ⟨_, rfl⟩
     rw [hft0] at u2 hft
     have ht0 : (0 : Int) ≤ (t : Int) := by omega
     have ht1 : (t : Int) < (PN : Int) := by omega
     have HBS := zH hbs
     have K1 := zH k1
     have K2 := zH k2
     have K3 := zH k3
     have K5 := zH k5
     have K4 := zH k4
     have HGB := zH hgb
     have hbelow : Hid (Below w5.heap.size W4 W4.drew) := (Below.refl _ W4).drew
     by_cases e1 : ft = (m : Int)
     · subst e1
       by_cases e2 : t < bb.1
       · have hnew : Hid (yt f (m : Int) PN ((pre ++ [x]).map (·.1)) = (t, c)) := HBS.out.trans ((hft.out bb).trans (if_pos ⟨rfl, e2⟩))
         have e3 : (t : Int) < (bb.1 : Int) := by omega
         have u6 : W4.drew.cell? ⟨g9, 1, none⟩ = some (.int .i64 (c : Int)) := za hgb 1 rfl
         have u7 : W4.drew.cell? ⟨W.heap.size, 1, none⟩ = some (.int .i64 (bb.2 : Int)) := za k3 1 rfl
         have f5 : W4.drew.frozen? ⟨W.heap.size, 0, none⟩ = false := zb k3 0
         have f7 : W4.drew.frozen? ⟨W.heap.size, 1, none⟩ = false := zb k3 1
         have l5 : W.heap.size < W4.drew.heap.size := zd k3
         clear k1 k2 k3 k5 hgb hbs hft d14 hrow htf hpf hft0 HBS hlt HIT HBO hm1
         gi_wp2_with fail
         refine xd [(0, true), (1, true), (2, true), (3, true), (4, true), (5, true), (6, true), (7, true), (8, true), (9, true), (10, true), (11, true), (12, true), (13, true), (14, true), (15, true), (16, true), (17, true)] (fun X => X = W4.drew) (by kernel_rfl) (by kernel_rfl) (by kernel_rfl) (by rintro ⟨_, _, h⟩; exact h) rfl ?_
         repeat
          apply zt rfl
          · rintro K' hK' X rfl
            go_simp
            exact hK'
         refine zG ?_
         have K3d : Hid (W4.drew.heap[W.heap.size]? = some (.cells #[.int .i64 (bb.1 : Int), .int .i64 (bb.2 : Int)] 75 (0, 0))) := K3.out
         have K1d := zH (K1.out.free hbelow.out (by omega))
         have K2d : Hid (OwnR kSt W4.drew w5.heap.size (.slice AQ l.length cq) l.length (xt l)) := K2.out
         have K5d : Hid (∀ y : Nat, W3.heap[y]? = some (Obj.deferred (some [])) → W4.drew.heap[y]? = some (Obj.deferred (some []))) := K5.out
         have s5 : Hid (W4.drew.heap.size = W4.heap.size) := rfl
         have o5 : Hid (∀ k : Nat, W4.drew.heap[k]? = W4.heap[k]?) := fun _ => rfl
         obtain ⟨W5, hW5⟩ : ∃ W5, W4.drew = W5 := ⟨_, rfl⟩
         rw [hW5] at u1 u5 u6 u7 f5 f7 l5 K3d K1d K2d K5d s5 o5 ⊢
         clear hW5 u0 u2 u3 u4 K1 K2 K5 hbelow
         gi_wp2_with fail
         obtain ⟨Wf, hWf, r1, r2, r3⟩ := set2 (w := W5) (g := W.heap.size) K3d.out (.int .i64 (t : Int)) (.int .i64 (c : Int))
         rw [hWf]
         have hsf : Wf.heap.size = W4.heap.size := by rw [← hWf, ← s5.out]; simp [World.setCell]
         refine ⟨⟨by omega, fun k o _ hk ho => (r2 k (by rintro rfl; rw [K3.out] at hk; cases hk; cases ho)).trans ((o5.out k).trans hk)⟩, ⟨by omega, fun k hk hl => (r2 k (by
          have hk' : k < w5.heap.size ∨ k = W.heap.size + 1 ∨ k = W.heap.size + 1 + 1 := hk
          omega)).trans (o5.out k)⟩, K1d.out.free (r3 _ (by omega)) (by omega), vO K2d.out fun z e => r2 z (by have := (HVB.out z e).2; omega), ?_, by omega, fun y hy => (r2 y (by rintro rfl; have h2 := K5d.out _ hy; rw [K3d.out] at h2; cases h2)).trans (K5d.out y hy)⟩
         rw [hnew.out]
         exact r1
       · have hnew : Hid (yt f (m : Int) PN ((pre ++ [x]).map (·.1)) = bb) := HBS.out.trans ((hft.out bb).trans (if_neg (fun h => e2 h.2)))
         have e3 : ¬ (t : Int) < (bb.1 : Int) := by omega
         clear k1 k2 k3 k5 hgb hbs hft d14 hrow htf hpf hft0 HBS hlt HIT HBO hm1
         gi_wp2_with fail
         refine xd [(0, true), (1, true), (2, true), (3, true), (4, true), (5, true), (6, true), (7, true), (8, true), (9, true), (10, true), (11, true), (12, true), (13, true), (14, true), (15, true), (16, true), (17, true)] (fun X => X = W4.drew) (by kernel_rfl) (by kernel_rfl) (by kernel_rfl) (by rintro ⟨_, _, h⟩; exact h) rfl ?_
         repeat
          apply zt rfl
          · rintro K' hK' X rfl
            go_simp
            exact hK'
         refine zG ?_
         gi_wp2_with fail
         refine ⟨⟨Nat.le_refl _, fun _ _ _ h _ => h⟩, ⟨Nat.le_refl _, fun _ _ _ => rfl⟩, K1.out.free hbelow.out (by omega), K2.out, ?_, K4.out, K5.out⟩
         rw [hnew.out]
         exact K3.out
     · have hnew : Hid (yt f (m : Int) PN ((pre ++ [x]).map (·.1)) = bb) := HBS.out.trans ((hft.out bb).trans (if_neg (fun h => e1 h.1)))
       have e3 : (ft == (m : Int)) = false := by simpa using e1
       clear k1 k2 k3 k5 hgb hbs hft d14 hrow htf hpf hft0 HBS hlt HIT HBO hm1
       gi_wp2_with fail
       refine xd [(0, true), (1, true), (2, true), (3, true), (4, true), (5, true), (6, true), (7, true), (8, true), (9, true), (10, true), (11, true), (12, true), (13, true), (14, true), (15, true), (16, true), (17, true)] (fun X => X = W4.drew) (by kernel_rfl) (by kernel_rfl) (by kernel_rfl) (by rintro ⟨_, _, h⟩; exact h) rfl ?_
       repeat
        apply zt rfl
        · rintro K' hK' X rfl
          go_simp
          exact hK'
       refine zG ?_
       gi_wp2_with fail
       refine ⟨⟨Nat.le_refl _, fun _ _ _ h _ => h⟩, ⟨Nat.le_refl _, fun _ _ _ => rfl⟩, K1.out.free hbelow.out (by omega), K2.out, ?_, K4.out, K5.out⟩
       rw [hnew.out]
       exact K3.out
    case done =>
     rintro D ys W4 hD hys ⟨k1, k2, k3, k4, k5⟩ hDk
     rw [hys] at k3
     obtain ⟨hbl1, hbl2⟩ := HBO.out
     have hHL := HL.out
     have hwk : qv f PN (zL PS CLS) (m + 1) p = yt f (m : Int) PN (zL PS CLS p) :: qv f PN (zL PS CLS) m (yt f (m : Int) PN (zL PS CLS p)).1 := rfl
     rw [hwk] at hHL
     obtain ⟨bb, hbb⟩ : ∃ bb, yt f (m : Int) PN (zL PS CLS p) = bb := ⟨_, rfl⟩
     rw [hbb] at k3 hbl1 hbl2 hHL
     have HL2 : Hid ((l ++ [((bb.1 : Int), (bb.2 : Int))]) ++ kO (qv f PN (zL PS CLS) m bb.1) = yV f PN (zL PS CLS) q0) := by
      show _ = _
      rw [← hHL, List.append_assoc]; rfl
     have MK4 : Hid (Marks w.heap.size ({ target := .collected D, args := #[] } :: ds) W4) := Marks.cons MK3.out (fun y hy => k5 y hy) HW3.out.below.size hD hDk
     have K1 := zH k1
     have K2 := zH k2
     have K3 := zH k3
     have HBL2 := zH hbl2
     have hb0 : (0 : Int) ≤ (bb.1 : Int) := by omega
     clear k1 k2 k3 k5 hys hHL hwk hbb HBO HIT hDk hbl2 HL MK3
     try dsimp only
     go_wp2_with fail
     refine zo [(0, true), (1, true), (4, true), (5, true), (2, false), (3, false), (6, false), (7, false)] (fun X => X.heap[W.heap.size]? = some (.cells #[.int .i64 (bb.1 : Int), .int .i64 (bb.2 : Int)] 75 (0, 0))) (by kernel_rfl) (by kernel_rfl) K3.out ?_
     repeat
      apply zt rfl
      · rintro K' hK' X u0
        have u1 : X.cell? ⟨W.heap.size, 0, none⟩ = some (.int .i64 (bb.1 : Int)) := za u0 0 rfl
        have u2 : X.cell? ⟨W.heap.size, 1, none⟩ = some (.int .i64 (bb.2 : Int)) := za u0 1 rfl
        clear u0
        go_simp
        exact hK'
     have hW4 := zd K3.out
     refine zB rfl ?_
     intro K' hK'
     go_simp
     obtain ⟨V1, hV1, e1, hz1, hv1⟩ := QQ W4 #[.int .i64 (bb.1 : Int), .int .i64 (bb.2 : Int)] 75
     rw [hV1]
     have n1 := (hv1.block _ hW4).trans K3.out
     refine hK' _ _ n1 ?_
     clear hK' K' hV1
     refine zB rfl ?_
     intro K' hK'
     rw [if_pos (by rfl)]
     have HOV1 := zH (K2.out.below hv1 (Nat.le_refl _))
     refine jl kSt_ok (.tmp 79) (.tmp 81) (by rfl) w5.heap.size (.slice AQ l.length cq) l.length (xt l) (by rfl) HOV1.out W4.heap.size #[.int .i64 (bb.1 : Int), .int .i64 (bb.2 : Int)] (by rfl) e1 rfl (by simp [Value.oneCell']) (by omega) (by omega) _ rfl ?_
     intro g' cap' V2 hr hg hat hlt2
     have n2 := (hg.block W.heap.size (by omega) (fun e => by have := (HVB.out _ e.symm).2; omega)).trans n1
     refine hK' _ _ n2 ?_
     clear hK' K'
     refine zB rfl ?_
     intro K' hK'
     go_simp
     refine hK' _ _ n2 ?_
     clear hK' K'
     have hBV : Below w5.heap.size W4 V2 := (hv1.mono (by omega)).grown hg (by omega) (fun k e => (HVB.out k e).1)
     have HWV := zH (K1.out.free hBV (by omega))
     have c1 : V2.cell? ⟨w.heap.size + 1, 0, none⟩ = some (.int .i64 (p : Int)) := za HWV.out.pt 0 rfl
     have fz1 := zb HWV.out.pt 0
     have lz1 := zd HWV.out.pt
     refine yZ rfl (by kernel_rfl) ?_
     intro K' hK'
     go_simp
     refine hK' (fun _ => True) _ _ trivial ?_
     refine zG ?_
     clear hK' K'
     have HWM := zH (HWV.out.move bb.1 (by omega))
     have HOM : Hid (OwnR kSt (V2.setCell ⟨w.heap.size + 1, 0, none⟩ (.int .i64 (bb.1 : Int))) w5.heap.size (.slice (some ⟨g', 0, none⟩) (l.length + 1) cap') (l ++ [((bb.1 : Int), (bb.2 : Int))]).length (xt (l ++ [((bb.1 : Int), (bb.2 : Int))]))) := by
      rw [Hid, vF, List.length_append, List.length_singleton]
      refine vO hr fun z e => Below.heap_setCell V2 ⟨w.heap.size + 1, 0, none⟩ _ z ?_
      have := (hr.lt z e).1
      show z ≠ w.heap.size + 1
      omega
     have MK5 : Hid (Marks w.heap.size ({ target := .collected D, args := #[] } :: ds) (V2.setCell ⟨w.heap.size + 1, 0, none⟩ (.int .i64 (bb.1 : Int)))) := xv (w := W4) MK4.out fun y hy => by
      have h1 := (hv1.block y (Array.getElem?_eq_some_iff.1 hy).1).trans hy
      have h2 := (hg.block y (by have := (Array.getElem?_eq_some_iff.1 hy).1; omega) (fun e => ownR_ne HOV1.out h1 e.symm)).trans h1
      refine (Below.heap_setCell V2 ⟨w.heap.size + 1, 0, none⟩ _ y (fun e => ?_)).trans h2
      have e' : y = w.heap.size + 1 := e
      rw [e', HWV.out.pt] at h2
      cases h2
     clear n1 n2 e1 hr hg hat hlt2 c1 fz1 lz1 HWV hBV HOV1 hv1 K1 K2 K3 MK4
     go_wp2_with fail
     exact ⟨m, Nat.lt_succ_self m, _, _, bb.1, l ++ [((bb.1 : Int), (bb.2 : Int))], _, _, _, _, _, _, _, _, _, _, _, _, _, _, _, _, _, _, _, _, _, _, _, _, _, _, _, _, _, _, _, _, _, _, _, _, _, _, _, _, _, _, _, _, _, _, _, _, ⟨hbl1, HBL2, HWM, HOM, HL2, MK5⟩, rfl⟩
    case stop =>
     intro D c pre X _ _ h
     exact h.elim
end
section
open Go.RowKit Go.Shelf
attribute [local go_sem] Oper.semAt_some
theorem contI_any (A : Option Addr) (cap : Nat) (xs : List Int) (x : Int) (w : World) (B : Nat) (hA : IAt w B A xs) (hl : xs.length ≤ 17592186044416) :
  Calls Tryz.prog 76 #[.slice A xs.length cap, .int .i64 x] w fun e w' => e = .returned (.bool (decide (x ∈ xs))) ∧ w' = w := by
 by_cases h0 : xs.length = 0
 · have e1 : xs = [] := List.eq_nil_of_length_eq_zero h0
   subst e1
   exact (Tryz.slices_Contains_int_empty A cap x w).mono fun e w' h => ⟨by simpa using h.1, h.2⟩
 · obtain ⟨b, o, rfl, hb, hc⟩ := hA (by omega)
   refine (Tryz.slices_Contains_int b o xs.length cap xs x w (Nat.le_refl _) (by omega) (fun j hj => ?_)).mono fun e w' h => ⟨?_, h.2⟩
   · rw [List.getD_eq_getElem?_getD, List.getElem?_eq_getElem hj]; exact hc j hj
   · rw [h.1, List.take_length]
     exact zg (by rw [Bool.eq_iff_iff]; simp)
theorem Ju (F : Nat → Int) (m k : Nat) (hm : 0 < m) : qd F m k = if F k ≠ 0 then F k else qd F (m - 1) (k + 1) := by
 obtain ⟨m, rfl⟩ : ∃ m', m = m' + 1 := ⟨m - 1, by omega⟩
 rfl
set_option maxRecDepth 100000 in
theorem wg (s : Sy) (hs : LowS s) (hf : xO s.p) (g : Int) (set : List Bool) (walk : List (Int × Int)) (A SV AV AX AB AT : Option Addr) (kc ks kv kx kb kt : Nat) (w : World) (hS : SyAt w w.heap.size A SV AV AX s) (hB0 : BAt w w.heap.size AB set) (hT0 : TAt w w.heap.size AT walk) (hsl : set.length ≤ 1000000) (htl : walk.length ≤ 1000000) :
  Calls Tryz.prog 31 #[.agg (s.vs_ A kc SV ks AV kv AX kx), .int .i64 g, .slice AB set.length kb, .slice AT walk.length kt] w fun e w' => e = .returned (.int .i64 (qX s g set walk)) ∧ Below w.heap.size w w' := by
 obtain ⟨w1, hw1, d0, hs1, hB⟩ := zj w (s.vs_ A kc SV ks AV kv AX kx) 35
 have HR := zH (kX s hs hf g set A SV AV AX AB kc ks kv kx kb w1 (hS.up hB) ((hB0.keep hB).more hB.size) hsl)
 have HF := zH (fun h => xU (s := s) (g := g) hf h)
 have HG := zH (fun h => xX (s := s) (g := g) (set := set) h)
 have HE0 : Hid (zC s g set ≠ 0 → qX s g set walk = zC s g set) := fun h => if_pos h
 have HE1 : Hid (zC s g set = 0 → walk.length = 0 → qX s g set walk = 16) := fun h h1 => by unfold qX; rw [if_neg (by simpa using h), if_pos h1]
 have HE2 : Hid (zC s g set = 0 → walk.length ≠ 0 → 65536 < walk.length → qX s g set walk = 5) := fun h h1 h2 => by unfold qX; rw [if_neg (by simpa using h), if_neg h1, if_pos h2]
 have HE3 : Hid (zC s g set = 0 → walk.length ≠ 0 → ¬ 65536 < walk.length → qX s g set walk = if qd (ZJ (ptn s) (psG s g) (zS s) walk) walk.length 0 ≠ 0 then qd (ZJ (ptn s) (psG s g) (zS s) walk) walk.length 0
   else if set.getD (walk.getD (walk.length - 1) (0, 0)).1.toNat false = true then 18 else 0) := fun h h1 h2 => by unfold qX; rw [if_neg (by simpa using h), if_neg h1, if_neg h2]
 unfold gI stC yS at HR
 unfold Sy.vs_ at hw1 d0 HR ⊢
 obtain ⟨r, hr⟩ : ∃ r, zC s g set = r := ⟨_, rfl⟩
 rw [hr] at HR HG HE0 HE1 HE2 HE3
 obtain ⟨R, hRR⟩ : ∃ R, qX s g set walk = R := ⟨_, rfl⟩
 rw [hRR] at HE0 HE1 HE2 HE3 ⊢
 have HW1 := zH hw1
 have HB := zH hB
 have HBB := zH hB0
 have HTT := zH hT0
 obtain ⟨p0, p1, p2, p3, p4, p5, p6, p7, p8, p9⟩ := zv d0
 clear hw1 d0 hB hS hr hRR hs hf hB0 hT0
 go_enter Tryz.func31, Tryz.ntmps31
 go_wp2_with fail
 rw [HW1.out]
 go_wp2_with fail
 refine HR.out.mono ?_
 rintro e w2 ⟨hb2, (⟨hne, rfl⟩ | ⟨h0, Ap, kp, bC, bM, AO, cO, rfl, hSO⟩)⟩
 · have HB2 := zH (HB.out.trans (hb2.mono (by omega)))
   have hR : Hid (R = r) := HE0.out hne
   have e0 : (r != 0) = true := by simpa using hne
   clear p0 p1 p2 p3 p4 p5 p6 p7 p8 p9 hb2 HR HW1 HF HE0 HE1 HE2 HE3 hne HG
   go_wp2_with fail
   obtain ⟨w3, hw3, d3, hs3, hB3⟩ := zj w2 #[.int .i64 0, .slice none 0 0, .map none, .map none] 126
   rw [hw3]
   go_wp2_with fail
   go_ret
   exact ⟨by rw [hR.out]; rfl, HB2.out.trans (hB3.mono HB2.out.size)⟩
 · have HB2 := zH (HB.out.trans (hb2.mono (by omega)))
   have HSO := zH hSO
   have hR1 : Hid (walk.length = 0 → R = 16) := HE1.out h0
   have hR2 : Hid (walk.length ≠ 0 → 65536 < walk.length → R = 5) := HE2.out h0
   have hR3 := zH (HE3.out h0)
   obtain ⟨g1, g2⟩ := HG.out h0
   obtain ⟨f1, f2, f3⟩ := HF.out g1
   have HLN : Hid (∀ p, (zS s p).length = ptn s) := fun p => gx s p
   subst h0
   obtain ⟨PN, hPN⟩ : ∃ PN, ptn s = PN := ⟨_, rfl⟩
   obtain ⟨PS, hPS⟩ : ∃ PS, psG s g = PS := ⟨_, rfl⟩
   obtain ⟨CLS, hCLS⟩ : ∃ CLS, zS s = CLS := ⟨_, rfl⟩
   rw [hPN, hPS, hCLS] at hR3 HSO
   rw [hPN, hCLS] at HLN
   rw [hPN] at f1 f2 g2
   rw [hPS] at f3
   have HPN := zH hPN
   have HPS := zH hPS
   have hb2s := hb2.size
   clear p0 p1 p2 p3 p4 p5 p6 p7 p8 p9 hb2 HR HW1 HF HE0 HE1 HE2 HE3 hPN hPS hCLS g1 HG hSO
   go_upto_region 2 with fail
   rw [HPN.out, HPS.out]
   obtain ⟨w3, hw3, d3, hs3, hB3⟩ := zj w2 #[.int .i64 (PN : Int), .slice Ap PS.length kp, .map (some bC), .map (some bM)] 126
   rw [hw3]
   have HX3 := zH d3
   have HB3 := zH (HB2.out.trans (hB3.mono HB2.out.size))
   have HST := zH ((HSO.out w3 fun k _ hk => hB3.block k hk).1.more hB3.size)
   clear hw3 d3 hB3 HB2 HPN HPS HSO
   by_cases hl0 : walk.length = 0
   · have hR : Hid (R = 16) := hR1.out hl0
     have e0 : ((walk.length : Int) == 0) = true := by rw [hl0]; rfl
     have e1 : (walk.length : Int) = 0 := by omega
     clear hR1 hR2 hR3
     go_wp2_with fail
     go_ret
     exact ⟨by rw [hR.out]; rfl, HB3.out⟩
   have e0 : ((walk.length : Int) == 0) = false := by rw [beq_eq_false_iff_ne]; omega
   have e1 : ¬ (walk.length : Int) = 0 := by omega
   by_cases hl1 : 65536 < walk.length
   · have hR : Hid (R = 5) := hR2.out hl0 hl1
     have e2 : (65536 : Int) < (walk.length : Int) := by omega
     clear hR1 hR2 hR3
     go_wp2_with fail
     go_ret
     exact ⟨by rw [hR.out]; rfl, HB3.out⟩
   have hR := zH (hR3.out hl0 hl1)
   have e2 : ¬ (65536 : Int) < (walk.length : Int) := by omega
   have HL0 := zH hl0
   have HVS : Hid (∀ i, ZJ PN PS CLS walk i = if (walk.getD i (0, 0)).1 < 0 ∨ (PN : Int) ≤ (walk.getD i (0, 0)).1 then 6 else if i = 0 then (if (walk.getD i (0, 0)).2 ≠ -1 then 3 else 0) else if (walk.getD i (0, 0)).2 ∉ zO PS then 2 else if (CLS (walk.getD i (0, 0)).2.toNat).getD (walk.getD i (0, 0)).1.toNat 0 ≠ (CLS (walk.getD i (0, 0)).2.toNat).getD (walk.getD (i - 1) (0, 0)).1.toNat 0 then 18 else 0) := fun _ => rfl
   obtain ⟨F, hF⟩ : ∃ F, ZJ PN PS CLS walk = F := ⟨_, rfl⟩
   rw [hF] at hR HVS
   clear hR1 hR2 hR3 hF hl0
   go_wp2_with fail
   clear e0 e1 e2
   go_loopw [36] (fun i wr => ∃ k : Nat, k ≤ walk.length ∧ i = .int .i64 (k : Int) ∧ Hid (qd F walk.length 0 = qd F (walk.length - k) k) ∧ Hid (∀ j, j < k → 0 ≤ (walk.getD j (0, 0)).1 ∧ (walk.getD j (0, 0)).1 < (PN : Int)) ∧ Hid (Below w3.heap.size w3 wr)) (fun i _ => walk.length - (intOf i).toNat)
   case atStart => exact ⟨0, by omega, rfl, rfl, fun j hj => absurd hj (by omega), Below.refl _ _⟩
   case round =>
    obtain ⟨k, hk, rfl, hsc, hpv, hb⟩ := hrel
    by_cases hlt : k < walk.length
    · obtain ⟨b, off, eA, hbl, z0, z1⟩ := (HTT.out.keep (HB3.out.trans (hb.out.mono HB3.out.size))).at_ k hlt
      subst eA
      have hsz := hb.out.size
      have hss := Ju F (walk.length - k) k (by omega)
      rw [show walk.length - k - 1 = walk.length - (k + 1) by omega] at hss
      have HSS := zH (hsc.out.trans hss)
      have hfk := HVS.out k
      have hgk : walk.getD k (0, 0) = walk[k] := by rw [List.getD_eq_getElem?_getD, List.getElem?_eq_getElem hlt]; rfl
      rw [hgk] at hfk
      obtain ⟨⟨y0, y1⟩, hy⟩ : ∃ y, walk[k] = y := ⟨_, rfl⟩
      rw [hy] at hfk z0 z1
      have hgk2 : walk.getD k (0, 0) = (y0, y1) := hgk.trans hy
      have HFK := zH hfk
      have HGK := zH hgk2
      have hk0 : (0 : Int) ≤ (k : Int) := by omega
      have hk1 : (k : Int) < (walk.length : Int) := by omega
      simp only at z0 z1
      clear hss hfk hgk hgk2 hy hsc
      go_upto_region 11 with fail
      obtain ⟨W1, hW1, d13, hs13, hb13⟩ := zj wr #[.int .i64 y0, .int .i64 y1] 75
      rw [hW1]
      have HB13 := zH (hb.out.trans (hb13.mono hsz))
      have d9 := (HB13.out.block _ (zd HX3.out)).trans HX3.out
      have x0 := za d9 0 rfl
      have t0 := za d13 0 rfl
      have t1 := za d13 1 rfl
      have HD13 := zH d13
      have HD9 := zH d9
      clear z0 z1 hW1 d13 d9 hb13
      by_cases hr0 : y0 < 0 ∨ (PN : Int) ≤ y0
      · have hfv : F k = 6 := HFK.out.trans (if_pos hr0)
        have hRv : Hid (R = 6) := by
         have h9 := HSS.out
         rw [hfv, if_pos (by decide)] at h9
         rw [Hid, hR.out, h9, if_pos (by decide)]
        clear hR HFK HSS hfv
        by_cases h1 : y0 < 0
        · go_wp2_with fail
          go_ret
          exact ⟨by rw [hRv.out]; rfl, HB3.out.trans (HB13.out.mono HB3.out.size)⟩
        · have h2 : (PN : Int) ≤ y0 := by omega
          go_wp2_with fail
          go_ret
          exact ⟨by rw [hRv.out]; rfl, HB3.out.trans (HB13.out.mono HB3.out.size)⟩
      have h1 : ¬ y0 < 0 := by omega
      have h2 : ¬ (PN : Int) ≤ y0 := by omega
      have HPV2 : Hid (∀ j, j < k + 1 → 0 ≤ (walk.getD j (0, 0)).1 ∧ (walk.getD j (0, 0)).1 < (PN : Int)) := fun j hj => by
       by_cases e : j = k
       · subst e
         rw [HGK.out]
         exact ⟨by show 0 ≤ y0; omega, by show y0 < _; omega⟩
       · exact hpv.out j (by omega)
      have hF1 : F k = if k = 0 then (if y1 ≠ -1 then 3 else 0) else if y1 ∉ zO PS then 2 else if (CLS y1.toNat).getD y0.toNat 0 ≠ (CLS y1.toNat).getD (walk.getD (k - 1) (0, 0)).1.toNat 0 then 18 else 0 := HFK.out.trans (if_neg hr0)
      by_cases hk00 : k = 0
      · subst hk00
        rw [if_pos rfl] at hF1
        by_cases hm : y1 = -1
        · subst hm
          have hfv : F 0 = 0 := hF1
          have HSC2 : Hid (qd F walk.length 0 = qd F (walk.length - (0 + 1)) (0 + 1)) := by
           have h9 := HSS.out
           rwa [hfv, if_neg (by simp)] at h9
          clear HFK HSS hF1 hfv
          go_wp2_with fail
          refine zo [(0, true), (1, true), (2, true), (3, true), (4, true), (5, true), (6, true), (7, true), (8, true), (9, true), (10, true), (11, true), (12, true), (13, true), (14, true), (15, true), (16, true), (17, true), (18, true), (19, true), (20, true), (21, true), (22, true), (23, true), (24, true), (25, true), (26, true), (27, true)] (fun X => X = W1.drew) (by kernel_rfl) (by kernel_rfl) rfl ?_
          repeat
           apply zt rfl
           · rintro K' hK' X rfl
             go_simp
             exact hK'
          refine zG ?_
          have HBd := zH (HB13.out.drew)
          obtain ⟨W5, hW5⟩ : ∃ W5, W1.drew = W5 := ⟨_, rfl⟩
          rw [hW5] at HBd ⊢
          clear hW5
          go_wp2_with fail
          go_roundw
          case rel => exact ⟨0 + 1, by omega, by go_num, HSC2, HPV2, HBd⟩
          case measure => simp [intOf]; omega
        · have hfv : F 0 = 3 := hF1.trans (if_pos hm)
          have hRv : Hid (R = 3) := by
           have h9 := HSS.out
           rw [hfv, if_pos (by decide)] at h9
           rw [Hid, hR.out, h9, if_pos (by decide)]
          have q1 : (y1 != -1) = true := by simpa using hm
          clear HFK HSS hF1 hfv hR
          go_wp2_with fail
          go_ret
          exact ⟨by rw [hRv.out]; rfl, HB3.out.trans (HB13.out.mono HB3.out.size)⟩
      · rw [if_neg hk00] at hF1
        have hkp : (0 : Int) < (k : Int) := by omega
        have hkz : ((k : Int) == 0) = false := by rw [beq_eq_false_iff_ne]; omega
        have hkz2 : ¬ (k : Int) = 0 := by omega
        have hstW := HST.out.keep HB13.out
        have hpc := contI_any Ap kp (zO PS) y1 W1 w3.heap.size hstW.procs (by rw [zw]; omega)
        rw [zw] at hpc
        have HPC := zH hpc
        have x1 := za HD9.out 1 rfl
        have HSTW := zH hstW
        have hp1 := hpv.out (k - 1) (by omega)
        obtain ⟨bt2, ot2, eT2, hbt2, zz0, zz1⟩ := (HTT.out.keep (HB3.out.trans (HB13.out.mono HB3.out.size))).at_ (k - 1) (by omega)
        have hgp : walk.getD (k - 1) (0, 0) = walk[k - 1] := by rw [List.getD_eq_getElem?_getD, List.getElem?_eq_getElem (by omega)]; rfl
        rw [hgp] at hF1 hp1
        obtain ⟨⟨v0, v1⟩, hv⟩ : ∃ v, walk[k - 1] = v := ⟨_, rfl⟩
        rw [hv] at hF1 hp1 zz0 zz1
        simp only at hF1 hp1 zz0 zz1
        cases eT2
        clear hstW hpc zz1 hgp hv
        by_cases hin : y1 ∈ zO PS
        case neg =>
         have hfv : F k = 2 := hF1.trans (if_pos hin)
         have hRv : Hid (R = 2) := by
          have h9 := HSS.out
          rw [hfv, if_pos (by decide)] at h9
          rw [Hid, hR.out, h9, if_pos (by decide)]
         have hdc : decide (y1 ∈ zO PS) = false := decide_eq_false hin
         rw [hdc] at HPC
         clear HFK HSS hF1 hfv hR hin hdc zz0 hp1
         go_wp2_with fail
         refine HPC.out.mono ?_
         rintro e W4 ⟨rfl, rfl⟩
         go_wp2_with fail
         go_ret
         exact ⟨by rw [hRv.out]; rfl, HB3.out.trans (HB13.out.mono HB3.out.size)⟩
        case pos =>
        have hdc : decide (y1 ∈ zO PS) = true := decide_eq_true hin
        rw [hdc] at HPC
        rw [if_neg (not_not_intro hin)] at hF1
        obtain ⟨p, hpm, hpe⟩ : ∃ p, p ∈ PS ∧ (p : Int) = y1 := by simpa [zO] using hin
        subst hpe
        obtain ⟨yn, rfl⟩ := Int.eq_ofNat_of_zero_le (show 0 ≤ y0 by omega)
        obtain ⟨vn, rfl⟩ := Int.eq_ofNat_of_zero_le hp1.1
        rw [Int.toNat_natCast, Int.toNat_natCast, Int.toNat_natCast] at hF1
        have hyl : yn < (CLS p).length := by rw [HLN.out]; omega
        have hvl : vn < (CLS p).length := by rw [HLN.out]; have := hp1.2; omega
        obtain ⟨m1, f1', hM1, hf1⟩ := HSTW.out.cl
        obtain ⟨A1, c1, e1, hI1⟩ := hf1 p hpm
        have hz3 : ∀ W : World, (zeroValue 38).run Tryz.prog W = .ok (.slice none 0 0) W := fun W => by kernel_rfl
        have ht1 : Tryz.prog.underlying 123 = some (.map 3 38) := Tryz.underlying123
        have hlk := (show MapOf (Value.int .i64) W1.drew bC m1 f1' from hM1).look kH ht1 (hz3 _) (p : Int)
        rw [e1] at hlk
        simp only [Option.getD_some] at hlk
        obtain ⟨bc1, oc1, eC1, hbc1, i1⟩ := hI1.at_ yn hyl
        obtain ⟨bc2, oc2, eC2, hbc2, i2⟩ := hI1.at_ vn hvl
        subst eC1
        cases eC2
        rw [← zD hyl 0] at i1
        rw [← zD hvl 0] at i2
        have j1 : W1.drew.cell? ⟨bc1, oc1 + yn, none⟩ = some (.int .i64 ((CLS p).getD yn 0)) := i1
        have j2 : W1.drew.cell? ⟨bc1, oc1 + vn, none⟩ = some (.int .i64 ((CLS p).getD vn 0)) := i2
        have j3 : W1.drew.cell? ⟨b, off + (k - 1) * 2, none⟩ = some (.int .i64 (vn : Int)) := zz0
        have j4 : W1.drew.cell? ⟨wr.heap.size, 0, none⟩ = some (.int .i64 (yn : Int)) := za HD13.out 0 rfl
        have j5 : W1.drew.cell? ⟨wr.heap.size, 1, none⟩ = some (.int .i64 (p : Int)) := za HD13.out 1 rfl
        have j6 : W1.drew.cell? ⟨w2.heap.size, 2, none⟩ = some (.map (some bC)) := za HD9.out 2 rfl
        obtain ⟨q, hq⟩ : ∃ q, (CLS p).getD yn 0 = q := ⟨_, rfl⟩
        obtain ⟨u, hu⟩ : ∃ u, (CLS p).getD vn 0 = u := ⟨_, rfl⟩
        rw [hq] at j1 hF1
        rw [hu] at j2 hF1
        have hwk : IntKind.i64.wrap ((k : Int) - 1) = (k : Int) - 1 := by rw [IntKind.wrap_i64]; omega
        have hk10 : (0 : Int) ≤ (k : Int) - 1 := by omega
        have hk12 : (1 : Int) ≤ (k : Int) := by omega
        have hk11 : (k : Int) - 1 < (walk.length : Int) := by omega
        have hkt : ((k : Int) - 1).toNat = k - 1 := by omega
        have hy00 : (0 : Int) ≤ (yn : Int) := by omega
        have hy01 : (yn : Int) < (PN : Int) := by omega
        have hv00 : (0 : Int) ≤ (vn : Int) := by omega
        have hv01 : (vn : Int) < (PN : Int) := by have := hp1.2; omega
        clear hM1 hf1 e1 hI1 hz3 ht1 i1 i2 zz0 hq hu hyl hvl hin hdc hp1
        by_cases hqu : q = u
        · subst hqu
          have hfv : F k = 0 := hF1.trans (if_neg (by simp))
          have HSC2 : Hid (qd F walk.length 0 = qd F (walk.length - (k + 1)) (k + 1)) := by
           have h9 := HSS.out
           rwa [hfv, if_neg (by simp)] at h9
          clear HFK HSS hF1 hfv
          go_wp2_with fail
          refine HPC.out.mono ?_
          rintro e W4 ⟨rfl, hW4⟩
          obtain rfl := hW4.symm
          go_wp2_with fail
          refine zo [(0, true), (1, true), (2, true), (3, true), (4, true), (5, true), (6, true), (7, true), (8, true), (9, true), (10, true), (11, true), (12, true), (13, true), (14, true), (15, true), (16, true), (17, true), (18, true), (19, true), (20, true), (21, true), (22, true), (23, true), (24, true), (25, true), (26, true), (27, true)] (fun X => X = W1.drew) (by kernel_rfl) (by kernel_rfl) rfl ?_
          repeat
           apply zt rfl
           · rintro K' hK' X rfl
             go_simp
             exact hK'
          refine zG ?_
          have HBd := zH (HB13.out.drew)
          obtain ⟨W5, hW5⟩ : ∃ W5, W1.drew = W5 := ⟨_, rfl⟩
          rw [hW5] at HBd ⊢
          clear j1 j2 j3 j4 j5 j6 hlk hW5
          go_wp2_with fail
          go_roundw
          case rel => exact ⟨k + 1, by omega, by go_num, HSC2, HPV2, HBd⟩
          case measure => simp [intOf]; omega
        · have hfv : F k = 18 := hF1.trans (if_pos hqu)
          have hRv : Hid (R = 18) := by
           have h9 := HSS.out
           rw [hfv, if_pos (by decide)] at h9
           rw [Hid, hR.out, h9, if_pos (by decide)]
          have q1 : (q != u) = true := by simpa using hqu
          clear HFK HSS hF1 hfv hR
          go_wp2_with fail
          refine HPC.out.mono ?_
          rintro e W4 ⟨rfl, hW4⟩
          obtain rfl := hW4.symm
          go_wp2_with fail
          refine zo [(0, true), (1, true), (2, true), (3, true), (4, true), (5, true), (6, true), (7, true), (8, true), (9, true), (10, true), (11, true), (12, true), (13, true), (14, true), (15, true), (16, true), (17, true), (18, true), (19, true), (20, true), (21, true), (22, true), (23, true), (24, true), (25, true), (26, true), (27, true)] (fun X => X = W1.drew) (by kernel_rfl) (by kernel_rfl) rfl ?_
          repeat
           apply zt rfl
           · rintro K' hK' X rfl
             go_simp
             exact hK'
          refine zG ?_
          have HBd := zH (HB13.out.drew)
          obtain ⟨W5, hW5⟩ : ∃ W5, W1.drew = W5 := ⟨_, rfl⟩
          rw [hW5] at HBd ⊢
          clear j1 j2 j3 j4 j5 j6 hlk hW5
          go_wp2_with fail
          go_ret
          exact ⟨by rw [hRv.out]; rfl, HB3.out.trans (HBd.out.mono HB3.out.size)⟩
    · obtain rfl : k = walk.length := by omega
      have hs0 : qd F walk.length 0 = 0 := by
       have h9 := hsc.out
       rw [Nat.sub_self] at h9
       exact h9
      have hRv : R = if set.getD (walk.getD (walk.length - 1) (0, 0)).1.toNat false = true then 18 else 0 := hR.out.trans (by rw [if_neg (by rw [hs0]; simp)])
      have hl0 := HL0.out
      have hp1 := hpv.out (walk.length - 1) (by omega)
      have hgp : walk.getD (walk.length - 1) (0, 0) = walk[walk.length - 1] := by rw [List.getD_eq_getElem?_getD, List.getElem?_eq_getElem (by omega)]; rfl
      obtain ⟨bt2, ot2, eT2, hbt2, zz0, zz1⟩ := (HTT.out.keep (HB3.out.trans (hb.out.mono HB3.out.size))).at_ (walk.length - 1) (by omega)
      rw [hgp] at hRv hp1
      obtain ⟨⟨v0, v1⟩, hv⟩ : ∃ v, walk[walk.length - 1] = v := ⟨_, rfl⟩
      rw [hv] at hRv hp1 zz0 zz1
      simp only at hRv hp1 zz0 zz1
      subst eT2
      obtain ⟨vn, rfl⟩ := Int.eq_ofNat_of_zero_le hp1.1
      rw [Int.toNat_natCast] at hRv
      have hvs : vn < set.length := by have := hp1.2; omega
      obtain ⟨bb1, ob1, eB1, hbb1, yb⟩ := (HBB.out.keep (HB3.out.trans (hb.out.mono HB3.out.size))).at_ vn hvs
      subst eB1
      have hgs : set.getD vn false = set[vn] := by rw [List.getD_eq_getElem?_getD, List.getElem?_eq_getElem hvs]; rfl
      rw [hgs] at hRv
      obtain ⟨bv, hbv⟩ : ∃ bv, set[vn] = bv := ⟨_, rfl⟩
      rw [hbv] at hRv yb
      have HRV := zH hRv
      have hk10 : (0 : Int) ≤ (walk.length : Int) - 1 := by omega
      have hk12 : (1 : Int) ≤ (walk.length : Int) := by omega
      have hk11 : (walk.length : Int) - 1 < (walk.length : Int) := by omega
      have hkt : ((walk.length : Int) - 1).toNat = walk.length - 1 := by omega
      have hv00 : (0 : Int) ≤ (vn : Int) := by omega
      have hv01 : (vn : Int) < (set.length : Int) := by omega
      have hv02 : (vn : Int) < (PN : Int) := hp1.2
      clear hRv hR hsc hpv hgp hv hgs hbv hs0 zz1 hp1 hlt
      cases bv with
      | true =>
       go_wp2_with fail
       go_ret
       exact ⟨by rw [HRV.out]; rfl, HB3.out.trans (hb.out.mono HB3.out.size)⟩
      | false =>
       go_wp2_with fail
       go_ret
       exact ⟨by rw [HRV.out]; rfl, HB3.out.trans (hb.out.mono HB3.out.size)⟩
end
section
open Go.RowKit
attribute [local go_sem] Oper.semAt_some
theorem YJ (a b : Int × Int) (w : World) : (binOp .neq 75 (.agg #[.int .i64 a.1, .int .i64 a.2]) (.agg #[.int .i64 b.1, .int .i64 b.2])).run Tryz.prog w = .ok (.bool (decide (a ≠ b))) w := by
 have hu : Tryz.prog.underlying 75 = some (.struct (Tryz.prog.fieldsOf 75)) := by kernel_rfl
 have hi : Tryz.prog.underlying 3 = some (.int .i64) := Tryz.underlying3
 have hf : (Tryz.prog.fieldsOf 75).toList.map (fun f => (f.name, f.type, f.offset)) = [("Point", 3, 0), ("Proc", 3, 1)] := by kernel_rfl
 have p0 := fun x0 x1 => zI #[x0, x1] 0 x0 rfl w
 have p1 := fun x0 x1 => zI #[x0, x1] 1 x1 rfl w
 have key : (Op.equalIn (9999 + 1) 75 (.agg #[.int .i64 a.1, .int .i64 a.2]) (.agg #[.int .i64 b.1, .int .i64 b.2])).run Tryz.prog w = .ok (decide (a = b)) w := by
  rw [run_equalIn_struct w 9999 75 _ _ hu (by kernel_rfl)]
  generalize (Tryz.prog.fieldsOf 75).toList = fs at hf
  obtain ⟨f0, f1, rfl⟩ : ∃ f0 f1, fs = [f0, f1] := by
   have hl : fs.length = 2 := by simpa using congrArg List.length hf
   rcases fs with _ | ⟨f0, _ | ⟨f1, _ | ⟨f2, r⟩⟩⟩ <;> simp at hl
   exact ⟨_, _, rfl⟩
  clear hu
  simp only [List.map_cons, List.map_nil, List.cons.injEq, Prod.mk.injEq, and_true] at hf
  obtain ⟨⟨n0, t0, o0⟩, ⟨n1, t1, o1⟩⟩ := hf
  have hd : decide (a = b) = (a.1 == b.1 && a.2 == b.2) := by
   obtain ⟨a0, a1⟩ := a
   obtain ⟨b0, b1⟩ := b
   rw [Bool.eq_iff_iff]; simp
  rw [hd]
  cases h0 : (a.1 == b.1) <;> cases h1 : (a.2 == b.2) <;>
   simp only [Op.eqFields, n0, n1, t0, t1, o0, o1, p0, p1, Sem.run_bind, Result.andThen_ok, run_equalIn_int w _ 3 _ _ _ _ hi, h0, h1, ne_eq, not_false_eq_true, if_true, Bool.not_false, Bool.not_true, Bool.false_eq_true, if_false, Sem.run_pure, Bool.true_and, Bool.false_and, String.reduceEq]
 simp only [binOp]
 simp [Op.equal, Op.maxDepth, key]
theorem Zk (a b : Int × Int) (w : World) : (binOp .neq 143 (.agg #[.int .i64 a.1, .int .i64 a.2]) (.agg #[.int .i64 b.1, .int .i64 b.2])).run Tryz.prog w = .ok (.bool (decide (a ≠ b))) w := by
 have hu : Tryz.prog.underlying 143 = some (.struct (Tryz.prog.fieldsOf 143)) := by kernel_rfl
 have hi : Tryz.prog.underlying 3 = some (.int .i64) := Tryz.underlying3
 have hf : (Tryz.prog.fieldsOf 143).toList.map (fun f => (f.name, f.type, f.offset)) = [("Point", 3, 0), ("Proc", 3, 1)] := by kernel_rfl
 have p0 := fun x0 x1 => zI #[x0, x1] 0 x0 rfl w
 have p1 := fun x0 x1 => zI #[x0, x1] 1 x1 rfl w
 have key : (Op.equalIn (9999 + 1) 143 (.agg #[.int .i64 a.1, .int .i64 a.2]) (.agg #[.int .i64 b.1, .int .i64 b.2])).run Tryz.prog w = .ok (decide (a = b)) w := by
  rw [run_equalIn_struct w 9999 143 _ _ hu (by kernel_rfl)]
  generalize (Tryz.prog.fieldsOf 143).toList = fs at hf
  obtain ⟨f0, f1, rfl⟩ : ∃ f0 f1, fs = [f0, f1] := by
   have hl : fs.length = 2 := by simpa using congrArg List.length hf
   rcases fs with _ | ⟨f0, _ | ⟨f1, _ | ⟨f2, r⟩⟩⟩ <;> simp at hl
   exact ⟨_, _, rfl⟩
  clear hu
  simp only [List.map_cons, List.map_nil, List.cons.injEq, Prod.mk.injEq, and_true] at hf
  obtain ⟨⟨n0, t0, o0⟩, ⟨n1, t1, o1⟩⟩ := hf
  have hd : decide (a = b) = (a.1 == b.1 && a.2 == b.2) := by
   obtain ⟨a0, a1⟩ := a
   obtain ⟨b0, b1⟩ := b
   rw [Bool.eq_iff_iff]; simp
  rw [hd]
  cases h0 : (a.1 == b.1) <;> cases h1 : (a.2 == b.2) <;>
   simp only [Op.eqFields, n0, n1, t0, t1, o0, o1, p0, p1, Sem.run_bind, Result.andThen_ok, run_equalIn_int w _ 3 _ _ _ _ hi, h0, h1, ne_eq, not_false_eq_true, if_true, Bool.not_false, Bool.not_true, Bool.false_eq_true, if_false, Sem.run_pure, Bool.true_and, Bool.false_and, String.reduceEq]
 simp only [binOp]
 simp [Op.equal, Op.maxDepth, key]
set_option maxRecDepth 100000 in
theorem eqB_any (A A' : Option Addr) (cap cap' : Nat) (vs us : List Bool) (w : World) (B : Nat) (hB : B ≤ w.heap.size) (hA : BAt w B A vs) (hA' : BAt w B A' us) (hl : vs.length ≤ 1000000) (hl' : us.length ≤ 1000000) :
  Calls Tryz.prog 60 #[.slice A vs.length cap, .slice A' us.length cap'] w fun e w' => e = .returned (.bool (decide (vs = us))) ∧ ∃ n, w' = w.drewN n := by
 by_cases hll : vs.length = us.length
 · have HL := zH hll
   have hl1 : ((vs.length : Int) != (us.length : Int)) = false := by simp [hll]
   clear hll
   go_enter Tryz.func60, Tryz.ntmps60
   go_wp2_with fail
   go_loopw [13] (fun i wr => ∃ k m : Nat, k ≤ vs.length ∧ i = .int .i64 k ∧ wr = w.drewN m ∧ Hid (vs.take k = us.take k)) (fun i _ => vs.length - (intOf i).toNat)
   case atStart => exact ⟨0, 0, by omega, rfl, rfl, by show vs.take 0 = us.take 0; simp⟩
   case round =>
    obtain ⟨k, m, hk, rfl, rfl, hall⟩ := hrel
    have hle : k ≤ us.length := by have := HL.out; omega
    by_cases hlt : k < vs.length
    · have hlt' : k < us.length := by have := HL.out; omega
      obtain ⟨b, off, rfl, hb1, c0⟩ := hA.at_ k hlt
      have hb2 : b < w.heap.size := by omega
      obtain ⟨b', off', rfl, hb1', d0⟩ := hA'.at_ k hlt'
      have hb2' : b' < w.heap.size := by omega
      clear hA hA'
      by_cases hv : vs[k] = us[k]
      · have hz : Hid (vs.take (k + 1) = us.take (k + 1)) := qp hlt hlt' hall.out hv
        obtain ⟨x, hx⟩ : ∃ x, vs[k] = x := ⟨_, rfl⟩
        obtain ⟨y, hy⟩ : ∃ y, us[k] = y := ⟨_, rfl⟩
        rw [hx] at c0 hv
        rw [hy] at d0 hv
        subst hv
        clear hx hy
        have q1 : (x != x) = false := by simp
        have q2 : (x == x) = true := by simp
        go_wp2_with fail
        go_quiet (fail)
        go_wp2_with fail
        go_roundw
        case rel => exact ⟨k + 1, _, by omega, by go_num, rfl, hz⟩
        case measure => simp [intOf]; omega
      · have hz : Hid (decide (vs = us) = false) := decide_eq_false (yY hlt hlt' hv)
        obtain ⟨x, hx⟩ : ∃ x, vs[k] = x := ⟨_, rfl⟩
        obtain ⟨y, hy⟩ : ∃ y, us[k] = y := ⟨_, rfl⟩
        rw [hx] at c0 hv
        rw [hy] at d0 hv
        have q1 : (x != y) = true := by simpa using hv
        have q2 : (x == y) = false := by simpa using hv
        clear hx hy hv
        go_wp2_with fail
        go_quiet (fail)
        go_wp2_with fail
        go_ret
        exact ⟨zg hz.out.symm, _, qH _ _ _⟩
    · obtain rfl : k = vs.length := by omega
      have hz : Hid (decide (vs = us) = true) := decide_eq_true (xa HL.out hall.out)
      go_wp2_with fail
      go_ret
      exact ⟨zg hz.out.symm, _, rfl⟩
 · have hz : Hid (decide (vs = us) = false) := decide_eq_false (by rintro rfl; exact hll rfl)
   have hl1 : ((vs.length : Int) != (us.length : Int)) = true := by simp; omega
   clear hll
   go_enter Tryz.func60, Tryz.ntmps60
   go_wp2_with fail
   go_ret
   exact ⟨zg hz.out.symm, 0, rfl⟩
set_option maxRecDepth 100000 in
theorem eqT_any (A A' : Option Addr) (cap cap' : Nat) (vs us : List (Int × Int)) (w : World) (B : Nat) (hB : B ≤ w.heap.size) (hA : TAt w B A vs) (hA' : TAt w B A' us) (hl : vs.length ≤ 1000000) (hl' : us.length ≤ 1000000) :
  Calls Tryz.prog 64 #[.slice A vs.length cap, .slice A' us.length cap'] w fun e w' => e = .returned (.bool (decide (vs = us))) ∧ ∃ n, w' = w.drewN n := by
 by_cases hll : vs.length = us.length
 · have HL := zH hll
   have hl1 : ((vs.length : Int) != (us.length : Int)) = false := by simp [hll]
   clear hll
   go_enter Tryz.func64, Tryz.ntmps64
   go_wp2_with fail
   go_loopw [13] (fun i wr => ∃ k m : Nat, k ≤ vs.length ∧ i = .int .i64 k ∧ wr = w.drewN m ∧ Hid (vs.take k = us.take k)) (fun i _ => vs.length - (intOf i).toNat)
   case atStart => exact ⟨0, 0, by omega, rfl, rfl, by show vs.take 0 = us.take 0; simp⟩
   case round =>
    obtain ⟨k, m, hk, rfl, rfl, hall⟩ := hrel
    have hle : k ≤ us.length := by have := HL.out; omega
    by_cases hlt : k < vs.length
    · have hlt' : k < us.length := by have := HL.out; omega
      obtain ⟨b, off, rfl, hb1, c0, c1⟩ := hA.at_ k hlt
      have hb2 : b < w.heap.size := by omega
      obtain ⟨b', off', rfl, hb1', d0, d1⟩ := hA'.at_ k hlt'
      have hb2' : b' < w.heap.size := by omega
      clear hA hA'
      by_cases hv : vs[k] = us[k]
      · have hz : Hid (vs.take (k + 1) = us.take (k + 1)) := qp hlt hlt' hall.out hv
        have heq := fun X : World => YJ vs[k] us[k] X
        rw [← hv] at d0 d1 heq
        rw [decide_eq_false (by simp)] at heq
        obtain ⟨⟨x0, x1⟩, hx⟩ : ∃ x, vs[k] = x := ⟨_, rfl⟩
        rw [hx] at c0 c1 d0 d1 heq
        clear hx hv
        go_wp2_with fail
        go_quiet (fail)
        go_wp2_with fail
        go_roundw
        case rel => exact ⟨k + 1, _, by omega, by go_num, rfl, hz⟩
        case measure => simp [intOf]; omega
      · have hz : Hid (decide (vs = us) = false) := decide_eq_false (yY hlt hlt' hv)
        have heq := fun X : World => YJ vs[k] us[k] X
        rw [decide_eq_true hv] at heq
        obtain ⟨⟨x0, x1⟩, hx⟩ : ∃ x, vs[k] = x := ⟨_, rfl⟩
        obtain ⟨⟨y0, y1⟩, hy⟩ : ∃ y, us[k] = y := ⟨_, rfl⟩
        rw [hx] at c0 c1 heq
        rw [hy] at d0 d1 heq
        clear hx hy hv
        go_wp2_with fail
        go_quiet (fail)
        go_wp2_with fail
        go_ret
        exact ⟨zg hz.out.symm, _, qH _ _ _⟩
    · obtain rfl : k = vs.length := by omega
      have hz : Hid (decide (vs = us) = true) := decide_eq_true (xa HL.out hall.out)
      go_wp2_with fail
      go_ret
      exact ⟨zg hz.out.symm, _, rfl⟩
 · have hz : Hid (decide (vs = us) = false) := decide_eq_false (by rintro rfl; exact hll rfl)
   have hl1 : ((vs.length : Int) != (us.length : Int)) = true := by simp; omega
   clear hll
   go_enter Tryz.func64, Tryz.ntmps64
   go_wp2_with fail
   go_ret
   exact ⟨zg hz.out.symm, 0, rfl⟩
set_option maxRecDepth 100000 in
theorem gM (A A' : Option Addr) (cap cap' : Nat) (vs us : List (Int × Int)) (w : World) (B : Nat) (hB : B ≤ w.heap.size) (hA : TAt w B A vs) (hA' : TAt w B A' us) (hl : vs.length ≤ 1000000) (hl' : us.length ≤ 1000000) :
  Calls Tryz.prog 29 #[.slice A vs.length cap, .slice A' us.length cap'] w fun e w' => e = .returned (.bool (decide (vs = us))) ∧ ∃ n, w' = w.drewN n := by
 by_cases hll : vs.length = us.length
 · have HL := zH hll
   have hl1 : ((vs.length : Int) != (us.length : Int)) = false := by simp [hll]
   clear hll
   go_enter Tryz.func29, Tryz.ntmps29
   go_wp2_with fail
   go_loopw [5] (fun i wr => ∃ k m : Nat, k ≤ vs.length ∧ i = .int .i64 k ∧ wr = w.drewN m ∧ Hid (vs.take k = us.take k)) (fun i _ => vs.length - (intOf i).toNat)
   case atStart => exact ⟨0, 0, by omega, rfl, rfl, by show vs.take 0 = us.take 0; simp⟩
   case round =>
    obtain ⟨k, m, hk, rfl, rfl, hall⟩ := hrel
    have hle : k ≤ us.length := by have := HL.out; omega
    by_cases hlt : k < vs.length
    · have hlt' : k < us.length := by have := HL.out; omega
      obtain ⟨b, off, rfl, hb1, c0, c1⟩ := hA.at_ k hlt
      have hb2 : b < w.heap.size := by omega
      obtain ⟨b', off', rfl, hb1', d0, d1⟩ := hA'.at_ k hlt'
      have hb2' : b' < w.heap.size := by omega
      clear hA hA'
      by_cases hv : vs[k] = us[k]
      · have hz : Hid (vs.take (k + 1) = us.take (k + 1)) := qp hlt hlt' hall.out hv
        have heq := fun X : World => Zk vs[k] us[k] X
        rw [← hv] at d0 d1 heq
        rw [decide_eq_false (by simp)] at heq
        obtain ⟨⟨x0, x1⟩, hx⟩ : ∃ x, vs[k] = x := ⟨_, rfl⟩
        rw [hx] at c0 c1 d0 d1 heq
        clear hx hv
        go_wp2_with fail
        go_quiet (fail)
        go_wp2_with fail
        go_roundw
        case rel => exact ⟨k + 1, _, by omega, by go_num, rfl, hz⟩
        case measure => simp [intOf]; omega
      · have hz : Hid (decide (vs = us) = false) := decide_eq_false (yY hlt hlt' hv)
        have heq := fun X : World => Zk vs[k] us[k] X
        rw [decide_eq_true hv] at heq
        obtain ⟨⟨x0, x1⟩, hx⟩ : ∃ x, vs[k] = x := ⟨_, rfl⟩
        obtain ⟨⟨y0, y1⟩, hy⟩ : ∃ y, us[k] = y := ⟨_, rfl⟩
        rw [hx] at c0 c1 heq
        rw [hy] at d0 d1 heq
        clear hx hy hv
        go_wp2_with fail
        go_quiet (fail)
        go_wp2_with fail
        go_ret
        exact ⟨zg hz.out.symm, _, qH _ _ _⟩
    · obtain rfl : k = vs.length := by omega
      have hz : Hid (decide (vs = us) = true) := decide_eq_true (xa HL.out hall.out)
      go_wp2_with fail
      go_ret
      exact ⟨zg hz.out.symm, _, rfl⟩
 · have hz : Hid (decide (vs = us) = false) := decide_eq_false (by rintro rfl; exact hll rfl)
   have hl1 : ((vs.length : Int) != (us.length : Int)) = true := by simp; omega
   clear hll
   go_enter Tryz.func29, Tryz.ntmps29
   go_wp2_with fail
   go_ret
   exact ⟨zg hz.out.symm, 0, rfl⟩
end
section
open Go.RowKit
attribute [local go_sem] Oper.semAt_some
theorem bidx_any (A : Option Addr) (c : Nat) (bs : List Bool) (hl : bs.length ≤ 1000000) (w : World) (B : Nat) (hA : BAt w B A bs) :
  Calls Tryz.prog 126 #[.slice A bs.length c, .bool true] w fun e w' => ∃ i : Int, e = .returned (.int .i64 i) ∧ (decide (0 ≤ i) = decide (true ∈ bs)) ∧ w = w' := by
 have HA := zH hA
 clear hA
 go_enter Tryz.func126, Tryz.ntmps126
 go_wp2_with fail
 go_loop [8] (fun i => ∃ k : Nat, k ≤ bs.length ∧ i = .int .i64 (k : Int) ∧ Hid (∀ j (h : j < bs.length), j < k → bs[j] = false)) (fun i => bs.length - (intOf i).toNat)
 case atStart => exact ⟨0, by omega, rfl, fun j _ h => absurd h (by omega)⟩
 case round =>
  obtain ⟨k, hk, rfl, hno⟩ := hrel
  by_cases hlt : k < bs.length
  · obtain ⟨b, off, eA, hbl, z0⟩ := HA.out.at_ k hlt
    subst eA
    obtain ⟨x, hx⟩ : ∃ x, bs[k] = x := ⟨_, rfl⟩
    have HX := zH hx
    rw [hx] at z0
    have hk0 : (0 : Int) ≤ (k : Int) := by omega
    have hk1 : (k : Int) < (bs.length : Int) := by omega
    clear hx
    cases x with
    | true =>
     have hin : Hid (true ∈ bs) := by show true ∈ bs; rw [← HX.out]; exact List.getElem_mem hlt
     go_wp2_with fail
     go_ret
     exact ⟨(k : Int), rfl, ⟨fun _ => hin.out, fun _ => hk0⟩, rfl⟩
    | false =>
     have hno2 : Hid (∀ j (h : j < bs.length), j < k + 1 → bs[j] = false) := fun j h h2 => by
      by_cases e : j = k
      · subst e; exact HX.out
      · exact hno.out j h (by omega)
     clear HX hno
     go_wp2_with fail
     go_round
     case rel => exact ⟨k + 1, by omega, by go_num, hno2⟩
     case measure => simp [intOf]; omega
  · obtain rfl : k = bs.length := by omega
    have hni : Hid (true ∉ bs) := fun h => by
     obtain ⟨j, hj, e⟩ := List.getElem_of_mem h
     rw [hno.out j hj hj] at e
     cases e
    go_wp2_with fail
    go_ret
    exact ⟨-1, rfl, ⟨fun h => absurd h (by decide), fun h => absurd h hni.out⟩, rfl⟩
theorem bhas_any (A : Option Addr) (c : Nat) (bs : List Bool) (hl : bs.length ≤ 1000000) (w : World) (B : Nat) (hA : BAt w B A bs) :
  Calls Tryz.prog 63 #[.slice A bs.length c, .bool true] w fun e w' => e = .returned (.bool (decide (true ∈ bs))) ∧ w = w' := by
 have hc := bidx_any A c bs hl w B hA
 obtain ⟨r, hr⟩ : ∃ r, decide (true ∈ bs) = r := ⟨_, rfl⟩
 rw [hr] at hc ⊢
 have HC := zH hc
 clear hc hA hr
 go_enter Tryz.func63, Tryz.ntmps63
 go_wp2_with fail
 refine HC.out.mono ?_
 rintro e w' ⟨i, rfl, hi, hw⟩
 have HI := zH hi
 have HW := zH hw
 clear hi HC hw
 go_wp2_with fail
 go_ret
 exact ⟨zg HI.out, HW.out⟩
theorem tat_take {w : World} {B : Nat} {A : Option Addr} {ts : List (Int × Int)} (h : TAt w B A ts) (k : Nat) : TAt w B A (ts.take k) := fun h0 => by
 have h1 : 0 < ts.length := by simp at h0; omega
 obtain ⟨b, off, e, hlt, hc⟩ := h h1
 refine ⟨b, off, e, hlt, fun i hi => ?_⟩
 rw [List.getElem_take]
 exact hc i (by simp at hi; omega)
set_option maxRecDepth 100000 in
theorem jk (w : World) : Calls Tryz.prog 18 #[] w fun e w' => e = .returned (.bool true) ∧ Below w.heap.size w w' := by
 go_enter Tryz.func18, Tryz.ntmps18
 go_wp2_with fail
 refine (gW w).mono ?_
 rintro e w1 ⟨A, kc, SV, ks, AV, kv, AX, kx, rfl, hS, hb1⟩
 have HB1 := zH hb1
 have CC := zH (fun (X : World) (h : SyAt X X.heap.size A SV AV AX yc) => gq yc kI qF 3 A SV AV AX kc ks kv kx X h)
 have CH3 := zH (fun (AB : Option Addr) (kb : Nat) (X : World) (h : SyAt X X.heap.size A SV AV AX yc) (h2 : BAt X X.heap.size AB yl) => Y0 yc kI qF 3 yl A SV AV AX AB kc ks kv kx kb X h h2 (by decide))
 have CH2 := zH (fun (AB : Option Addr) (kb : Nat) (X : World) (h : SyAt X X.heap.size A SV AV AX yc) (h2 : BAt X X.heap.size AB yl) => Y0 yc kI qF 2 yl A SV AV AX AB kc ks kv kx kb X h h2 (by decide))
 have CW := zH (fun (AB : Option Addr) (kb : Nat) (X : World) (h : SyAt X X.heap.size A SV AV AX yc) (h2 : BAt X X.heap.size AB yl) => un yc kI qF 3 7 yl A SV AV AX AB kc ks kv kx kb X h h2 (by decide))
 have CR := zH (fun (AB : Option Addr) (kb : Nat) (X : World) (h : SyAt X X.heap.size A SV AV AX yc) (h2 : BAt X X.heap.size AB yl) => wJ yc kI qF 3 yl A SV AV AX AB kc ks kv kx kb X h h2 (by decide))
 have CV := zH (fun (AB AT : Option Addr) (kb kt : Nat) (X : World) (h : SyAt X X.heap.size A SV AV AX yc) (h2 : BAt X X.heap.size AB yl) (h3 : TAt X X.heap.size AT qG) => wg yc kI qF 3 yl qG A SV AV AX AB AT kc ks kv kx kb kt X h h2 h3 (by decide) (by decide))
 have CV2 := zH (fun (AB AT : Option Addr) (kb kt : Nat) (X : World) (h : SyAt X X.heap.size A SV AV AX yc) (h2 : BAt X X.heap.size AB yl) (h3 : TAt X X.heap.size AT (qG.take 2)) => wg yc kI qF 3 yl (qG.take 2) A SV AV AX AB AT kc ks kv kx kb kt X h h2 h3 (by decide) (by decide))
 rw [exs_comp] at CC
 rw [exs_held3] at CH3
 rw [exs_held2] at CH2
 rw [exs_wit] at CW
 rw [exs_rad] at CR
 rw [exs_verw] at CV
 rw [exs_verw2] at CV2
 obtain ⟨T, hT⟩ : ∃ T, yc = T := ⟨_, rfl⟩
 rw [hT] at hS CC CH3 CH2 CW CR CV CV2 ⊢
 unfold RetIA at CC CR
 unfold RetBA at CH3 CH2
 unfold Jg at CW
 have l8 : yl.length = 8 := rfl
 have lc : kJ.length = 8 := rfl
 have lw : qG.length = 3 := rfl
 have lt : (qG.take 2).length = 2 := rfl
 have lf : qT.length = 8 := rfl
 simp only [lc, l8, lw, lt, lf, List.length_replicate] at CC CH3 CH2 CW CR CV CV2
 unfold Sy.vs_ at CC CH3 CH2 CW CR CV CV2 ⊢
 clear hT hb1 l8 lc lw lt lf
 go_upto_region 2 with fail
 obtain ⟨w2, hw2, d2, hs2, hb2⟩ := zj w1 #[.int .i64 T.p.t.n, .int .i64 T.p.t.ins, .int .i64 T.p.t.outs, .slice A T.p.t.cases.length kc, .int .i64 T.p.a.n, .slice SV T.p.a.sts.length ks, .int .i64 T.p.k, .int .i64 T.n, .slice AV T.vs.length kv, .slice AX T.xs.length kx] 35
 rw [hw2]
 have HS2 := zH (hS.up hb2)
 have HB2 := zH (HB1.out.trans (hb2.mono HB1.out.size))
 have HD2 := zH d2
 clear hw2 d2 hb2 hS
 go_upto_region 5 with fail
 obtain ⟨w3, hw3, d3, hs3, hb3⟩ := zj w2 #[.bool false, .bool false, .bool false, .bool false, .bool true, .bool true, .bool true, .bool true] 4
 rw [hw3]
 have HDB : Hid (∀ X, Below w3.heap.size w3 X → X.heap[w1.heap.size]? = some (.cells #[.int .i64 T.p.t.n, .int .i64 T.p.t.ins, .int .i64 T.p.t.outs, .slice A T.p.t.cases.length kc, .int .i64 T.p.a.n, .slice SV T.p.a.sts.length ks, .int .i64 T.p.k, .int .i64 T.n, .slice AV T.vs.length kv, .slice AX T.xs.length kx] 35 (0, 0))) := fun X hX => (hX.block _ (by omega)).trans ((hb3.block _ (by omega)).trans HD2.out)
 have HSB : Hid (∀ X, Below w3.heap.size w3 X → SyAt X X.heap.size A SV AV AX T) := fun X hX => (HS2.out.up hb3).up hX
 have hbr : BRow w3 (w1.heap.size + 1) yl := by rw [← hs2]; exact d3
 have HBB : Hid (∀ X, Below w3.heap.size w3 X → BAt X X.heap.size (some ⟨w1.heap.size + 1, 0, none⟩) yl) := fun X hX => ((hbr.at_ hbr.lt).keep hX).more hX.size
 have HB3 := zH (HB2.out.trans (hb3.mono HB2.out.size))
 have G3 : Hid (Below w3.heap.size w3 w3) := Below.refl _ _
 clear hw3 d3 hb3 hbr HS2 HD2
 obtain ⟨p0, p1, p2, p3, p4, p5, p6, p7, p8, p9⟩ := zv (HDB.out _ G3.out)
 go_wp2_with fail
 refine (CC.out w3 (HSB.out _ G3.out)).mono ?_
 rintro e w4 ⟨A4, c4, rfl, hr4, hb4⟩
 have G4 := zH (G3.out.trans (hb4.mono G3.out.size))
 have R4 := zH hr4
 clear p0 p1 p2 p3 p4 p5 p6 p7 p8 p9 hb4 hr4 G3 CC
 obtain ⟨p0, p1, p2, p3, p4, p5, p6, p7, p8, p9⟩ := zv (HDB.out _ G4.out)
 go_wp2_with fail
 refine (CH3.out (some ⟨w1.heap.size + 1, 0, none⟩) 8 w4 (HSB.out _ G4.out) (HBB.out _ G4.out)).mono ?_
 rintro e w5 ⟨A5, c5, rfl, hr5, hb5⟩
 have G5 := zH (G4.out.trans (hb5.mono G4.out.size))
 have R5 := zH hr5
 have B45 := zH hb5
 clear p0 p1 p2 p3 p4 p5 p6 p7 p8 p9 hb5 hr5 CH3
 obtain ⟨p0, p1, p2, p3, p4, p5, p6, p7, p8, p9⟩ := zv (HDB.out _ G5.out)
 go_wp2_with fail
 refine (CH2.out (some ⟨w1.heap.size + 1, 0, none⟩) 8 w5 (HSB.out _ G5.out) (HBB.out _ G5.out)).mono ?_
 rintro e w6 ⟨A6, c6, rfl, hr6, hb6⟩
 have G6 := zH (G5.out.trans (hb6.mono G5.out.size))
 have R6 := zH hr6
 have B56 := zH hb6
 clear p0 p1 p2 p3 p4 p5 p6 p7 p8 p9 hb6 hr6 CH2
 obtain ⟨p0, p1, p2, p3, p4, p5, p6, p7, p8, p9⟩ := zv (HDB.out _ G6.out)
 go_wp2_with fail
 refine (CW.out (some ⟨w1.heap.size + 1, 0, none⟩) 8 w6 (HSB.out _ G6.out) (HBB.out _ G6.out)).mono ?_
 rintro e w7 ⟨A7, c7, rfl, hl7, hm7, hr7, hb7⟩
 have G7 := zH (G6.out.trans (hb7.mono G6.out.size))
 have R7 := zH hr7
 have B67 := zH hb7
 clear p0 p1 p2 p3 p4 p5 p6 p7 p8 p9 hb7 hr7 CW
 obtain ⟨p0, p1, p2, p3, p4, p5, p6, p7, p8, p9⟩ := zv (HDB.out _ G7.out)
 go_wp2_with fail
 refine (CR.out (some ⟨w1.heap.size + 1, 0, none⟩) 8 w7 (HSB.out _ G7.out) (HBB.out _ G7.out)).mono ?_
 rintro e w8 ⟨A8, c8, rfl, hr8, hb8⟩
 have G8 := zH (G7.out.trans (hb8.mono G7.out.size))
 have R8 := zH hr8
 have B78 := zH hb8
 clear p0 p1 p2 p3 p4 p5 p6 p7 p8 p9 hb8 hr8 CR
 have I4 : Hid (IAt w8 w8.heap.size A4 kJ) := R4.out.up (((B45.out.trans (B56.out.mono B45.out.size)).trans (B67.out.mono (B45.out.trans (B56.out.mono B45.out.size)).size)).trans (B78.out.mono ((B45.out.trans (B56.out.mono B45.out.size)).trans (B67.out.mono (B45.out.trans (B56.out.mono B45.out.size)).size)).size))
 have B58 := zH ((B56.out.trans (B67.out.mono B56.out.size)).trans (B78.out.mono (B56.out.trans (B67.out.mono B56.out.size)).size))
 have B68 := zH (B67.out.trans (B78.out.mono B67.out.size))
 have I5 : Hid (BAt w8 w8.heap.size A5 (List.replicate 8 false)) := (R5.out.keep B58.out).more B58.out.size
 have I6 : Hid (BAt w8 w8.heap.size A6 yl) := (R6.out.keep B68.out).more B68.out.size
 have I7 : Hid (TAt w8 w8.heap.size A7 qG) := (R7.out.keep B78.out).more B78.out.size
 have I8 : Hid (IAt w8 w8.heap.size A8 qT) := R8.out
 clear R4 R5 R6 R7 R8 B45 B56 B67 B78 B58 B68
 have E5 := bhas_any A5 c5 (List.replicate 8 false) (by decide) w8 _ I5.out
 have E6 := fun (X : World) (q : Nat) (hX : X = w8.drewN q) => eqB_any A6 (some ⟨w1.heap.size + 1, 0, none⟩) c6 8 yl yl X X.heap.size (Nat.le_refl _) (by subst hX; exact I6.out) (by subst hX; exact HBB.out _ (zM G8.out q)) (by decide) (by decide)
 have lE : yl.length = 8 := rfl
 have lc : kJ.length = 8 := rfl
 have lw : qG.length = 3 := rfl
 have lf : qT.length = 8 := rfl
 have t5 : decide (true ∈ List.replicate 8 false) = false := by decide
 have t6 : decide (yl = yl) = true := by simp
 rw [t5, List.length_replicate] at E5
 rw [t6, lE] at E6
 have E5 := zH E5
 have E6 := zH E6
 clear t5 t6
 have HALL : Hid (∀ X, Below w8.heap.size w8 X → IAt X X.heap.size A4 kJ ∧ IAt X X.heap.size A8 qT ∧ TAt X X.heap.size A7 qG ∧ Below w3.heap.size w3 X) := fun X hX => ⟨I4.out.up hX, I8.out.up hX, (I7.out.keep hX).more hX.size, G8.out.trans (hX.mono G8.out.size)⟩
 have hw8 : w1.heap.size < w8.heap.size := by have := G8.out.size; omega
 clear I4 I5 I6 I7 I8
 go_wp2_with fail
 refine E5.out.mono ?_
 rintro e x5 ⟨rfl, hx5⟩
 obtain rfl := hx5
 clear E5
 go_wp2_with fail
 refine (E6.out w8 0 rfl).mono ?_
 rintro e x6 ⟨rfl, n6, rfl⟩
 have F6 : Hid (Below w8.heap.size w8 (w8.drewN n6)) := zM (Below.refl _ _) n6
 have z6 : Hid ((w8.drewN n6).heap.size = w8.heap.size) := rfl
 obtain ⟨x6, hx6⟩ : ∃ x6, w8.drewN n6 = x6 := ⟨_, rfl⟩
 rw [hx6] at F6 z6 ⊢
 clear hx6 E6
 go_wp2_with fail
 obtain ⟨x7, hx7, d7, hs7, hb7⟩ := zj x6 #[.int .i64 0, .int .i64 1, .int .i64 0, .int .i64 1, .int .i64 0, .int .i64 1, .int .i64 0, .int .i64 1] 3
 rw [hx7]
 have F7 := zH (F6.out.trans (hb7.mono F6.out.size))
 have E7 := Z7 A4 (some ⟨x6.heap.size, 0, none⟩) c4 8 kJ kJ x7 x7.heap.size (HALL.out _ F7.out).1 (fun _ => ⟨_, 0, rfl, zd d7, fun j hj => by rw [Nat.zero_add]; exact za d7 j (by simp [kJ] at hj ⊢; rcases (by omega : j = 0 ∨ j = 1 ∨ j = 2 ∨ j = 3 ∨ j = 4 ∨ j = 5 ∨ j = 6 ∨ j = 7) with rfl | rfl | rfl | rfl | rfl | rfl | rfl | rfl <;> rfl)⟩) (by decide) (by decide)
 rw [show decide (kJ = kJ) = true by simp, lc] at E7
 have E7 := zH E7
 clear hx7 d7 hb7
 go_wp2_with fail
 refine E7.out.mono ?_
 rintro e x8 ⟨rfl, n8, rfl⟩
 have F8 : Hid (Below w8.heap.size w8 (x7.drewN n8)) := zM F7.out n8
 obtain ⟨x8, hx8⟩ : ∃ x8, x7.drewN n8 = x8 := ⟨_, rfl⟩
 rw [hx8] at F8 ⊢
 clear hx8 E7 F7 hs7
 go_wp2_with fail
 obtain ⟨x9, hx9, d9, hs9, hb9⟩ := zj x8 #[.int .i64 0, .int .i64 0, .int .i64 0, .int .i64 0, .int .i64 1, .int .i64 1, .int .i64 1, .int .i64 2] 3
 rw [hx9]
 have F9 := zH (F8.out.trans (hb9.mono F8.out.size))
 have E9 := Z7 A8 (some ⟨x8.heap.size, 0, none⟩) c8 8 qT qT x9 x9.heap.size (HALL.out _ F9.out).2.1 (fun _ => ⟨_, 0, rfl, zd d9, fun j hj => by rw [Nat.zero_add]; exact za d9 j (by simp [qT] at hj ⊢; rcases (by omega : j = 0 ∨ j = 1 ∨ j = 2 ∨ j = 3 ∨ j = 4 ∨ j = 5 ∨ j = 6 ∨ j = 7) with rfl | rfl | rfl | rfl | rfl | rfl | rfl | rfl <;> rfl)⟩) (by decide) (by decide)
 rw [show decide (qT = qT) = true by simp, lf] at E9
 have E9 := zH E9
 clear hx9 d9 hb9
 go_wp2_with fail
 refine E9.out.mono ?_
 rintro e y0 ⟨rfl, n9, rfl⟩
 have F10 : Hid (Below w8.heap.size w8 (x9.drewN n9)) := zM F9.out n9
 obtain ⟨y0, hy0⟩ : ∃ y0, x9.drewN n9 = y0 := ⟨_, rfl⟩
 rw [hy0] at F10 ⊢
 clear hy0 E9 F9 hs9 F8 F6
 go_wp2_with fail
 have F11 : Hid (Below w8.heap.size w8 y0.drew) := F10.out.drew
 refine zo [(0, true), (1, true), (2, true), (3, true), (4, false), (5, false), (6, true), (7, true), (8, true), (9, true), (10, false), (11, true), (12, true), (13, true), (14, true), (15, true), (16, true), (17, true), (18, false), (19, true), (20, true), (21, true)] (fun X => X.heap[w1.heap.size]? = some (.cells #[.int .i64 T.p.t.n, .int .i64 T.p.t.ins, .int .i64 T.p.t.outs, .slice A T.p.t.cases.length kc, .int .i64 T.p.a.n, .slice SV T.p.a.sts.length ks, .int .i64 T.p.k, .int .i64 T.n, .slice AV T.vs.length kv, .slice AX T.xs.length kx] 35 (0, 0))) (by kernel_rfl) (by kernel_rfl) (HDB.out _ (HALL.out _ F11.out).2.2.2) ?_
 have hA7 : ∃ b off, A7 = some ⟨b, off, none⟩ := by
  obtain ⟨b, off, e, _⟩ := (HALL.out _ F11.out).2.2.1 (by decide)
  exact ⟨b, off, e⟩
 obtain ⟨b7, o7, rfl⟩ := hA7
 have hl77 : 3 ≤ c7 := hl7
 have hl72 : 2 ≤ c7 := by omega
 have hl7i : (2 : Int) ≤ (c7 : Int) := by omega
 obtain ⟨y1, hy1⟩ : ∃ y1, y0.drew = y1 := ⟨_, rfl⟩
 rw [hy1] at F11 ⊢
 clear hy1 F10
 repeat
  apply zt rfl
  · rintro K' hK' X u
    obtain ⟨q0, q1, q2, q3, q4, q5, q6, q7, q8, q9⟩ := zv u
    clear u
    go_simp
    exact hK'
 refine zB rfl ?_
 intro K' hK'
 go_simp
 obtain ⟨y2, hy2, d2, hz2, hb2⟩ := zj y1 #[.int .i64 7, .int .i64 (-1), .int .i64 5, .int .i64 1, .int .i64 1, .int .i64 0] 75
 rw [hy2]
 have F12 := zH (F11.out.trans (hb2.mono F11.out.size))
 refine hK' _ _ (HDB.out _ (HALL.out _ F12.out).2.2.2) ?_
 clear hK' K' hy2
 have htn : TAt y2 y2.heap.size (some ⟨y1.heap.size, 0, none⟩) qG := fun _ => ⟨_, 0, rfl, zd d2, fun j hj => by
  have hj3 : j < 3 := hj
  rcases (by omega : j = 0 ∨ j = 1 ∨ j = 2) with rfl | rfl | rfl
  · exact ⟨za d2 0 rfl, za d2 1 rfl⟩
  · exact ⟨za d2 2 rfl, za d2 3 rfl⟩
  · exact ⟨za d2 4 rfl, za d2 5 rfl⟩⟩
 have E12 := eqT_any (some ⟨b7, o7, none⟩) (some ⟨y1.heap.size, 0, none⟩) c7 3 qG qG y2 y2.heap.size (Nat.le_refl _) (HALL.out _ F12.out).2.2.1 htn (by decide) (by decide)
 rw [show decide (qG = qG) = true by simp, lw] at E12
 have E12 := zH E12
 clear d2 hb2 htn
 refine zB rfl ?_
 intro K' hK'
 go_simp
 refine E12.out.mono ?_
 rintro e y3 ⟨rfl, n3, rfl⟩
 have F13 : Hid (Below w8.heap.size w8 (y2.drewN n3)) := zM F12.out n3
 obtain ⟨y3, hy3⟩ : ∃ y3, y2.drewN n3 = y3 := ⟨_, rfl⟩
 rw [hy3] at F13 ⊢
 refine hK' _ _ (HDB.out _ (HALL.out _ F13.out).2.2.2) ?_
 clear hK' K' hy3 E12 F12 F11 hz2
 repeat
  apply zt rfl
  · rintro K' hK' X u
    obtain ⟨q0, q1, q2, q3, q4, q5, q6, q7, q8, q9⟩ := zv u
    clear u
    go_simp
    exact hK'
 have E13 := zH (CV.out (some ⟨w1.heap.size + 1, 0, none⟩) (some ⟨b7, o7, none⟩) 8 c7 y3 (HSB.out _ (HALL.out _ F13.out).2.2.2) (HBB.out _ (HALL.out _ F13.out).2.2.2) (HALL.out _ F13.out).2.2.1)
 refine zB rfl ?_
 intro K' hK'
 go_simp
 refine E13.out.mono ?_
 rintro e y4 ⟨rfl, hb4⟩
 have F14 := zH (F13.out.trans (hb4.mono F13.out.size))
 refine hK' _ _ (HDB.out _ (HALL.out _ F14.out).2.2.2) ?_
 clear hK' K' hb4 E13 F13
 repeat
  apply zt rfl
  · rintro K' hK' X u
    obtain ⟨q0, q1, q2, q3, q4, q5, q6, q7, q8, q9⟩ := zv u
    clear u
    go_simp
    exact hK'
 have E14 := zH (CV2.out (some ⟨w1.heap.size + 1, 0, none⟩) (some ⟨b7, o7, none⟩) 8 c7 y4 (HSB.out _ (HALL.out _ F14.out).2.2.2) (HBB.out _ (HALL.out _ F14.out).2.2.2) (tat_take (HALL.out _ F14.out).2.2.1 2))
 refine zB rfl ?_
 intro K' hK'
 go_simp
 refine E14.out.mono ?_
 rintro e y5 ⟨rfl, hb5⟩
 have F15 := zH (F14.out.trans (hb5.mono F14.out.size))
 refine hK' _ _ (HDB.out _ (HALL.out _ F15.out).2.2.2) ?_
 clear hK' K' hb5 E14 F14
 repeat
  apply zt rfl
  · rintro K' hK' X u
    obtain ⟨q0, q1, q2, q3, q4, q5, q6, q7, q8, q9⟩ := zv u
    clear u
    go_simp
    exact hK'
 refine zG ?_
 have HF := zH (HB3.out.trans ((HALL.out _ F15.out).2.2.2.mono HB3.out.size))
 clear F15 HALL HDB HSB HBB CV CV2
 go_wp2_with fail
 go_ret
 exact ⟨rfl, HF.out⟩
end
section
open Go.RowKit Go.Shelf
attribute [local go_sem] Oper.semAt_some
theorem set3 {w : World} {g : Nat} {x0 x1 x2 : Value} {t : TypeId} (h : w.heap[g]? = some (.cells #[x0, x1, x2] t (0, 0))) (y0 y1 y2 : Value) :
  ∃ W, (((w.setCell ⟨g, 0, none⟩ y0).setCell ⟨g, 1, none⟩ y1).setCell ⟨g, 2, none⟩ y2) = W ∧ W.heap[g]? = some (.cells #[y0, y1, y2] t (0, 0)) ∧ (∀ k, k ≠ g → W.heap[k]? = w.heap[k]?) ∧ ∀ B, B ≤ g → Below B w W := by
 refine ⟨_, rfl, ?_, fun k hk => ?_, fun B hB => ?_⟩
 · have a1 := heap_setCell_same w g 0 _ _ y0 h
   have a2 := heap_setCell_same _ g 1 _ _ y1 a1
   exact heap_setCell_same _ g 2 _ _ y2 a2
 · exact (Below.heap_setCell _ ⟨g, 2, none⟩ y2 k hk).trans ((Below.heap_setCell _ ⟨g, 1, none⟩ y1 k hk).trans (Below.heap_setCell _ ⟨g, 0, none⟩ y0 k hk))
 · exact (((Below.refl B w).setCell (by show B ≤ g; omega) y0).setCell (by show B ≤ g; omega) y1).setCell (by show B ≤ g; omega) y2
set_option maxRecDepth 100000 in
theorem Jv (s : Sy) (K N : Nat) (hF : Fine s K N) (A SV AV AX : Option Addr) (kc ks kv kx : Nat) (w : World) :
  Calls Tryz.prog 113 #[.agg (s.vs_ A kc SV ks AV kv AX kx)] w fun e w' => e = .returned (.int .i64 (ptn s : Int)) ∧ Below w.heap.size w w' := by
 obtain ⟨w1, hw1, d0, hs1, hB⟩ := zj w (s.vs_ A kc SV ks AV kv AX kx) 35
 have hlx := hF.lx
 have hk := hF.k
 have hk6 := hF.k6
 have hn : ptn s = s.xs.length * (K + 1) := by unfold ptn; rw [hk]; rfl
 have hb := Nat.mul_le_mul hlx (show K + 1 ≤ 7 by omega)
 rw [hn]
 unfold Sy.vs_ at hw1 d0 ⊢
 rw [hk] at hw1 d0 ⊢
 obtain ⟨M, hM⟩ : ∃ M, s.xs.length = M := ⟨_, rfl⟩
 rw [hM] at hw1 d0 hb hlx ⊢
 have HW1 := zH hw1
 have HB := zH hB
 have HWR : Hid (wrap64 ((M : Int) * ((K : Int) + 1)) = ((M * (K + 1) : Nat) : Int)) := by
  show wrap64 _ = _
  rw [show (M : Int) * ((K : Int) + 1) = ((M * (K + 1) : Nat) : Int) by push_cast; rfl]
  exact IntWalk.wrap64_in _ (by omega)
 have p6 := za d0 6 rfl
 have p9 := za d0 9 rfl
 clear hw1 d0 hB hF hk hn hM hb
 go_enter Tryz.func113, Tryz.ntmps113
 go_wp2_with fail
 rw [HW1.out]
 go_wp2_with fail
 go_ret
 exact ⟨by rw [← HWR.out]; rfl, HB.out⟩
set_option maxRecDepth 100000 in
theorem XF (s : Sy) (K N : Nat) (hF : Fine s K N) (i : Nat) (hi : i < ptn s) (A SV AV AX : Option Addr) (kc ks kv kx : Nat) (w : World) (hX : XAt w w.heap.size AX s.xs) :
  Calls Tryz.prog 163 #[.agg (s.vs_ A kc SV ks AV kv AX kx), .int .i64 (i : Int)] w fun e w' => ∃ A1 c1 A2 c2, e = .returned (.tuple #[.agg #[.int .i64 (s.xs.getD (i / (K + 1)) default).c, .slice A1 (s.xs.getD (i / (K + 1)) default).word.length c1, .slice A2 (s.xs.getD (i / (K + 1)) default).views.length c2], .int .i64 ((i % (K + 1) : Nat) : Int)]) ∧
   LAt w' w.heap.size A2 (s.xs.getD (i / (K + 1)) default).views ∧ Below w.heap.size w w' := by
 obtain ⟨w1, hw1, d0, d1, hs1, hB⟩ := zW w (s.vs_ A kc SV ks AV kv AX kx) #[.int .i64 0, .slice none 0 0, .slice none 0 0] 35 94
 have hlx := hF.lx
 have hk := hF.k
 have hk6 := hF.k6
 have hn : ptn s = s.xs.length * (K + 1) := by unfold ptn; rw [hk]; rfl
 have hq : i / (K + 1) < s.xs.length := by rw [hn, Nat.mul_comm] at hi; exact Nat.div_lt_of_lt_mul hi
 have hb := Nat.mul_le_mul hlx (show K + 1 ≤ 7 by omega)
 have hil : i ≤ 700 := by omega
 rw [kq hq]
 obtain ⟨bx, ox, A1, c1, A2, c2, eX, hbx, x0, x1, x2, _, hL⟩ := (hX.keep hB).row _ hq
 subst eX
 obtain ⟨q, hqq⟩ : ∃ q, i / (K + 1) = q := ⟨_, rfl⟩
 have hq1 : ((i : Int)).tdiv ((K : Int) + 1) = (q : Int) := by
  rw [← hqq, Int.tdiv_eq_ediv_of_nonneg (by omega)]
  push_cast; rfl
 have hr1 : ((i : Int)).tmod ((K : Int) + 1) = ((i % (K + 1) : Nat) : Int) := by
  rw [Int.tmod_eq_emod_of_nonneg (by omega)]
  push_cast; rfl
 simp only [hqq] at hq x0 x1 x2 hL ⊢
 have hql : q ≤ 100 := by omega
 obtain ⟨rr, hrr⟩ : ∃ rr, i % (K + 1) = rr := ⟨_, rfl⟩
 have hrl : rr < K + 1 := by rw [← hrr]; exact Nat.mod_lt _ (by omega)
 rw [hrr] at hr1 ⊢
 obtain ⟨x, hx⟩ : ∃ x, s.xs[q] = x := ⟨_, rfl⟩
 rw [hx] at x0 x1 x2 hL ⊢
 unfold Sy.vs_ at hw1 d0 ⊢
 rw [hk] at hw1 d0 ⊢
 obtain ⟨M, hM⟩ : ∃ M, s.xs.length = M := ⟨_, rfl⟩
 rw [hM] at hw1 d0 hq ⊢
 have HW1 := zH hw1
 have HB := zH hB
 have HL := zH hL
 have HD1 := zH d1
 have p6 := za d0 6 rfl
 have hd0 := zH d0
 have hq0 : (0 : Int) ≤ (q : Int) := by omega
 have hq2 : (q : Int) < (M : Int) := by omega
 have hkz : ¬ ((K : Int) + 1) = 0 := by omega
 have hwk : IntKind.i64.wrap ((K : Int) + 1) = (K : Int) + 1 := by rw [IntKind.wrap_i64]; omega
 have hwq : IntKind.i64.wrap (q : Int) = (q : Int) := by rw [IntKind.wrap_i64]; omega
 have hwr : IntKind.i64.wrap (rr : Int) = (rr : Int) := by rw [IntKind.wrap_i64]; omega
 clear hw1 d0 d1 hB hF hk hn hM hb hX hL hx hqq hrr hlx
 go_enter Tryz.func163, Tryz.ntmps163
 go_wp2_with fail
 rw [HW1.out]
 go_wp2_with fail
 have hbxw : bx < w.heap.size := by omega
 refine zo [(0, true), (1, true), (2, true), (3, true), (4, true), (5, true), (6, true), (7, true), (8, true), (9, true), (10, false), (11, false)] (fun X => X.heap[w.heap.size]? = w1.heap[w.heap.size]? ∧ X.heap[bx]? = w1.heap[bx]?) (by kernel_rfl) (by kernel_rfl) ⟨rfl, rfl⟩ ?_
 repeat
  apply zt rfl
  · rintro K' hK' X ⟨u1, u2⟩
    have y0 := (World.cell?_of_block u2).trans x0
    have y1 := (World.cell?_of_block u2).trans x1
    have y2 := (World.cell?_of_block u2).trans x2
    have y9 : X.cell? ⟨w.heap.size, 9, none⟩ = some (.slice (some ⟨bx, ox, none⟩) M kx) := za (u1.trans hd0.out) 9 rfl
    clear u1 u2
    go_simp
    exact hK'
 have HBd := zH (HB.out.drew)
 have HDd : Hid (w1.drew.heap[w.heap.size + 1]? = some (.cells #[.int .i64 0, .slice none 0 0, .slice none 0 0] 94 (0, 0))) := HD1.out
 have HLd : Hid (LAt w1.drew w.heap.size A2 x.views) := HL.out.keep (Below.refl _ _).drew
 have HO0 : Hid (w1.drew.heap[w.heap.size]? = w1.heap[w.heap.size]? ∧ w1.drew.heap[bx]? = w1.heap[bx]?) := ⟨rfl, rfl⟩
 obtain ⟨W5, hW5⟩ : ∃ W5, w1.drew = W5 := ⟨_, rfl⟩
 rw [hW5] at HBd HDd HLd HO0 ⊢
 clear hW5 HL x0 x1 x2
 have r0 := za HDd.out 0 rfl
 have r1 := za HDd.out 1 rfl
 have r2 := za HDd.out 2 rfl
 have g0 := zb HDd.out 0
 have g1 := zb HDd.out 1
 have g2 := zb HDd.out 2
 have l1 := zd HDd.out
 refine zB rfl ?_
 intro K' hK'
 go_simp
 obtain ⟨W, hW, e1, e2, e3⟩ := set3 HDd.out (.int .i64 x.c) (.slice A1 x.word.length c1) (.slice A2 x.views.length c2)
 rw [hW]
 have HWB := zH (e3 w.heap.size (by omega))
 have hkp : W.heap[w.heap.size]? = w1.heap[w.heap.size]? ∧ W.heap[bx]? = w1.heap[bx]? := ⟨(e2 _ (by omega)).trans HO0.out.1, (e2 bx (by omega)).trans HO0.out.2⟩
 refine hK' _ _ hkp ?_
 clear hK' K' r0 r1 r2 g0 g1 g2 l1 hW
 refine zB rfl ?_
 intro K' hK'
 go_simp
 refine hK' _ _ hkp ?_
 refine zG ?_
 clear hK' K'
 go_wp2_with fail
 have q0 := za e1 0 rfl
 have q1 := za e1 1 rfl
 have q2 := za e1 2 rfl
 refine bodyPost_ret (v := .tuple #[.agg #[.int .i64 x.c, .slice A1 x.word.length c1, .slice A2 x.views.length c2], .int .i64 (rr : Int)]) (by simp [results, Tryz.results163, go_sem, q0, q1, q2]) rfl ?_
 exact ⟨A1, c1, A2, c2, rfl, HLd.out.keep HWB.out, HBd.out.trans HWB.out⟩
set_option maxRecDepth 100000 in
theorem Zd (s : Sy) (K N : Nat) (hF : Fine s K N) (i q : Nat) (hi : i < ptn s) (hq : q < N) (A SV AV AX : Option Addr) (kc ks kv kx : Nat) (w : World) (hX : XAt w w.heap.size AX s.xs) :
  Calls Tryz.prog 133 #[.agg (s.vs_ A kc SV ks AV kv AX kx), .int .i64 (i : Int), .int .i64 (q : Int)] w fun e w' => e = .returned (.int .i64 ((xF s q).getD i 0)) ∧ Below w.heap.size w w' := by
 obtain ⟨w1, hw1, d0, hs1, hB⟩ := zj w (s.vs_ A kc SV ks AV kv AX kx) 35
 have hk := hF.k
 have hn : ptn s = s.xs.length * (K + 1) := by unfold ptn; rw [hk]; rfl
 have hql : i / (K + 1) < s.xs.length := by rw [hn, Nat.mul_comm] at hi; exact Nat.div_lt_of_lt_mul hi
 have HP := zH (XF s K N hF i hi A SV AV AX kc ks kv kx w1 ((hX.keep hB).more hB.size))
 obtain ⟨hvl, hrow⟩ := hF.views _ (List.getElem_mem hql)
 have hkey : (xF s q).getD i 0 = xw (s.xs.getD (i / (K + 1)) default) (i % (K + 1)) q := by
  have hil : i < (xF s q).length := by rw [vf]; exact hi
  rw [zD hil, keyL_at, hk, Int.toNat_natCast]
 rw [hkey]
 rw [kq hql] at HP ⊢
 obtain ⟨x, hx⟩ : ∃ x, s.xs[i / (K + 1)] = x := ⟨_, rfl⟩
 rw [hx] at HP hvl hrow ⊢
 obtain ⟨rr, hrr⟩ : ∃ rr, i % (K + 1) = rr := ⟨_, rfl⟩
 have hrl : rr < K + 1 := by rw [← hrr]; exact Nat.mod_lt _ (by omega)
 rw [hrr] at HP ⊢
 have hrv : rr < x.views.length := by omega
 have hrow2 := (hrow _ (List.getElem_mem hrv)).1
 have hxw : xw x rr q = (x.views[rr]).getD q 0 := by unfold xw; rw [kq hrv]
 rw [hxw]
 have hqr : q < (x.views[rr]).length := by omega
 rw [zD hqr]
 have HVLn := zH hvl
 rw [hvl] at HP
 unfold Sy.vs_ at hw1 d0 HP ⊢
 have HW1 := zH hw1
 have HB := zH hB
 obtain ⟨p0, p1, p2, p3, p4, p5, p6, p7, p8, p9⟩ := zv d0
 clear hw1 d0 hB hF hk hn hX hkey hx hrr hrow hxw hvl
 go_enter Tryz.func133, Tryz.ntmps133
 go_wp2_with fail
 rw [HW1.out]
 go_wp2_with fail
 refine HP.out.mono ?_
 rintro e w2 ⟨A1, c1, A2, c2, rfl, hL, hb2⟩
 have HB2 := zH (HB.out.trans (hb2.mono (by omega)))
 have HL := zH hL
 have hs12 := hb2.size
 clear p0 p1 p2 p3 p4 p5 p6 p7 p8 p9 hb2 hL HW1 HP
 go_upto_region 2 with fail
 obtain ⟨w3, hw3, d3, hs3, hB3⟩ := zj w2 #[.int .i64 x.c, .slice A1 x.word.length c1, .slice A2 (K + 1) c2] 94
 rw [hw3]
 have HL3 := zH (HL.out.keep (hB3.mono hs12))
 have HB3 := zH (HB2.out.trans (hB3.mono HB2.out.size))
 have z2 := za d3 2 rfl
 clear hw3 d3 hB3 HL
 obtain ⟨bl, ol, A3, c3, eL, hbl, y1, hI⟩ := HL3.out.at_ rr hrv
 subst eL
 obtain ⟨b4, o4, e4, hb4, z4⟩ := hI.at_ q hqr
 subst e4
 obtain ⟨u, hu⟩ : ∃ u, (x.views[rr])[q] = u := ⟨_, rfl⟩
 rw [hu] at z4
 have HU := zH hu
 obtain ⟨nr, hnr⟩ : ∃ nr, (x.views[rr]).length = nr := ⟨_, rfl⟩
 rw [hnr] at y1 hrow2 hqr
 have h1 : (0 : Int) ≤ (rr : Int) := by omega
 have h2 : (rr : Int) < ((K + 1 : Nat) : Int) := by omega
 have h22 : (rr : Int) < (K : Int) + 1 := by omega
 have h3 : (0 : Int) ≤ (q : Int) := by omega
 have h4 : (q : Int) < (nr : Int) := by omega
 clear hu hnr hI
 go_wp2_with fail
 go_ret
 exact ⟨by rw [HU.out]; rfl, HB3.out⟩
end
section
open Go.RowKit Go.Shelf
attribute [local go_sem] Oper.semAt_some
theorem pow_fact {N : Nat} (h1 : 1 ≤ N) (h5 : N ≤ 5) : wrap64 ((2 : Int) ^ N) = ((2 ^ N : Nat) : Int) ∧ 2 ^ N ≤ 32 := by
 obtain e | e | e | e | e : N = 1 ∨ N = 2 ∨ N = 3 ∨ N = 4 ∨ N = 5 := by omega
 all_goals (rw [e]; exact ⟨by decide +kernel, by decide⟩)
set_option maxRecDepth 100000 in
theorem ZQ (s : Sy) (hs : LowS s) (hf : xO s.p) (g : Int) (A SV AV AX : Option Addr) (kc ks kv kx : Nat) (w : World) (hS : SyAt w w.heap.size A SV AV AX s) :
  Calls Tryz.prog 67 #[.agg (s.vs_ A kc SV ks AV kv AX kx), .int .i64 g] w fun e w' => e = .returned (.int .i64 (zJ s g)) ∧ Below w.heap.size w w' := by
 obtain ⟨w1, hw1, d0, hs1, hB⟩ := zj w (s.vs_ A kc SV ks AV kv AX kx) 35
 have HV := zH (rver_any s hs hf A SV AV AX kc ks kv kx w1 (hS.up hB))
 have HVF := zH (fun h => qw hf h)
 have HRE : Hid (zJ s g = if xM s ≠ 0 then xM s else if g < 0 ∨ 2 ^ s.n.toNat ≤ g then 2 else 0) := rfl
 obtain ⟨r, hr⟩ : ∃ r, xM s = r := ⟨_, rfl⟩
 rw [hr] at HV HVF HRE
 obtain ⟨re, hre⟩ : ∃ re, zJ s g = re := ⟨_, rfl⟩
 rw [hre] at HRE ⊢
 unfold Sy.vs_ at hw1 d0 HV ⊢
 have HW1 := zH hw1
 have HB := zH hB
 have HD := zH d0
 obtain ⟨p0, p1, p2, p3, p4, p5, p6, p7, p8, p9⟩ := zv d0
 clear hw1 d0 hB hS hr hre hs hf
 go_enter Tryz.func67, Tryz.ntmps67
 go_wp2_with fail
 rw [HW1.out]
 go_wp2_with fail
 refine HV.out.mono ?_
 rintro e w2 ⟨rfl, hb2⟩
 have HB2 := zH (HB.out.trans (hb2.mono (by omega)))
 have d0 := (hb2.block _ (by omega : w.heap.size < w1.heap.size)).trans HD.out
 have HDD := zH d0
 clear p0 p1 p2 p3 p4 p5 p6 p7 p8 p9 hb2 HV HW1 HD d0
 by_cases h0 : r = 0
 case neg =>
  have hR : Hid (re = r) := HRE.out.trans (if_pos h0)
  have e0 : (r != 0) = true := by simpa using h0
  clear HRE HVF
  go_wp2_with fail
  go_ret
  exact ⟨by rw [hR.out]; rfl, HB2.out⟩
 case pos =>
 subst h0
 obtain ⟨hsb, K, N, hF⟩ := HVF.out rfl
 clear hsb
 have hRE : re = if g < 0 ∨ 2 ^ s.n.toNat ≤ g then 2 else 0 := HRE.out.trans (if_neg (by simp))
 have hn := hF.n
 have hn1 := hF.n1
 have hn5 := hF.n5
 rw [hn, Int.toNat_natCast] at hRE
 have HRE2 := zH hRE
 have q7 : w2.cell? ⟨w.heap.size, 7, none⟩ = some (.int .i64 (N : Int)) := by rw [← hn]; exact za HDD.out 7 rfl
 obtain ⟨hwT, hT32⟩ := pow_fact hn1 hn5
 clear HRE HVF hRE hF hn
 by_cases h1 : g < 0
 case pos =>
  have hR : Hid (re = 2) := HRE2.out.trans (if_pos (.inl h1))
  clear HRE2
  go_wp2_with fail
  go_ret
  exact ⟨by rw [hR.out]; rfl, HB2.out⟩
 case neg =>
 by_cases h2 : 2 ^ N ≤ g
 case pos =>
  have hR : Hid (re = 2) := HRE2.out.trans (if_pos (.inr h2))
  have hTG : wrap64 ((2 : Int) ^ N) ≤ g := by rw [hwT]; push_cast; exact h2
  clear HRE2 hwT h2
  go_wp2_with fail
  go_ret
  exact ⟨by rw [hR.out]; rfl, HB2.out⟩
 case neg =>
  have hR : Hid (re = 0) := HRE2.out.trans (if_neg (by rintro (h | h); exact h1 h; exact h2 h))
  have hTG : ¬ wrap64 ((2 : Int) ^ N) ≤ g := by rw [hwT]; push_cast; exact h2
  clear HRE2 hwT h2
  go_wp2_with fail
  go_ret
  exact ⟨by rw [hR.out]; rfl, HB2.out⟩
set_option maxRecDepth 100000 in
theorem XH (s : Sy) (hs : LowS s) (hf : xO s.p) (g : Int) (set : List Bool) (A SV AV AX AB : Option Addr) (kc ks kv kx kb : Nat) (w : World) (hS : SyAt w w.heap.size A SV AV AX s) :
  Calls Tryz.prog 69 #[.agg (s.vs_ A kc SV ks AV kv AX kx), .int .i64 g, .slice AB set.length kb] w fun e w' => e = .returned (.int .i64 (zC s g set)) ∧ Below w.heap.size w w' := by
 obtain ⟨w1, hw1, d0, hs1, hB⟩ := zj w (s.vs_ A kc SV ks AV kv AX kx) 35
 have HV := zH (ZQ s hs hf g A SV AV AX kc ks kv kx w1 (hS.up hB))
 have HVF := zH (fun h => qw hf (wG (s := s) (g := g) h).1)
 have HSZ := zH (fun (K N : Nat) (hF : Fine s K N) (X : World) => Jv s K N hF A SV AV AX kc ks kv kx X)
 have HRE : Hid (zC s g set = if zJ s g ≠ 0 then zJ s g else if set.length ≠ ptn s then 15 else 0) := rfl
 obtain ⟨r, hr⟩ : ∃ r, zJ s g = r := ⟨_, rfl⟩
 rw [hr] at HV HVF HRE
 obtain ⟨re, hre⟩ : ∃ re, zC s g set = re := ⟨_, rfl⟩
 rw [hre] at HRE ⊢
 obtain ⟨n, hn⟩ : ∃ n, ptn s = n := ⟨_, rfl⟩
 rw [hn] at HSZ HRE
 unfold Sy.vs_ at hw1 d0 HV HSZ ⊢
 have HW1 := zH hw1
 have HB := zH hB
 have HD := zH d0
 obtain ⟨p0, p1, p2, p3, p4, p5, p6, p7, p8, p9⟩ := zv d0
 clear hw1 d0 hB hS hr hre hs hf hn
 go_enter Tryz.func69, Tryz.ntmps69
 go_wp2_with fail
 rw [HW1.out]
 go_wp2_with fail
 refine HV.out.mono ?_
 rintro e w2 ⟨rfl, hb2⟩
 have HB2 := zH (HB.out.trans (hb2.mono (by omega)))
 have d0 := (hb2.block _ (by omega : w.heap.size < w1.heap.size)).trans HD.out
 clear p0 p1 p2 p3 p4 p5 p6 p7 p8 p9 hb2 HV HW1 HD
 obtain ⟨p0, p1, p2, p3, p4, p5, p6, p7, p8, p9⟩ := zv d0
 clear d0
 by_cases h0 : r = 0
 case neg =>
  have hR : Hid (re = r) := HRE.out.trans (if_pos h0)
  have e0 : (r != 0) = true := by simpa using h0
  clear HRE HVF
  go_wp2_with fail
  go_ret
  exact ⟨by rw [hR.out]; rfl, HB2.out⟩
 case pos =>
 subst h0
 obtain ⟨hsb, K, N, hF⟩ := HVF.out rfl
 clear hsb
 have hRE : re = if set.length ≠ n then 15 else 0 := HRE.out.trans (if_neg (by simp))
 have HRE2 := zH hRE
 have HC := zH (HSZ.out K N hF)
 clear HRE HVF hRE hF HSZ
 go_wp2_with fail
 refine (HC.out w2).mono ?_
 rintro e w3 ⟨rfl, hb3⟩
 have HB3 := zH (HB2.out.trans (hb3.mono HB2.out.size))
 clear p0 p1 p2 p3 p4 p5 p6 p7 p8 p9 hb3 HB2 HC
 by_cases h1 : set.length = n
 · have hR : Hid (re = 0) := HRE2.out.trans (if_neg (by simpa using h1))
   have e1 : ((set.length : Int) != (n : Int)) = false := by rw [h1]; simp
   clear HRE2 h1
   go_wp2_with fail
   go_ret
   exact ⟨by rw [hR.out]; rfl, HB3.out⟩
 · have hR : Hid (re = 15) := HRE2.out.trans (if_pos h1)
   have e1 : ((set.length : Int) != (n : Int)) = true := by simp; omega
   clear HRE2
   go_wp2_with fail
   go_ret
   exact ⟨by rw [hR.out]; rfl, HB3.out⟩
end
section
open Go.RowKit Go.Shelf
attribute [local go_sem] Oper.semAt_some
theorem byE_found {ps : List Nat} {cls : Nat → List Int} {i k p : Nat} (hp : ps.Pairwise (· < ·)) (hm : p ∈ ps) (he : (cls p).getD i 0 = (cls p).getD k 0) (hn : ∀ q ∈ ps, q < p → (cls q).getD i 0 ≠ (cls q).getD k 0) : byE ps cls i k = (p : Int) := by
 have h0 := (uZ ps cls i k).2 ⟨p, hm, he⟩
 obtain ⟨r, hr⟩ := Int.eq_ofNat_of_zero_le h0
 obtain ⟨h1, h2, h3⟩ := ZG hp hr
 have : r = p := by
  rcases Nat.lt_trichotomy r p with h | h | h
  · exact absurd h2 (hn r h1 h)
  · exact h
  · exact absurd he (h3 p hm h)
 rw [hr, this]
 try rfl
theorem byE_none {ps : List Nat} {cls : Nat → List Int} {i k : Nat} (hn : ∀ q ∈ ps, (cls q).getD i 0 ≠ (cls q).getD k 0) : byE ps cls i k = -1 := by
 unfold byE
 have : ps.find? (fun p => (cls p).getD i 0 == (cls p).getD k 0) = none := List.find?_eq_none.2 fun q hq => by simpa using hn q hq
 rw [this]
theorem Ya (s : Sy) (q : Nat) {i k : Nat} (hi : i < ptn s) (hk : k < ptn s) : (zS s q).getD i 0 = (zS s q).getD k 0 ↔ (xF s q).getD i 0 = (xF s q).getD k 0 := by
 have h1 : i < (xF s q).length := by rw [vf]; exact hi
 have h2 : k < (xF s q).length := by rw [vf]; exact hk
 unfold zS
 rw [zD (by rw [xH]; exact h1), zD (by rw [xH]; exact h2), zD h1, zD h2]
 exact JU _ h1 h2
set_option maxRecDepth 100000 in
theorem QK (s : Sy) (K N : Nat) (hF : Fine s K N) (G : Nat) (hG : G < 2 ^ N) (i k : Nat) (hi : i < ptn s) (hk : k < ptn s) (A SV AV AX : Option Addr) (kc ks kv kx : Nat) (w : World) (hX : XAt w w.heap.size AX s.xs) :
  Calls Tryz.prog 130 #[.agg (s.vs_ A kc SV ks AV kv AX kx), .int .i64 (G : Int), .int .i64 (i : Int), .int .i64 (k : Int)] w fun e w' => e = .returned (.int .i64 (byE (psG s G) (zS s) i k)) ∧ Below w.heap.size w w' := by
 obtain ⟨w1, hw1, d0, hs1, hB⟩ := zj w (s.vs_ A kc SV ks AV kv AX kx) 35
 have HVI := zH (fun (q : Nat) (hq : q < N) (X : World) (hX : XAt X X.heap.size AX s.xs) => Zd s K N hF i q hi hq A SV AV AX kc ks kv kx X hX)
 have HVK := zH (fun (q : Nat) (hq : q < N) (X : World) (hX : XAt X X.heap.size AX s.xs) => Zd s K N hF k q hk hq A SV AV AX kc ks kv kx X hX)
 have hn5 := hF.n5
 have hnn := hF.n
 have hT32 : 2 ^ N ≤ 32 := by
  have := Nat.pow_le_pow_right (n := 2) (by omega) hn5
  omega
 have hG32 : G < 32 := by omega
 have HHA := zH (fun (p : Nat) (hp : p < N) (X : World) => vp G p hG32 (by omega) X)
 have hPS : psG s G = zn G N := by
  unfold psG
  rw [hnn, Int.toNat_natCast, Int.toNat_natCast]
 have HFD : Hid (∀ p, p < N → G.testBit p = true → (xF s p).getD i 0 = (xF s p).getD k 0 → (∀ q ∈ zn G p, (xF s q).getD i 0 ≠ (xF s q).getD k 0) → byE (psG s G) (zS s) i k = (p : Int)) := fun p hp hb he hq => by
  refine byE_found (ZR s G) ?_ ((Ya s p hi hk).2 he) fun q hqm hqp h => ?_
  · rw [hPS]; unfold zn; simp [hp, hb]
  · rw [hPS] at hqm
    refine hq q ?_ ((Ya s q hi hk).1 h)
    unfold zn at hqm ⊢
    simp at hqm ⊢
    exact ⟨hqp, hqm.2⟩
 have HNO : Hid ((∀ q ∈ zn G N, (xF s q).getD i 0 ≠ (xF s q).getD k 0) → byE (psG s G) (zS s) i k = -1) := fun h => by
  refine byE_none fun q hqm hh => ?_
  rw [hPS] at hqm
  exact h q hqm ((Ya s q hi hk).1 hh)
 obtain ⟨R, hR⟩ : ∃ R, byE (psG s G) (zS s) i k = R := ⟨_, rfl⟩
 rw [hR] at HFD HNO ⊢
 have HX := zH (hX.keep hB)
 unfold Sy.vs_ at hw1 d0 HVI HVK ⊢
 have HW1 := zH hw1
 have HB := zH hB
 have HD := zH d0
 have HN := zH hnn
 clear hw1 d0 hB hF hX hnn hR hPS hG hT32 hi hk
 go_enter Tryz.func130, Tryz.ntmps130
 go_wp2_with fail
 rw [HW1.out]
 go_wp2_with fail
 clear HW1
 go_loopw [9] (fun j wr => ∃ p : Nat, p ≤ N ∧ j = .int .i64 (p : Int) ∧ Hid (∀ q ∈ zn G p, (xF s q).getD i 0 ≠ (xF s q).getD k 0) ∧ Hid (Below w1.heap.size w1 wr)) (fun j _ => N - (intOf j).toNat)
 case atStart => exact ⟨0, by omega, rfl, fun q hq => by simp [zn] at hq, Below.refl _ _⟩
 case round =>
  obtain ⟨p, hp, rfl, hno, hb⟩ := hrel
  have hsz := hb.out.size
  have dd := (hb.out.block _ (zd HD.out)).trans HD.out
  have HDD : Hid (∀ X, Below wr.heap.size wr X → X.heap[w.heap.size]? = some (.cells #[.int .i64 s.p.t.n, .int .i64 s.p.t.ins, .int .i64 s.p.t.outs, .slice A s.p.t.cases.length kc, .int .i64 s.p.a.n, .slice SV s.p.a.sts.length ks, .int .i64 s.p.k, .int .i64 s.n, .slice AV s.vs.length kv, .slice AX s.xs.length kx] 35 (0, 0))) := fun X hX => (hX.block _ (zd dd)).trans dd
  have HXX : Hid (∀ X, Below wr.heap.size wr X → XAt X X.heap.size AX s.xs) := fun X hX => (HX.out.keep ((hb.out.mono (by omega)).trans (hX.mono (by omega)))).more (by have := hX.size; omega)
  obtain ⟨p0, p1, p2, p3, p4, p5, p6, p7, p8, p9⟩ := zv (dd)
  clear dd
  by_cases hlt : p < N
  · have hpn1 : (p : Int) < s.n := by have := HN.out; omega
    have F0 : Hid (Below wr.heap.size wr wr.drew) := (Below.refl _ _).drew
    have HI := zH (HVI.out p hlt)
    have HK := zH (HVK.out p hlt)
    have hfd := HFD.out p hlt
    have HBT : Hid (zn G (p + 1) = if G.testBit p = true then zn G p ++ [p] else zn G p) := jj
    obtain ⟨ki, hki⟩ : ∃ ki, (xF s p).getD i 0 = ki := ⟨_, rfl⟩
    obtain ⟨kk, hkk⟩ : ∃ kk, (xF s p).getD k 0 = kk := ⟨_, rfl⟩
    rw [hki] at HI hfd
    rw [hkk] at HK hfd
    have HKI := zH hki
    have HKK := zH hkk
    have HFD2 := zH hfd
    clear hki hkk hfd
    by_cases hbit : G.testBit p = true
    · have hc := HHA.out p hlt wr.drew
      rw [hbit] at hc
      have HC := zH hc
      have HE : Hid (zn G (p + 1) = zn G p ++ [p]) := HBT.out.trans (if_pos hbit)
      have HFD3 := zH (HFD2.out hbit)
      clear hc hbit HFD2 HBT
      go_wp2_with fail
      refine zo [(0, true), (1, true), (2, false), (3, true), (4, true), (5, true), (6, true), (8, true), (9, true), (10, true), (7, false), (11, false), (12, true), (13, true)] (fun X => X.heap[w.heap.size]? = some (.cells #[.int .i64 s.p.t.n, .int .i64 s.p.t.ins, .int .i64 s.p.t.outs, .slice A s.p.t.cases.length kc, .int .i64 s.p.a.n, .slice SV s.p.a.sts.length ks, .int .i64 s.p.k, .int .i64 s.n, .slice AV s.vs.length kv, .slice AX s.xs.length kx] 35 (0, 0))) (by kernel_rfl) (by kernel_rfl) (HDD.out _ F0.out) ?_
      obtain ⟨y1, hy1⟩ : ∃ y1, wr.drew = y1 := ⟨_, rfl⟩
      rw [hy1] at F0 HC ⊢
      clear hy1 p0 p1 p2 p3 p4 p5 p6 p7 p8 p9
      repeat
       apply zt rfl
       · rintro K' hK' X u
         obtain ⟨q0, q1, q2, q3, q4, q5, q6, q7, q8, q9⟩ := zv u
         clear u
         go_simp
         exact hK'
      refine zB rfl ?_
      intro K' hK'
      go_simp
      refine HC.out.mono ?_
      rintro e y2 ⟨rfl, hy2⟩
      obtain rfl := hy2
      refine hK' _ _ (HDD.out _ F0.out) ?_
      clear hK' K' HC
      repeat
       apply zt rfl
       · rintro K' hK' X u
         obtain ⟨q0, q1, q2, q3, q4, q5, q6, q7, q8, q9⟩ := zv u
         clear u
         go_simp
         exact hK'
      refine zB rfl ?_
      intro K' hK'
      go_simp
      refine (HI.out y1 (HXX.out _ F0.out)).mono ?_
      rintro e y3 ⟨rfl, hb3⟩
      have F3 := zH (F0.out.trans (hb3.mono F0.out.size))
      refine hK' _ _ (HDD.out _ F3.out) ?_
      clear hK' K' hb3
      refine zB rfl ?_
      intro K' hK'
      go_simp
      refine (HK.out y3 (HXX.out _ F3.out)).mono ?_
      rintro e y4 ⟨rfl, hb4⟩
      have F4 := zH (F3.out.trans (hb4.mono F3.out.size))
      refine hK' _ _ (HDD.out _ F4.out) ?_
      clear hK' K' hb4
      repeat
       apply zt rfl
       · rintro K' hK' X u
         obtain ⟨q0, q1, q2, q3, q4, q5, q6, q7, q8, q9⟩ := zv u
         clear u
         go_simp
         exact hK'
      refine zG ?_
      have HBf := zH (hb.out.trans (F4.out.mono hsz))
      by_cases hkk : ki = kk
      · have hR : Hid (R = (p : Int)) := HFD3.out hkk hno.out
        subst hkk
        clear HFD3 F0 F3 F4 HDD HXX HI HK
        go_wp2_with fail
        go_ret
        exact ⟨by rw [hR.out]; rfl, HB.out.trans (HBf.out.mono (by omega))⟩
      · have q1 : (ki == kk) = false := by simpa using hkk
        have hno2 : Hid (∀ q ∈ zn G (p + 1), (xF s q).getD i 0 ≠ (xF s q).getD k 0) := fun q hq => by
         rw [HE.out] at hq
         rcases List.mem_append.1 hq with h | h
         · exact hno.out q h
         · rw [List.mem_singleton] at h
           subst h
           rw [HKI.out, HKK.out]; exact hkk
        clear HFD3 F0 F3 F4 HDD HXX HI HK
        go_wp2_with fail
        go_roundw
        case rel => exact ⟨p + 1, by omega, by go_num, hno2, HBf⟩
        case measure => simp [intOf]; omega
    · have hbf : G.testBit p = false := by simpa using hbit
      have hc := HHA.out p hlt wr.drew
      rw [hbf] at hc
      have HC := zH hc
      have HE : Hid (zn G (p + 1) = zn G p) := HBT.out.trans (if_neg hbit)
      clear hc hbit HFD2 HBT hbf
      go_wp2_with fail
      refine zo [(0, true), (1, true), (2, false), (3, true), (4, true), (5, true), (6, true), (8, true), (9, true), (10, true), (7, false), (11, false), (12, true), (13, true)] (fun X => X.heap[w.heap.size]? = some (.cells #[.int .i64 s.p.t.n, .int .i64 s.p.t.ins, .int .i64 s.p.t.outs, .slice A s.p.t.cases.length kc, .int .i64 s.p.a.n, .slice SV s.p.a.sts.length ks, .int .i64 s.p.k, .int .i64 s.n, .slice AV s.vs.length kv, .slice AX s.xs.length kx] 35 (0, 0))) (by kernel_rfl) (by kernel_rfl) (HDD.out _ F0.out) ?_
      obtain ⟨y1, hy1⟩ : ∃ y1, wr.drew = y1 := ⟨_, rfl⟩
      rw [hy1] at F0 HC ⊢
      clear hy1 p0 p1 p2 p3 p4 p5 p6 p7 p8 p9
      repeat
       apply zt rfl
       · rintro K' hK' X u
         obtain ⟨q0, q1, q2, q3, q4, q5, q6, q7, q8, q9⟩ := zv u
         clear u
         go_simp
         exact hK'
      refine zB rfl ?_
      intro K' hK'
      go_simp
      refine HC.out.mono ?_
      rintro e y2 ⟨rfl, hy2⟩
      obtain rfl := hy2
      refine hK' _ _ (HDD.out _ F0.out) ?_
      clear hK' K' HC
      repeat
       apply zt rfl
       · rintro K' hK' X u
         obtain ⟨q0, q1, q2, q3, q4, q5, q6, q7, q8, q9⟩ := zv u
         clear u
         go_simp
         exact hK'
      refine zB rfl ?_
      intro K' hK'
      go_simp
      refine hK' _ _ (HDD.out _ F0.out) ?_
      clear hK' K'
      refine zB rfl ?_
      intro K' hK'
      go_simp
      refine hK' _ _ (HDD.out _ F0.out) ?_
      clear hK' K'
      repeat
       apply zt rfl
       · rintro K' hK' X u
         obtain ⟨q0, q1, q2, q3, q4, q5, q6, q7, q8, q9⟩ := zv u
         clear u
         go_simp
         exact hK'
      refine zG ?_
      have HBf := zH (hb.out.trans (F0.out.mono hsz))
      have hno2 : Hid (∀ q ∈ zn G (p + 1), (xF s q).getD i 0 ≠ (xF s q).getD k 0) := by rw [HE.out]; exact hno
      clear F0 HDD HXX HI HK
      go_wp2_with fail
      go_roundw
      case rel => exact ⟨p + 1, by omega, by go_num, hno2, HBf⟩
      case measure => simp [intOf]; omega
  · obtain rfl : N = p := by omega
    have hnn : ¬ (N : Int) < s.n := by have := HN.out; omega
    have hR : Hid (R = -1) := HNO.out hno.out
    go_wp2_with fail
    go_ret
    exact ⟨by rw [hR.out]; rfl, HB.out.trans (hb.out.mono (by omega))⟩
end
section
open Go.RowKit Go.Shelf
attribute [local go_sem] Oper.semAt_some
def kz (set : List Bool) (k : Nat) : List Int := (List.range set.length).map fun i => if i < k then (if set.getD i false = true then -1 else 0) else 0
theorem vB (set : List Bool) (k : Nat) : (kz set k).length = set.length := by simp [kz]
theorem begL_zero (set : List Bool) : kz set 0 = List.replicate set.length 0 := by
 refine List.ext_getElem (by simp [kz]) fun i h1 h2 => ?_
 simp [kz]
theorem begL_set (set : List Bool) (k : Nat) (_hk : k < set.length) : (kz set k).set k (if set.getD k false = true then -1 else 0) = kz set (k + 1) := by
 refine List.ext_getElem (by simp [kz]) fun i h1 h2 => ?_
 rw [List.getElem_set]
 by_cases e : k = i
 · subst e; simp [kz]
 · have e1 : i < k + 1 ↔ i < k := by omega
   simp [kz, e, e1]
theorem begL_at (set : List Bool) (i : Nat) (hi : i < set.length) : (kz set set.length).getD i 0 = if i ∈ zX set then 0 else -1 := by
 rw [zD (by rw [vB]; exact hi)]
 simp only [kz, List.getElem_map, List.getElem_range, hi, if_true]
 by_cases h : set.getD i false = true
 · rw [if_pos h, if_neg]
   intro hm
   have := (kZ.1 hm).2
   rw [h] at this; cases this
 · rw [if_neg h, if_pos]
   exact kZ.2 ⟨hi, by simpa using h⟩
set_option maxRecDepth 100000 in
theorem rfar_any (s : Sy) (K N : Nat) (hF : Fine s K N) (G : Nat) (hG : G < 2 ^ N) (set : List Bool) (hsl : set.length = ptn s) (A SV AV AX AB : Option Addr) (kc ks kv kx kb : Nat) (w : World) (hX : XAt w w.heap.size AX s.xs) (hB0 : BAt w w.heap.size AB set) :
  Calls Tryz.prog 73 #[.agg (s.vs_ A kc SV ks AV kv AX kx), .int .i64 (G : Int), .slice AB set.length kb] w fun e w' => ∃ g : Nat, e = .returned (.slice (some ⟨g, 0, none⟩) set.length set.length) ∧ RowAt w' g (uc (ptn s) (xh s G) (zX set)) ∧ Below w.heap.size w w' := by
 obtain ⟨w1, hw1, d0, hs1, hB⟩ := zj w (s.vs_ A kc SV ks AV kv AX kx) 35
 have HBY := zH (fun (i k : Nat) (hi : i < ptn s) (hk : k < ptn s) (X : World) (hX : XAt X X.heap.size AX s.xs) => QK s K N hF G hG i k hi hk A SV AV AX kc ks kv kx X hX)
 have HBA : Hid (∀ i k, 0 ≤ byE (psG s G) (zS s) i k ↔ xh s G i k) := fun i k => uZ _ _ i k
 have hpn : ptn s ≤ 700 := by
  have hk := hF.k
  have hk6 := hF.k6
  have := Nat.mul_le_mul hF.lx (show s.p.k.toNat + 1 ≤ 7 by omega)
  unfold ptn; omega
 have HAT := zH (fun i (hi : i < set.length) => begL_at set i hi)
 have HEND := zH (fun (f : List Int) (hl : f.length = ptn s) (h : Far (ptn s) (xh s G) (fun i => i ∈ zX set) (fun i => f.getD i 0)) => qm hl h)
 obtain ⟨BY, hBY⟩ : ∃ BY, byE (psG s G) (zS s) = BY := ⟨_, rfl⟩
 obtain ⟨ADJ, hADJ⟩ : ∃ ADJ, xh s G = ADJ := ⟨_, rfl⟩
 rw [hBY] at HBY HBA
 rw [hADJ] at HBA HEND ⊢
 obtain ⟨n, hn⟩ : ∃ n, ptn s = n := ⟨_, rfl⟩
 rw [hn] at HBY hpn HEND hsl ⊢
 subst hsl
 have HX := zH (hX.keep hB)
 have HBS := zH (hB0.keep hB)
 have hmk := Zp set.length (by omega)
 obtain ⟨Z, hZ⟩ : ∃ Z, ((List.replicate set.length 0).map (Value.int .i64)).toArray = Z := ⟨_, rfl⟩
 rw [hZ] at hmk
 have HZ := zH hZ
 unfold Sy.vs_ at hw1 d0 HBY ⊢
 have HW1 := zH hw1
 have HB := zH hB
 have HD := zH d0
 clear hw1 d0 hB hF hX hB0 hn hBY hADJ hG hZ
 go_enter Tryz.func73, Tryz.ntmps73
 go_wp2_with fail
 rw [HW1.out]
 clear HW1
 go_upto_region 2 with fail
 obtain ⟨w2, hw2, d2, hs2, hb2⟩ := zj w1 Z 3
 rw [hw2]
 have HR2 : Hid (RowAt w2 w1.heap.size (kz set 0)) := by show RowAt _ _ _; rw [begL_zero]; unfold RowAt; rw [HZ.out]; exact d2
 have HB2 := zH hb2
 clear hw2 d2 hb2 hmk
 rw [hs1] at HR2
 try rw [hs1]
 go_wp2_with fail
 go_loopw [8] (fun i wr => ∃ k : Nat, k ≤ set.length ∧ i = .int .i64 (k : Int) ∧ Hid (RowAt wr (w.heap.size + 1) (kz set k)) ∧ Hid (Below w1.heap.size w1 wr)) (fun i _ => set.length - (intOf i).toNat)
 case atStart => exact ⟨0, by omega, rfl, HR2, HB2⟩
 case round =>
  obtain ⟨k, hk, rfl, HR, HBw⟩ := hrel
  clear HR2 HB2
  by_cases hlt : k < set.length
  · have y0 := HR.out.cell k (by rw [vB]; exact hlt)
    have f0 := HR.out.froz k
    have l0 := HR.out.lt
    have hset := begL_set set k hlt
    have hgs : set.getD k false = set[k] := by rw [List.getD_eq_getElem?_getD, List.getElem?_eq_getElem hlt]; rfl
    rw [hgs] at hset
    have hsz := HBw.out.size
    obtain ⟨bb, ob, eB, hbb, z0⟩ := (HBS.out.keep (HBw.out.mono (by omega))).at_ k hlt
    subst eB
    obtain ⟨v, hv⟩ : ∃ v, set[k] = v := ⟨_, rfl⟩
    rw [hv] at hset z0
    have HSET := zH hset
    have hk0 : (0 : Int) ≤ (k : Int) := by omega
    have hk1 : (k : Int) < (set.length : Int) := by omega
    have HRs1 := zH (HR.out.set k (-1))
    have HBs1 := zH (HBw.out.setCell (p := ⟨w.heap.size + 1, k, none⟩) (by show w1.heap.size ≤ w.heap.size + 1; omega) (.int .i64 (-1)))
    have z1 : (wr.setCell ⟨w.heap.size + 1, k, none⟩ (.int .i64 (-1))).cell? ⟨bb, ob + k, none⟩ = some (.bool v) := (World.cell?_of_block (Below.heap_setCell wr ⟨w.heap.size + 1, k, none⟩ _ bb (by show bb ≠ w.heap.size + 1; omega))).trans z0
    clear hset hgs hv z0
    cases v with
    | true =>
     have HRn : Hid (RowAt (wr.setCell ⟨w.heap.size + 1, k, none⟩ (.int .i64 (-1))) (w.heap.size + 1) (kz set (k + 1))) := by
      have h1 := HRs1.out
      have h2 := HSET.out
      rw [if_pos rfl] at h2
      rwa [h2] at h1
     clear HSET HRs1
     go_upto_region 6 with fail
     obtain ⟨W4, hW4⟩ : ∃ W4, wr.setCell ⟨w.heap.size + 1, k, none⟩ (.int .i64 (-1)) = W4 := ⟨_, rfl⟩
     rw [hW4] at HRn HBs1 z1 ⊢
     clear hW4 y0 f0 l0 HR HBw
     go_wp2_with fail
     go_roundw
     case rel => exact ⟨k + 1, by omega, by go_num, HRn, HBs1⟩
     case measure => simp [intOf]; omega
    | false =>
     go_upto_region 6 with fail
     obtain ⟨W4, hW4⟩ : ∃ W4, wr.setCell ⟨w.heap.size + 1, k, none⟩ (.int .i64 (-1)) = W4 := ⟨_, rfl⟩
     rw [hW4] at HRs1 HBs1 z1 ⊢
     have y4 := HRs1.out.cell k (by rw [List.length_set, vB]; exact hlt)
     have f4 := HRs1.out.froz k
     have l4 := HRs1.out.lt
     have HRn : Hid (RowAt (W4.setCell ⟨w.heap.size + 1, k, none⟩ (.int .i64 0)) (w.heap.size + 1) (kz set (k + 1))) := by
      have h1 := HRs1.out.set k 0
      have h2 := HSET.out
      rw [if_neg (by simp)] at h2
      rw [List.set_set, h2] at h1
      exact h1
     have HBn := zH (HBs1.out.setCell (p := ⟨w.heap.size + 1, k, none⟩) (by show w1.heap.size ≤ w.heap.size + 1; omega) (.int .i64 0))
     clear hW4 y0 f0 l0 HR HBw HSET HRs1
     go_wp2_with fail
     go_roundw
     case rel => exact ⟨k + 1, by omega, by go_num, HRn, HBn⟩
     case measure => simp [intOf]; omega
  · obtain rfl : set.length = k := by omega
    have HI0 : Hid (FarI set.length ADJ (fun i => i ∈ zX set) 0 (fun i => (kz set set.length).getD i 0)) := FarI.start fun i hi => ⟨fun h => by
     show (kz set set.length).getD i 0 = 0
     rw [HAT.out i hi, if_pos h], fun h => by
     show (kz set set.length).getD i 0 = -1
     rw [HAT.out i hi, if_neg h]⟩
    have HL0 : Hid ((kz set set.length).length = set.length) := vB _ _
    clear hlt HAT
    go_wp2_with fail
    go_loopw [9] (fun j wr => ∃ (d : Nat) (f : List Int), d ≤ set.length ∧ j = .int .i64 (d : Int) ∧ Hid (f.length = set.length) ∧ Hid (FarI set.length ADJ (fun i => i ∈ zX set) d (fun i => f.getD i 0)) ∧ Hid (RowAt wr (w.heap.size + 1) f) ∧ Hid (Below w1.heap.size w1 wr)) (fun j _ => set.length - (intOf j).toNat)
    case atStart => exact ⟨0, _, by omega, rfl, HL0, HI0, HR, HBw⟩
    case round =>
     obtain ⟨d, f, hd, rfl, HL, HI, HR1, HB1⟩ := hrel
     clear HL0 HI0 HR HBw
     by_cases hdl : d < set.length
     · have hd1 : (d : Int) < (set.length : Int) := by omega
       have HJ0 := zH HI.out.open
       clear HI
       go_wp2_with fail
       go_loopw [10] (fun j wr => ∃ (i : Nat) (f : List Int), i ≤ set.length ∧ j = .int .i64 (i : Int) ∧ Hid (f.length = set.length) ∧ Hid (FarJ set.length ADJ (fun i => i ∈ zX set) d i (fun i => f.getD i 0)) ∧ Hid (RowAt wr (w.heap.size + 1) f) ∧ Hid (Below w1.heap.size w1 wr)) (fun j _ => set.length - (intOf j).toNat)
       case atStart => exact ⟨0, f, by omega, rfl, HL, HJ0, HR1, HB1⟩
       case round =>
        obtain ⟨i, f, hi, rfl, HL, HJ, HR1, HB1⟩ := hrel
        clear HJ0
        by_cases hil : i < set.length
        · have hi0 : (0 : Int) ≤ (i : Int) := by omega
          have hi1 : (i : Int) < (set.length : Int) := by omega
          go_wp2_with fail
          go_loopw [11] (fun j wr => ∃ (m : Nat) (f2 : List Int), m ≤ set.length ∧ j = .int .i64 (m : Int) ∧ Hid (f2.length = set.length) ∧ Hid (RowAt wr (w.heap.size + 1) f2) ∧ Hid (Below w1.heap.size w1 wr) ∧ Hid ((f2 = f ∧ ∀ k, k < m → f.getD k 0 = (d : Int) → BY i k < 0) ∨ (FarJ set.length ADJ (fun i => i ∈ zX set) d (i + 1) (fun i => f2.getD i 0) ∧ 0 ≤ f2.getD i 0))) (fun j _ => set.length - (intOf j).toNat)
          case atStart => exact ⟨0, f, by omega, rfl, HL, HR1, HB1, .inl ⟨rfl, fun k hk => absurd hk (by omega)⟩⟩
          case round =>
           obtain ⟨m, f2, hm, rfl, HL2, HR2, HB2, HOR⟩ := hrel
           clear HL HR1 HB1
           have hif : i < f2.length := by rw [HL2.out]; exact hil
           have y0 := HR2.out.cell i hif
           rw [← zD hif 0] at y0
           obtain ⟨fi, hfi⟩ : ∃ fi, f2.getD i 0 = fi := ⟨_, rfl⟩
           rw [hfi] at y0
           have HFI := zH hfi
           clear hfi
           by_cases hml : m < set.length
           · have hm0 : (0 : Int) ≤ (m : Int) := by omega
             have hm1 : (m : Int) < (set.length : Int) := by omega
             by_cases hneg : fi < 0
             · have hA : f2 = f ∧ ∀ k, k < m → f.getD k 0 = (d : Int) → BY i k < 0 := by
                rcases HOR.out with h | ⟨_, h⟩
                · exact h
                · rw [HFI.out] at h; omega
               obtain ⟨hff, hno⟩ := hA
               subst hff
               have HNO := zH hno
               have hmf : m < f2.length := by rw [HL2.out]; exact hml
               have y1 := HR2.out.cell m hmf
               rw [← zD hmf 0] at y1
               obtain ⟨fm, hfm⟩ : ∃ fm, f2.getD m 0 = fm := ⟨_, rfl⟩
               rw [hfm] at y1
               have HFM := zH hfm
               clear hno hfm HOR
               by_cases hfd : fm = (d : Int)
               · subst hfd
                 have hsz := HB2.out.size
                 have dd := (HB2.out.block _ (zd HD.out)).trans HD.out
                 obtain ⟨p0, p1, p2, p3, p4, p5, p6, p7, p8, p9⟩ := zv (dd)
                 clear dd
                 have HC := zH (HBY.out i m hil hml wr ((HX.out.keep (HB2.out.mono (by omega))).more (by omega)))
                 have HBI := zH (HBA.out i m)
                 obtain ⟨bv, hbv⟩ : ∃ bv, BY i m = bv := ⟨_, rfl⟩
                 rw [hbv] at HC HBI
                 have HBV := zH hbv
                 clear hbv
                 go_wp2_with fail
                 refine HC.out.mono ?_
                 rintro e w5 ⟨rfl, hb5⟩
                 have HR5 : Hid (RowAt w5 (w.heap.size + 1) f2) := (hb5.block _ HR2.out.lt).trans HR2.out
                 have HB5 := zH (HB2.out.trans (hb5.mono hsz))
                 clear hb5 HC p0 p1 p2 p3 p4 p5 p6 p7 p8 p9 y0 y1 HR2 HB2
                 by_cases hbn : 0 ≤ bv
                 · have y5 := HR5.out.cell i hif
                   have f5 := HR5.out.froz i
                   have l5 := HR5.out.lt
                   have hnew : FarJ set.length ADJ (fun i => i ∈ zX set) d (i + 1) (fun j => (f2.set i ((d : Int) + 1)).getD j 0) := HJ.out.set (k := m) hil hml (HBI.out.1 hbn) HFM.out (by show f2.getD i 0 < 0; rw [HFI.out]; exact hneg) (fun j => by rw [vt hif])
                   have HNEW : Hid ((f2.set i ((d : Int) + 1) = f2 ∧ ∀ k, k < m + 1 → f2.getD k 0 = (d : Int) → BY i k < 0) ∨ (FarJ set.length ADJ (fun i => i ∈ zX set) d (i + 1) (fun j => (f2.set i ((d : Int) + 1)).getD j 0) ∧ 0 ≤ (f2.set i ((d : Int) + 1)).getD i 0)) := .inr ⟨hnew, by rw [vt hif, if_pos rfl]; omega⟩
                   have hwd : IntKind.i64.wrap ((d : Int) + 1) = (d : Int) + 1 := by rw [IntKind.wrap_i64]; omega
                   have HRn := zH (HR5.out.set i ((d : Int) + 1))
                   have HBn := zH (HB5.out.setCell (p := ⟨w.heap.size + 1, i, none⟩) (by show w1.heap.size ≤ w.heap.size + 1; omega) (.int .i64 ((d : Int) + 1)))
                   have HLn : Hid ((f2.set i ((d : Int) + 1)).length = set.length) := by show _ = _; rw [List.length_set]; exact HL2.out
                   clear hnew HNO HJ HR5 HB5 HFM HFI HL2 HBI HBV
                   go_wp2_with fail
                   go_roundw
                   case rel => exact ⟨m + 1, _, by omega, by go_num, HLn, HRn, HBn, HNEW⟩
                   case measure => simp [intOf]; omega
                 · have HN2 : Hid (∀ k, k < m + 1 → f2.getD k 0 = (d : Int) → BY i k < 0) := fun k hk he => by
                    by_cases e : k = m
                    · subst e; rw [HBV.out]; omega
                    · exact HNO.out k (by omega) he
                   have hbn2 : ¬ 0 ≤ bv := hbn
                   clear HNO HFM HFI HBI HBV
                   go_wp2_with fail
                   go_roundw
                   case rel => exact ⟨m + 1, f2, by omega, by go_num, HL2, HR5, HB5, .inl ⟨rfl, HN2.out⟩⟩
                   case measure => simp [intOf]; omega
               · have HN2 : Hid (∀ k, k < m + 1 → f2.getD k 0 = (d : Int) → BY i k < 0) := fun k hk he => by
                   by_cases e : k = m
                   · subst e; rw [HFM.out] at he; exact absurd he hfd
                   · exact HNO.out k (by omega) he
                 have q1 : (fm == (d : Int)) = false := by simpa using hfd
                 clear HNO HFM HFI
                 go_wp2_with fail
                 go_roundw
                 case rel => exact ⟨m + 1, f2, by omega, by go_num, HL2, HR2, HB2, .inl ⟨rfl, HN2.out⟩⟩
                 case measure => simp [intOf]; omega
             · have HJ2 : Hid (FarJ set.length ADJ (fun i => i ∈ zX set) d (i + 1) (fun j => f2.getD j 0)) := by
                rcases HOR.out with ⟨h, _⟩ | ⟨h, _⟩
                · subst h
                  exact HJ.out.skip (.inl (by show 0 ≤ f2.getD i 0; rw [HFI.out]; omega))
                · exact h
               clear HOR HJ HFI
               go_wp2_with fail
               go_roundw
               case rel => exact ⟨i + 1, f2, by omega, by go_num, HL2, HJ2, HR2, HB2⟩
               case measure => simp [intOf]; omega
           · obtain rfl : set.length = m := by omega
             have hmm : ¬ (set.length : Int) < (set.length : Int) := by omega
             have HJ2 : Hid (FarJ set.length ADJ (fun i => i ∈ zX set) d (i + 1) (fun j => f2.getD j 0)) := by
              rcases HOR.out with ⟨h, h2⟩ | ⟨h, _⟩
              · subst h
                refine HJ.out.skip (.inr fun k hk ha he => ?_)
                have := h2 k hk he
                have := (HBA.out i k).2 ha
                omega
              · exact h
             clear HOR HJ HFI y0
             go_wp2_with fail
             go_roundw
             case rel => exact ⟨i + 1, f2, by omega, by go_num, HL2, HJ2, HR2, HB2⟩
             case measure => simp [intOf]; omega
        · obtain rfl : set.length = i := by omega
          have hnn : ¬ (set.length : Int) < (set.length : Int) := by omega
          have HI2 := zH HJ.out.shut
          clear HJ
          go_wp2_with fail
          go_roundw
          case rel => exact ⟨d + 1, f, by omega, by go_num, HL, HI2, HR1, HB1⟩
          case measure => simp [intOf]; omega
     · obtain rfl : set.length = d := by omega
       have hnn : ¬ (set.length : Int) < (set.length : Int) := by omega
       have hfar := HEND.out f HL.out HI.out.far
       have HE2 := zH hfar
       clear hfar HI HEND
       go_wp2_with fail
       go_ret
       refine ⟨w.heap.size + 1, rfl, ?_, HB.out.trans (HB1.out.mono (by omega))⟩
       rw [HE2.out]
       exact HR1.out
end
section
open Go.RowKit Go.Shelf
attribute [local go_sem] Oper.semAt_some
noncomputable def ua (s : Sy) (g : Int) (q : Nat) (set : List Bool) : List (Int × Int) × Bool :=
 if (uc (ptn s) (xh s g) (zX set)).getD q 0 < 0 then ([], false) else (yV (uc (ptn s) (xh s g) (zX set)) (ptn s) (zL (psG s g) (zS s)) q, true)
theorem JE {W : World} {g base : Nat} {x y : Int} (h : W.heap[g]? = some (.cells #[.int .i64 x, .int .i64 y] 143 (0, 0))) (hb : base ≤ g) : OwnR kRs W base (.slice (some ⟨g, 0, none⟩) 1 1) 1 (xt [(x, y)]) :=
 ⟨by simp [xt, kRs], .inr ⟨g, 1, _, rfl, hb, h, Nat.le_refl _, by unfold maxLen; omega, by simp [kRs], by simp [xt, kRs]⟩⟩
set_option maxRecDepth 100000 in
theorem XK (s : Sy) (K N : Nat) (hF : Fine s K N) (G : Nat) (hG : G < 2 ^ N) (q0 : Nat) (hq : q0 < ptn s) (set : List Bool) (hsl : set.length = ptn s) (A SV AV AX AB : Option Addr) (kc ks kv kx kb : Nat) (w : World) (hX : XAt w w.heap.size AX s.xs) (hB0 : BAt w w.heap.size AB set) :
  Calls Tryz.prog 75 #[.agg (s.vs_ A kc SV ks AV kv AX kx), .int .i64 (G : Int), .int .i64 (q0 : Int), .slice AB set.length kb] w fun e w' => ∃ A' c, e = .returned (.tuple #[.slice A' (ua s G q0 set).1.length c, .bool (ua s G q0 set).2]) ∧ (ua s G q0 set).1.length ≤ c ∧ c ≤ maxLen ∧ TAt w' w'.heap.size A' (ua s G q0 set).1 ∧ Below w.heap.size w w' := by
 obtain ⟨w1, hw1, d0, hs1, hB⟩ := zj w (s.vs_ A kc SV ks AV kv AX kx) 35
 have HBY := zH (fun (i k : Nat) (hi : i < ptn s) (hk : k < ptn s) (X : World) (hX : XAt X X.heap.size AX s.xs) => QK s K N hF G hG i k hi hk A SV AV AX kc ks kv kx X hX)
 have HFC := zH (rfar_any s K N hF G hG set hsl A SV AV AX AB kc ks kv kx kb w1 ((hX.keep hB).more hB.size) ((hB0.keep hB).more hB.size))
 have hpn : ptn s ≤ 700 := by
  have hk := hF.k
  have hk6 := hF.k6
  have := Nat.mul_le_mul hF.lx (show s.p.k.toNat + 1 ≤ 7 by omega)
  unfold ptn; omega
 obtain ⟨f, hfl, hfar⟩ := Qo (ptn s) (xh s G) (fun i => i ∈ zX set)
 have hfc : uc (ptn s) (xh s G) (zX set) = f := qm hfl hfar
 have HLN : Hid (∀ p ∈ psG s G, (zS s p).length = ptn s) := fun p _ => gx s p
 have HAS : Hid ((psG s G).Pairwise (· < ·)) := ZR s G
 have hbest := fun (d : Int) (i q p : Nat) (hq : q < ptn s) (hfq : f.getD q 0 = d) (hby : byE (psG s G) (zS s) i q = (p : Int)) (hmin : ∀ k, k < q → f.getD k 0 = d → byE (psG s G) (zS s) i k < 0) => best_by HLN.out HAS.out hq hfq hby hmin
 have HBA : Hid (∀ i k, 0 ≤ byE (psG s G) (zS s) i k ↔ xh s G i k) := fun i k => uZ _ _ i k
 have hR0 : f.getD q0 0 < 0 → ua s G q0 set = ([], false) := fun h => by unfold ua; rw [hfc, if_pos h]
 have hR1 : ¬ f.getD q0 0 < 0 → ua s G q0 set = (yV f (ptn s) (zL (psG s G) (zS s)) q0, true) := fun h => by unfold ua; rw [hfc, if_neg h]
 rw [hfc] at HFC
 have HFAR := zH hfar
 obtain ⟨R, hR⟩ : ∃ R, ua s G q0 set = R := ⟨_, rfl⟩
 obtain ⟨BY, hBY⟩ : ∃ BY, byE (psG s G) (zS s) = BY := ⟨_, rfl⟩
 obtain ⟨NB, hNB⟩ : ∃ NB, zL (psG s G) (zS s) = NB := ⟨_, rfl⟩
 obtain ⟨ADJ, hADJ⟩ : ∃ ADJ, xh s G = ADJ := ⟨_, rfl⟩
 rw [hR] at hR0 hR1 ⊢
 rw [hBY] at HBY HBA hbest
 rw [hNB] at hR1 hbest
 rw [hADJ] at HBA HFAR
 obtain ⟨n, hn⟩ : ∃ n, ptn s = n := ⟨_, rfl⟩
 rw [hn] at HBY hpn HFAR hsl hR1 hbest hfl hq
 subst hsl
 have HR0 := zH hR0
 have HR1 := zH hR1
 have HBEST := zH hbest
 have HX := zH (hX.keep hB)
 unfold Sy.vs_ at hw1 d0 HBY HFC ⊢
 have HW1 := zH hw1
 have HB := zH hB
 have HD := zH d0
 clear hw1 hB hF hX hB0 hn hBY hNB hADJ hG hfc hR0 hR1 hbest hR hfar HLN HAS
 obtain ⟨p0, p1, p2, p3, p4, p5, p6, p7, p8, p9⟩ := zv (d0)
 clear d0
 go_enter Tryz.func75, Tryz.ntmps75
 go_wp2_with fail
 rw [HW1.out]
 clear HW1
 go_wp2_with fail
 refine HFC.out.mono ?_
 rintro e w2 ⟨g, rfl, hr2, hb2⟩
 have HBT : Hid (∀ X, Below w2.heap.size w2 X → Below w.heap.size w X) := fun X hX => HB.out.trans ((hb2.trans (hX.mono hb2.size)).mono HB.out.size)
 have HDW : Hid (∀ X, Below w2.heap.size w2 X → X.heap[w.heap.size]? = some (.cells #[.int .i64 s.p.t.n, .int .i64 s.p.t.ins, .int .i64 s.p.t.outs, .slice A s.p.t.cases.length kc, .int .i64 s.p.a.n, .slice SV s.p.a.sts.length ks, .int .i64 s.p.k, .int .i64 s.n, .slice AV s.vs.length kv, .slice AX s.xs.length kx] 35 (0, 0))) := fun X hX => ((hb2.trans (hX.mono hb2.size)).block _ (zd HD.out)).trans HD.out
 have HRW : Hid (∀ X, Below w2.heap.size w2 X → RowAt X g f) := fun X hX => (hX.block _ hr2.lt).trans hr2
 have HXW : Hid (∀ X, Below w2.heap.size w2 X → XAt X X.heap.size AX s.xs) := fun X hX => ((HX.out.keep ((hb2.trans (hX.mono hb2.size)).mono HB.out.size)).more (by have := hX.size; have := hb2.size; have := HB.out.size; omega))
 have y0 := hr2.cell q0 (by omega)
 rw [← zD (by omega : q0 < f.length) 0] at y0
 have hgl := hr2.lt
 have hq00 : (0 : Int) ≤ (q0 : Int) := by omega
 have hq01 : (q0 : Int) < (set.length : Int) := by omega
 obtain ⟨d, hd⟩ : ∃ d, f.getD q0 0 = d := ⟨_, rfl⟩
 rw [hd] at y0 HR0 HR1
 have HDD := zH hd
 have HB2 : Hid (Below w2.heap.size w2 w2) := Below.refl _ _
 clear hb2 hr2 HFC HX HD hd p0 p1 p2 p3 p4 p5 p6 p7 p8 p9
 by_cases hd0 : d < 0
 case pos =>
  have hR : Hid (R = ([], false)) := HR0.out hd0
  clear HR0 HR1
  go_wp2_with fail
  go_ret2
  rw [hR.out]
  exact ⟨none, 0, rfl, Nat.le_refl _, Nat.zero_le _, TAt.nil _ _ _, HBT.out _ HB2.out⟩
 case neg =>
 have hR : Hid (R = (yV f set.length NB q0, true)) := HR1.out (by omega)
 clear HR0 HR1
 obtain ⟨m0, rfl⟩ := Int.eq_ofNat_of_zero_le (show 0 ≤ d by omega)
 have HO0 : Hid (OwnR kRs (w2.alloc (.cells #[.int .i64 (q0 : Int), .int .i64 (-1)] 143)) w2.heap.size (.slice (some ⟨w2.heap.size, 0, none⟩) 1 1) [((q0 : Int), (-1 : Int))].length (xt [((q0 : Int), -1)])) := JE (zh w2 _) (Nat.le_refl _)
 have HB0 : Hid (Below w2.heap.size w2 (w2.alloc (.cells #[.int .i64 (q0 : Int), .int .i64 (-1)] 143))) := zF w2 _
 have HL0 : Hid ([((q0 : Int), (-1 : Int))] ++ kO (qv f set.length NB m0 q0) = yV f set.length NB q0) := by
  unfold yV
  rw [HDD.out]; rfl
 have hmP : m0 ≤ set.length := by
  have h9 := jU (f := fun i => f.getD i 0) HFAR.out.step hq
  change f.getD q0 0 < (set.length : Int) at h9
  have := HDD.out
  omega
 have HTOT : Hid ((yV f set.length NB q0).length ≤ set.length + 1) := by
  unfold yV kO
  rw [HDD.out, List.length_cons, List.length_map, jm, Int.toNat_natCast]
  show _ ≤ _
  omega
 have HQ : Hid (q0 < set.length ∧ f.getD q0 0 = (m0 : Int)) := ⟨hq, HDD.out⟩
 clear hd0 HDD hmP HB2
 go_wp2_with fail
 go_loopw [2, 11] (fun q o wr => ∃ (d p : Nat) (l : List (Int × Int)), q = .int .i64 (p : Int) ∧ Hid (p < set.length ∧ f.getD p 0 = (d : Int)) ∧ Hid (OwnR kRs wr w2.heap.size o l.length (xt l)) ∧ Hid (l ++ kO (qv f set.length NB d p) = yV f set.length NB q0) ∧ Hid (Below w2.heap.size w2 wr)) (fun q _ _ => (f.getD (intOf q).toNat 0).toNat)
 case atStart => exact ⟨m0, q0, _, rfl, HQ, HO0, HL0, HB0⟩
 case round =>
  obtain ⟨d, p, l, rfl, HP, HO, HL, HBw⟩ := hrel
  clear HO0 HL0 HB0 HQ y0 hq00 hq01 hgl
  have hpn2 := HP.out.1
  obtain ⟨Ao, co, rfl, hle, hmx, _⟩ := HO.out.form
  have hp0 : (0 : Int) ≤ (p : Int) := by omega
  have hp1 : (p : Int) < (set.length : Int) := by omega
  have hpf : p < f.length := by omega
  have hrow := HRW.out wr HBw.out
  have y0 := hrow.cell p hpf
  rw [← zD hpf 0, HP.out.2] at y0
  have l0 := hrow.lt
  have hlen : l.length ≤ set.length + 1 := by
   have h1 := HTOT.out
   rw [← HL.out, List.length_append] at h1
   omega
  clear hrow
  cases d with
  | zero =>
   have hRl : Hid (l = yV f set.length NB q0) := by
    have := HL.out
    show l = _
    simpa [qv, kO] using this
   have HTA := zH (TAt.of_own (K := kRs) (base := w2.heap.size) (n := l.length) (c := co) HO.out rfl)
   have y0 : wr.cell? ⟨g, p, none⟩ = some (.int .i64 0) := y0
   have HLE := zH hle
   have HMX := zH hmx
   clear hle hmx
   go_wp2_with fail
   go_ret2
   rw [hR.out, ← hRl.out]
   exact ⟨Ao, co, rfl, HLE.out, HMX.out, HTA.out, HBT.out _ HBw.out⟩
  | succ d =>
   have y0 : wr.cell? ⟨g, p, none⟩ = some (.int .i64 ((d : Int) + 1)) := y0
   have hdp : (0 : Int) < (d : Int) + 1 := by omega
   have hd700 : d ≤ 700 := by
    have h9 := jU (f := fun i => f.getD i 0) HFAR.out.step hpn2
    change f.getD p 0 < (set.length : Int) at h9
    have := HP.out.2
    omega
   obtain ⟨k0, hk0, hka, hkd⟩ := HFAR.out.step p hpn2 (by show 0 < f.getD p 0; rw [HP.out.2]; omega)
   have HK0 : Hid (k0 < set.length ∧ f.getD k0 0 = (d : Int) ∧ 0 ≤ BY p k0) := ⟨hk0, by have : f.getD k0 0 = f.getD p 0 - 1 := hkd; rw [HP.out.2] at this; omega, (HBA.out p k0).2 hka⟩
   have hfp : f.getD p 0 = (d : Int) + 1 := HP.out.2
   have HFP := zH hfp
   have HNO0 : Hid (∀ k, k < 0 → f.getD k 0 = (d : Int) → BY p k < 0) := fun k hk => absurd hk (by omega)
   clear hka hkd hk0 hle hmx hfp
   go_wp2_with fail
   go_loopw [12] (fun j X => ∃ m : Nat, j = .int .i64 (m : Int) ∧ Hid (m ≤ k0) ∧ Hid (∀ k, k < m → f.getD k 0 = (d : Int) → BY p k < 0) ∧ Hid (OwnR kRs X w2.heap.size (.slice Ao l.length co) l.length (xt l)) ∧ Hid (Below w2.heap.size w2 X)) (fun j _ => k0 - (intOf j).toNat)
   case atStart => exact ⟨0, rfl, Nat.zero_le _, HNO0, HO, HBw⟩
   case round =>
    obtain ⟨m, rfl, HM, HNO, HO1, HB1⟩ := hrel
    clear HNO0 y0 HO HBw l0
    have hmk := HM.out
    have hm2 : m < set.length := by have := HK0.out.1; omega
    have hm0 : (0 : Int) ≤ (m : Int) := by omega
    have hm1 : (m : Int) < (set.length : Int) := by omega
    have hmf : m < f.length := by omega
    have hwd : IntKind.i64.wrap (d : Int) = (d : Int) := by rw [IntKind.wrap_i64]; omega
    obtain ⟨fm, hfm⟩ : ∃ fm, f.getD m 0 = fm := ⟨_, rfl⟩
    have HFM := zH hfm
    have hfp := HFP.out
    clear hfm
    by_cases hfd : fm = (d : Int)
    · subst hfd
      have F0 : Hid (Below wr.heap.size wr wr.drew) := (Below.refl _ _).drew
      have HC := zH (HBY.out p m hpn2 hm2 wr.drew (HXW.out _ HB1.out.drew))
      have HKP := zH (And.intro (HDW.out _ HB1.out.drew) (HRW.out _ HB1.out.drew))
      obtain ⟨bv, hbv⟩ : ∃ bv, BY p m = bv := ⟨_, rfl⟩
      rw [hbv] at HC
      have HBV := zH hbv
      clear hbv
      go_wp2_with fail
      refine zo [(0, true), (1, true), (2, true), (3, true), (4, true), (5, true), (6, true), (7, true), (8, true), (9, true), (10, true), (11, true), (12, true), (13, true), (14, true), (15, false), (16, true), (17, true)] (fun X => X.heap[w.heap.size]? = some (.cells #[.int .i64 s.p.t.n, .int .i64 s.p.t.ins, .int .i64 s.p.t.outs, .slice A s.p.t.cases.length kc, .int .i64 s.p.a.n, .slice SV s.p.a.sts.length ks, .int .i64 s.p.k, .int .i64 s.n, .slice AV s.vs.length kv, .slice AX s.xs.length kx] 35 (0, 0)) ∧ RowAt X g f) (by kernel_rfl) (by kernel_rfl) HKP.out ?_
      repeat
       apply zt rfl
       · rintro K' hK' X ⟨u, v⟩
         have z1 := v.cell m hmf
         have z2 := v.cell p hpf
         rw [← zD hmf 0, HFM.out] at z1
         rw [← zD hpf 0, hfp] at z2
         obtain ⟨q0, q1, q2, q3, q4, q5, q6, q7, q8, q9⟩ := zv (u)
         clear u v
         go_simp
         exact hK'
      refine zB rfl ?_
      intro K' hK'
      go_simp
      refine HC.out.mono ?_
      rintro e w5 ⟨rfl, hb5⟩
      have HB5 := zH (HB1.out.drew.trans (hb5.mono HB1.out.drew.size))
      have HO5 := zH (HO1.out.drew.below hb5 (Nat.le_refl _))
      refine hK' _ _ ⟨HDW.out _ HB5.out, HRW.out _ HB5.out⟩ ?_
      clear hK' K' hb5 HC HKP F0 HB1 HO1
      repeat
       apply zt rfl
       · rintro K' hK' X ⟨u, v⟩
         have z1 := v.cell m hmf
         have z2 := v.cell p hpf
         rw [← zD hmf 0, HFM.out] at z1
         rw [← zD hpf 0, hfp] at z2
         obtain ⟨q0, q1, q2, q3, q4, q5, q6, q7, q8, q9⟩ := zv (u)
         clear u v
         go_simp
         exact hK'
      refine zG ?_
      by_cases hbn : bv < 0
      · have HM2 : Hid (m + 1 ≤ k0) := by
         have h1 := HK0.out.2.2
         have h2 := HBV.out
         rcases Nat.lt_or_ge m k0 with h | h
         · exact h
         · obtain rfl : m = k0 := by omega
           rw [h2] at h1; omega
        have HN2 : Hid (∀ k, k < m + 1 → f.getD k 0 = (d : Int) → BY p k < 0) := fun k hk he => by
         by_cases e : k = m
         · subst e; rw [HBV.out]; exact hbn
         · exact HNO.out k (by omega) he
        have hmk2 := HM2.out
        go_wp2_with fail
        go_roundw
        case rel => exact ⟨m + 1, by go_num, HM2, HN2, HO5, HB5⟩
        case measure => simp [intOf]; omega
      · have HC := zH (HBY.out p m hpn2 hm2 w5 (HXW.out _ HB5.out))
        rw [HBV.out] at HC
        have dd := HDW.out _ HB5.out
        obtain ⟨p0, p1, p2, p3, p4, p5, p6, p7, p8, p9⟩ := zv (dd)
        clear dd
        obtain ⟨c, rfl⟩ := Int.eq_ofNat_of_zero_le (show 0 ≤ bv by omega)
        have HBE := zH (HBEST.out (d : Int) p m c hm2 HFM.out HBV.out HNO.out)
        have HLX : Hid ((l ++ [((m : Int), (c : Int))]) ++ kO (qv f set.length NB d m) = yV f set.length NB q0) := by
         rw [← HL.out, qv, HBE.out, List.append_assoc]
         rfl
        have HQ2 : Hid (m < set.length ∧ f.getD m 0 = (d : Int)) := ⟨hm2, HFM.out⟩
        go_wp2_with fail
        refine HC.out.mono ?_
        rintro e w6 ⟨rfl, hb6⟩
        have HB6 := zH (HB5.out.trans (hb6.mono HB5.out.size))
        have HO6 := zH (HO5.out.below hb6 (Nat.le_refl _))
        have hsz6 := HB6.out.size
        clear hb6 HC p0 p1 p2 p3 p4 p5 p6 p7 p8 p9 HB5 HO5
        go_wp2_with (at_builtin; go_must (refine yo kRs_ok rfl _ _ (by rfl) w2.heap.size (.slice Ao l.length co) l.length (xt l) (by rfl) (HO6.out.alloc _) w6.heap.size #[.int .i64 (m : Int), .int .i64 (c : Int)] (by rfl) (zh w6 _) rfl (by simp [Value.oneCell']) (by omega) (by simp; omega) _ rfl ?_); intro g' cap' w7 hr7 hg7 hat7 hlt7
                     have HR7 : Hid (OwnR kRs w7 w2.heap.size (.slice (some ⟨g', 0, none⟩) (l.length + 1) cap') (l ++ [((m : Int), (c : Int))]).length (xt (l ++ [((m : Int), (c : Int))]))) := by rw [Hid, vF, List.length_append, List.length_singleton]; exact hr7
                     have HB7 : Hid (Below w2.heap.size w2 w7) := HB6.out.trans (((zF w6 _).mono hsz6).grown hg7 (by simp; omega) (fun k hk => (HO6.out.lt k hk).1))
                     clear hr7 hg7 hat7 hlt7)
        go_roundw
        case rel => exact ⟨d, m, _, rfl, HQ2, HR7, HLX, HB7⟩
        case measure =>
         simp only [intOf, Int.toNat_natCast]
         rw [HFP.out, HQ2.out.2]
         omega
    · have HM2 : Hid (m + 1 ≤ k0) := by
       rcases Nat.lt_or_ge m k0 with h | h
       · exact h
       · obtain rfl : m = k0 := by omega
         have h1 := HK0.out.2.1
         rw [HFM.out] at h1
         exact absurd h1 hfd
      have HN2 : Hid (∀ k, k < m + 1 → f.getD k 0 = (d : Int) → BY p k < 0) := fun k hk he => by
       by_cases e : k = m
       · subst e; rw [HFM.out] at he; exact absurd he hfd
       · exact HNO.out k (by omega) he
      have hmk2 := HM2.out
      have qn : (fm != (d : Int)) = true := by simpa using hfd
      have hrow := HRW.out _ HB1.out.drew
      have z1 := hrow.cell m hmf
      have z2 := hrow.cell p hpf
      rw [← zD hmf 0, HFM.out] at z1
      rw [← zD hpf 0, hfp] at z2
      have HBd := zH HB1.out.drew
      have HOd := zH HO1.out.drew
      clear hrow HNO HB1 HO1
      go_wp2_with fail
      refine zo [(0, true), (1, true), (2, true), (3, true), (4, true), (5, true), (6, true), (7, true), (8, true), (9, true), (10, true), (11, true), (12, true), (13, true), (14, true), (15, false), (16, true), (17, true)] (fun X => X = wr.drew) (by kernel_rfl) (by kernel_rfl) rfl ?_
      repeat
       apply zt rfl
       · rintro K' hK' X rfl
         go_simp
         exact hK'
      refine zB rfl ?_
      intro K' hK'
      go_simp
      refine hK' _ _ rfl ?_
      clear hK' K'
      repeat
       apply zt rfl
       · rintro K' hK' X rfl
         go_simp
         exact hK'
      refine zG ?_
      obtain ⟨W5, hW5⟩ : ∃ W5, wr.drew = W5 := ⟨_, rfl⟩
      rw [hW5] at HOd HBd ⊢
      clear hW5 z1 z2
      go_wp2_with fail
      go_roundw
      case rel => exact ⟨m + 1, by go_num, HM2, HN2, HOd, HBd⟩
      case measure => simp [intOf]; omega
end
section
open Go.RowKit Go.Shelf
attribute [local go_sem] Oper.semAt_some
set_option maxRecDepth 100000 in
theorem ZO (s : Sy) (hs : LowS s) (hf : xO s.p) (g pt : Int) (set : List Bool) (A SV AV AX AB : Option Addr) (kc ks kv kx kb : Nat) (w : World) (hS : SyAt w w.heap.size A SV AV AX s) (hB0 : BAt w w.heap.size AB set) :
  Calls Tryz.prog 28 #[.agg (s.vs_ A kc SV ks AV kv AX kx), .int .i64 g, .int .i64 pt, .slice AB set.length kb] w (Jg (qJ s g pt set) w) := by
 obtain ⟨w1, hw1, d0, hs1, hB⟩ := zj w (s.vs_ A kc SV ks AV kv AX kx) 35
 have HV := zH (XH s hs hf g set A SV AV AX AB kc ks kv kx kb w1 (hS.up hB))
 have HS1 := zH (hS.up hB)
 have HBS := zH (hB0.keep hB)
 have HE0 : Hid (zC s g set ≠ 0 → qJ s g pt set = (([], false), zC s g set)) := fun h => if_pos h
 have HE1 : Hid (zC s g set = 0 → set.length = ptn s ∧ ∃ (K N G : Nat), Fine s K N ∧ G < 2 ^ N ∧ g = (G : Int) ∧ (pt < 0 ∨ (set.length : Int) ≤ pt → qJ s g pt set = (([], false), 6)) ∧ (∀ q : Nat, pt = (q : Int) → q < set.length → qJ s g pt set = (ua s G q set, 0))) := fun h => by
  obtain ⟨h0, hl⟩ := xX h
  obtain ⟨h1, h2, h3⟩ := wG h0
  obtain ⟨_, K, N, hF⟩ := qw hf h1
  have hn := hF.n
  rw [hn, Int.toNat_natCast] at h3
  refine ⟨hl, K, N, g.toNat, hF, ?_, by omega, ?_, ?_⟩
  · have : (g.toNat : Int) < ((2 ^ N : Nat) : Int) := by push_cast; omega
    exact_mod_cast this
  · intro hp
    unfold qJ
    rw [if_neg (by simpa using h), if_pos (by rw [← hl]; exact hp)]
  · intro q e hq
    subst e
    unfold qJ ua
    rw [if_neg (by simpa using h), if_neg (by omega), Int.toNat_of_nonneg h2, Int.toNat_natCast]
    split <;> rfl
 have HFR := zH (fun (K N : Nat) (hF : Fine s K N) (G : Nat) (hG : G < 2 ^ N) (q : Nat) (hq : q < ptn s) (hsl : set.length = ptn s) (X : World) (hX : XAt X X.heap.size AX s.xs) (hB : BAt X X.heap.size AB set) => XK s K N hF G hG q hq set hsl A SV AV AX AB kc ks kv kx kb X hX hB)
 obtain ⟨r, hr⟩ : ∃ r, zC s g set = r := ⟨_, rfl⟩
 rw [hr] at HV HE0 HE1
 obtain ⟨R, hRR⟩ : ∃ R, qJ s g pt set = R := ⟨_, rfl⟩
 rw [hRR] at HE0 HE1 ⊢
 unfold Sy.vs_ at hw1 d0 HV HFR ⊢
 have HW1 := zH hw1
 have HB := zH hB
 have HD := zH d0
 obtain ⟨p0, p1, p2, p3, p4, p5, p6, p7, p8, p9⟩ := zv (d0)
 clear hw1 d0 hB hS hr hRR hs hf hB0
 go_enter Tryz.func28, Tryz.ntmps28
 go_wp2_with fail
 rw [HW1.out]
 go_wp2_with fail
 refine HV.out.mono ?_
 rintro e w2 ⟨rfl, hb2⟩
 have HB2 := zH (HB.out.trans (hb2.mono (by omega)))
 have HS2 := zH (HS1.out.up hb2)
 have HBS2 := zH ((HBS.out.keep (hb2.mono (by omega))).more HB2.out.size)
 have d0 := (hb2.block _ (by omega : w.heap.size < w1.heap.size)).trans HD.out
 clear p0 p1 p2 p3 p4 p5 p6 p7 p8 p9 hb2 HV HW1 HD HS1 HBS
 obtain ⟨p0, p1, p2, p3, p4, p5, p6, p7, p8, p9⟩ := zv (d0)
 clear d0
 by_cases h0 : r = 0
 case neg =>
  have hR : Hid (R = (([], false), r)) := HE0.out h0
  have e0 : (r != 0) = true := by simpa using h0
  clear HE0 HE1 HFR
  go_wp2_with fail
  go_ret3
  rw [hR.out]
  exact ⟨none, 0, rfl, Nat.le_refl _, Nat.zero_le _, TAt.nil _ _ _, HB2.out⟩
 case pos =>
 subst h0
 obtain ⟨hsl, K, N, G, hF, hG, rfl, hRa, hRb⟩ := HE1.out rfl
 by_cases hpt : pt < 0 ∨ (set.length : Int) ≤ pt
 case pos =>
  have hR : Hid (R = (([], false), 6)) := hRa hpt
  clear HE0 HE1 HFR hRa hRb hF hG hsl
  by_cases h1 : pt < 0
  · go_wp2_with fail
    go_ret3
    rw [hR.out]
    exact ⟨none, 0, rfl, Nat.le_refl _, Nat.zero_le _, TAt.nil _ _ _, HB2.out⟩
  · have h2 : (set.length : Int) ≤ pt := by omega
    go_wp2_with fail
    go_ret3
    rw [hR.out]
    exact ⟨none, 0, rfl, Nat.le_refl _, Nat.zero_le _, TAt.nil _ _ _, HB2.out⟩
 case neg =>
 obtain ⟨q, rfl⟩ := Int.eq_ofNat_of_zero_le (show 0 ≤ pt by omega)
 have h1 : (0 : Int) ≤ (q : Int) := by omega
 have h2 : (q : Int) < (set.length : Int) := by omega
 have hR : Hid (R = (ua s G q set, 0)) := hRb q rfl (by omega)
 have HC := zH (HFR.out K N hF G hG q (by omega) hsl w2 HS2.out.fx HBS2.out)
 obtain ⟨FR, hFR⟩ : ∃ FR, ua s G q set = FR := ⟨_, rfl⟩
 rw [hFR] at HC hR
 clear HE0 HE1 hF hG HFR hRa hRb HS2 hsl HBS2 hpt hFR
 go_wp2_with fail
 refine HC.out.mono ?_
 rintro e w3 ⟨A5, c5, rfl, hle, hmx, hta, hb5⟩
 have HTA := zH hta
 have HB5 := zH (HB2.out.trans (hb5.mono HB2.out.size))
 have HLE := zH hle
 have HMX := zH hmx
 clear hta hb5 HC HB2 hle hmx p0 p1 p2 p3 p4 p5 p6 p7 p8 p9
 go_wp2_with fail
 go_ret3
 rw [hR.out]
 exact ⟨A5, c5, rfl, HLE.out, HMX.out, HTA.out, HB5.out⟩
end
section
open Go.RowKit
attribute [local go_sem] Oper.semAt_some
set_option maxRecDepth 100000 in
theorem Jo (A : Option Addr) (c : Nat) (ts : List (Int × Int)) (hl : ts.length ≤ 1000000) (w : World) (hT : TAt w w.heap.size A ts) :
  Calls Tryz.prog 30 #[.slice A ts.length c] w fun e w' => ∃ A' c', e = .returned (.slice A' ts.length c') ∧ TAt w' w'.heap.size A' ts ∧ Below w.heap.size w w' := by
 have HT := zH hT
 clear hT
 go_enter Tryz.func30, Tryz.ntmps30
 go_wp2_with fail
 go_loopw [3, 8] (fun o i wr => ∃ k : Nat, k ≤ ts.length ∧ i = .int .i64 (k : Int) ∧ Hid (OwnR kRs wr w.heap.size o k (xt (ts.take k))) ∧ Hid (Below w.heap.size w wr)) (fun _ i _ => ts.length - (intOf i).toNat)
 case atStart => exact ⟨0, by omega, rfl, OwnR.nil _ _ _, Below.refl _ _⟩
 case round =>
  obtain ⟨k, hk, rfl, HO, hb⟩ := hrel
  have hsz := hb.out.size
  obtain ⟨Ao, co, rfl, _, _, _⟩ := HO.out.form
  by_cases hlt : k < ts.length
  · obtain ⟨b, off, rfl, hbl, z0, z1⟩ := (HT.out.keep hb.out).at_ k hlt
    have HTK : Hid (xt (ts.take (k + 1)) = xt (ts.take k) ++ #[Value.int .i64 ts[k].1, .int .i64 ts[k].2].toList) := by
     rw [List.take_succ_eq_append_getElem hlt, Hid, vF]
    obtain ⟨x, hx⟩ : ∃ x, ts[k].1 = x := ⟨_, rfl⟩
    obtain ⟨y, hy⟩ : ∃ y, ts[k].2 = y := ⟨_, rfl⟩
    rw [hx] at HTK z0
    rw [hy] at HTK z1
    have hk0 : (0 : Int) ≤ (k : Int) := by omega
    have hk1 : (k : Int) < (ts.length : Int) := by omega
    clear hx hy
    go_upto_region 5 with fail
    obtain ⟨W2, hW2, d2, hs2, hb2⟩ := zj wr #[.int .i64 x, .int .i64 y] 75
    rw [hW2]
    have u0 := za d2 0 rfl
    have u1 := za d2 1 rfl
    have HO2 := zH (HO.out.below hb2 (Nat.le_refl _))
    have HB2 := zH (hb.out.trans (hb2.mono hsz))
    have hsz2 := HB2.out.size
    clear hW2 d2 hs2 hb2 HO hb hsz z0 z1
    go_wp2_with (at_builtin; go_must (refine yo kRs_ok rfl _ _ (by rfl) w.heap.size (.slice Ao k co) k (xt (ts.take k)) (by rfl) (HO2.out.alloc _) W2.heap.size #[.int .i64 x, .int .i64 y] (by rfl) (zh W2 _) rfl (by simp [Value.oneCell']) (by omega) (by simp; omega) _ rfl ?_); intro g' cap' w4 hr4 hg4 hat4 hlt4
                 have HR4 : Hid (OwnR kRs w4 w.heap.size (.slice (some ⟨g', 0, none⟩) (k + 1) cap') (k + 1) (xt (ts.take (k + 1)))) := by rw [HTK.out]; exact hr4
                 have HB4 : Hid (Below w.heap.size w w4) := HB2.out.trans (((zF W2 _).mono hsz2).grown hg4 (by simp; omega) (fun k hk => (HO2.out.lt k hk).1))
                 clear hr4 hg4 hat4 hlt4)
    go_roundw
    case rel => exact ⟨k + 1, by omega, by go_num, HR4, HB4⟩
    case measure => simp [intOf]; omega
  · obtain rfl : ts.length = k := by omega
    have HTA := zH (TAt.of_own (K := kRs) (base := w.heap.size) (n := ts.length) (c := co) (ts := ts) (by have := HO.out; rwa [List.take_length] at this) rfl)
    clear HO HT
    go_wp2_with fail
    go_ret
    exact ⟨Ao, co, rfl, HTA.out, hb.out⟩
end
section
open Go.RowKit
attribute [local go_sem] Oper.semAt_some
theorem wit_len {s : Sy} (hf : xO s.p) (g pt : Int) (set : List Bool) : (qJ s g pt set).1.1.length ≤ 1000 := by
 unfold qJ
 by_cases h : zC s g set = 0
 · rw [if_neg (by simpa using h)]
   by_cases hp : pt < 0 ∨ (ptn s : Int) ≤ pt
   · rw [if_pos hp]; simp
   · rw [if_neg hp]
     obtain ⟨h1, h2⟩ := xX h
     obtain ⟨f1, f2, f3⟩ := xU hf h1
     obtain ⟨f, hl, hfar⟩ := Qo (ptn s) (xh s g) (fun i => i ∈ zX set)
     rw [qm hl hfar]
     obtain ⟨q, rfl⟩ := Int.eq_ofNat_of_zero_le (show 0 ≤ pt by omega)
     have h9 := jU (f := fun i => f.getD i 0) hfar.step (i := q) (by omega)
     change f.getD q 0 < (ptn s : Int) at h9
     rw [Int.toNat_natCast]
     by_cases h0 : f.getD q 0 < 0
     · rw [if_pos h0]; simp
     · rw [if_neg h0]
       show (yV f (ptn s) (zL (psG s g) (zS s)) q).length ≤ 1000
       unfold yV kO
       rw [List.length_cons, List.length_map, jm]
       omega
 · rw [if_pos h]; simp
set_option maxRecDepth 100000 in
theorem gU (s : Sy) (hl : LowSy s) (A SV AV AX : Option Addr) (kc ks kv kx : Nat) (g pt : Int) (bs : List Bool) (AB : Option Addr) (kb : Nat) (w : World) (hS : SyAt w w.heap.size A SV AV AX s) (hb0 : BAt w w.heap.size AB bs) :
  Calls Tryz.prog 5 #[.agg (s.vs_ A kc SV ks AV kv AX kx), .agg #[.int .i64 g, .int .i64 pt, .slice AB bs.length kb]] w fun e w' => e = .returned (.bool true) ∧ Below w.heap.size w w' := by
 obtain ⟨w1, hw1, d0, d1, hs1, hB1⟩ := zW w (s.vs_ A kc SV ks AV kv AX kx) #[.int .i64 g, .int .i64 pt, .slice AB bs.length kb] 35 56
 have hS1 := hS.up hB1
 have hb1 := (hb0.keep hB1).more hB1.size
 have HF := zH (fewS_any s hl A SV AV AX kc ks kv kx w1 hS1)
 have C1 := zH (fun (h : vx s = true) (hq : bs.length ≤ 1000000) (X : World) (hX : Below w1.heap.size w1 X) => un s (qE hl h).2.2.1 (qE hl h).1 g pt bs A SV AV AX AB kc ks kv kx kb X (hS1.up hX) ((hb1.keep hX).more hX.size) hq)
 have C2 := zH (fun (h : vx s = true) (hq : bs.length ≤ 1000000) (X : World) (hX : Below w1.heap.size w1 X) => ZO s (qE hl h).2.2.1 (qE hl h).1 g pt bs A SV AV AX AB kc ks kv kx kb X (hS1.up hX) ((hb1.keep hX).more hX.size))
 have HLN : Hid (vx s = true → (qJ s g pt bs).1.1.length ≤ 1000) := fun h => wit_len (qE hl h).1 g pt bs
 unfold Sy.vs_ at hw1 d0 HF C1 C2 ⊢
 obtain ⟨R, hR⟩ : ∃ R, qJ s g pt bs = R := ⟨_, rfl⟩
 rw [hR] at C1 C2 HLN
 have HW1 := zH hw1
 have HB1 := zH hB1
 have HDB : Hid (∀ X, Below w1.heap.size w1 X → X.heap[w.heap.size]? = some (.cells #[.int .i64 s.p.t.n, .int .i64 s.p.t.ins, .int .i64 s.p.t.outs, .slice A s.p.t.cases.length kc, .int .i64 s.p.a.n, .slice SV s.p.a.sts.length ks, .int .i64 s.p.k, .int .i64 s.n, .slice AV s.vs.length kv, .slice AX s.xs.length kx] 35 (0, 0))) := fun X hX => (hX.block _ (zd d0)).trans d0
 have HDQ : Hid (∀ X, Below w1.heap.size w1 X → X.heap[w.heap.size + 1]? = some (.cells #[.int .i64 g, .int .i64 pt, .slice AB bs.length kb] 56 (0, 0))) := fun X hX => (hX.block _ (zd d1)).trans d1
 have G1 : Hid (Below w1.heap.size w1 w1) := Below.refl _ _
 obtain ⟨F, hF⟩ : ∃ F, vx s = F := ⟨_, rfl⟩
 rw [hF] at HF C1 C2 HLN
 clear hw1 d0 d1 hB1 hS hS1 hF hl hR hb0 hb1
 obtain ⟨p0, p1, p2, p3, p4, p5, p6, p7, p8, p9⟩ := zv (HDB.out _ G1.out)
 have q0 := za (HDQ.out _ G1.out) 0 rfl
 have q1 := za (HDQ.out _ G1.out) 1 rfl
 have q2 := za (HDQ.out _ G1.out) 2 rfl
 go_enter Tryz.func5, Tryz.ntmps5
 go_wp2_with fail
 rw [HW1.out]
 go_wp2_with fail
 refine HF.out.mono ?_
 rintro e w2 ⟨rfl, hb2⟩
 have G2 := zH (G1.out.trans (hb2.mono G1.out.size))
 clear hb2 HF HW1 p0 p1 p2 p3 p4 p5 p6 p7 p8 p9 q0 q1 q2
 cases F with
 | false =>
  clear C1 C2 HLN
  go_wp2_with fail
  refine (jk w2).mono ?_
  rintro e v3 ⟨rfl, hb3⟩
  have B3 := zH (HB1.out.trans ((G2.out.trans (hb3.mono G2.out.size)).mono HB1.out.size))
  clear hb3
  go_wp2_with fail
  go_ret
  exact ⟨rfl, B3.out⟩
 | true =>
 by_cases hlen : (800 : Int) < (bs.length : Int)
 · clear C1 C2 HLN
   have hq : ((bs.length : Int) > 800) = True := eq_true hlen
   obtain ⟨p0, p1, p2, p3, p4, p5, p6, p7, p8, p9⟩ := zv (HDB.out _ G2.out)
   have q0 := za (HDQ.out _ G2.out) 0 rfl
   have q1 := za (HDQ.out _ G2.out) 1 rfl
   have q2 := za (HDQ.out _ G2.out) 2 rfl
   go_wp2_with fail
   refine (jk w2).mono ?_
   rintro e v3 ⟨rfl, hb3⟩
   have B3 := zH (HB1.out.trans ((G2.out.trans (hb3.mono G2.out.size)).mono HB1.out.size))
   clear hb3
   go_wp2_with fail
   go_ret
   exact ⟨rfl, B3.out⟩
 have D1 := zH (C1.out rfl (by omega))
 have D2 := zH (C2.out rfl (by omega))
 have hln := zH (HLN.out rfl)
 clear C1 C2 HLN
 unfold Jg at D1 D2
 obtain ⟨p0, p1, p2, p3, p4, p5, p6, p7, p8, p9⟩ := zv (HDB.out _ G2.out)
 have q0 := za (HDQ.out _ G2.out) 0 rfl
 have q1 := za (HDQ.out _ G2.out) 1 rfl
 have q2 := za (HDQ.out _ G2.out) 2 rfl
 go_wp2_with fail
 refine (D1.out w2 G2.out).mono ?_
 rintro e w3 ⟨A3, c3, rfl, _, _, hr3, hb3⟩
 have G3 := zH (G2.out.trans (hb3.mono G2.out.size))
 have R3 := zH hr3
 clear hb3 hr3 D1 hlen p0 p1 p2 p3 p4 p5 p6 p7 p8 p9 q0 q1 q2
 obtain ⟨p0, p1, p2, p3, p4, p5, p6, p7, p8, p9⟩ := zv (HDB.out _ G3.out)
 have q0 := za (HDQ.out _ G3.out) 0 rfl
 have q1 := za (HDQ.out _ G3.out) 1 rfl
 have q2 := za (HDQ.out _ G3.out) 2 rfl
 go_wp2_with fail
 refine (D2.out w3 G3.out).mono ?_
 rintro e w4 ⟨A4, c4, rfl, _, _, hr4, hb4⟩
 have G4 := zH (G3.out.trans (hb4.mono G3.out.size))
 have R4 := zH hr4
 have HC := zH (Jo A3 c3 R.1.1 (by have := hln.out; omega) w4 ((R3.out.keep hb4).more hb4.size))
 clear hb4 hr4 D2 p0 p1 p2 p3 p4 p5 p6 p7 p8 p9 q0 q1 q2 R3
 go_wp2_with fail
 refine HC.out.mono ?_
 rintro e w5 ⟨A5, c5, rfl, hr5, hb5⟩
 have G5 := zH (G4.out.trans (hb5.mono G4.out.size))
 have HC := gM A5 A4 c5 c4 R.1.1 R.1.1 w5 w5.heap.size (Nat.le_refl _) hr5 ((R4.out.keep hb5).more hb5.size) (by have := hln.out; omega) (by have := hln.out; omega)
 rw [show decide (R.1.1 = R.1.1) = true by simp] at HC
 have HC := zH HC
 clear hb5 hr5 R4
 go_wp2_with fail
 refine HC.out.mono ?_
 rintro e w7 ⟨rfl, n7, hn7⟩
 have hb7 : Below w5.heap.size w5 w7 := by rw [hn7]; exact zM (Below.refl _ _) n7
 have G7 := zH (G5.out.trans (hb7.mono G5.out.size))
 clear hb7 hn7 hln HC
 go_wp2_with fail
 refine (jk w7).mono ?_
 rintro e v3 ⟨rfl, hb3⟩
 have B3 := zH (HB1.out.trans ((G7.out.trans (hb3.mono G7.out.size)).mono HB1.out.size))
 clear hb3
 go_wp2_with fail
 go_ret
 exact ⟨rfl, B3.out⟩
end
end Go.Proofs.YtdkmpccfnnpnbaaGreat
