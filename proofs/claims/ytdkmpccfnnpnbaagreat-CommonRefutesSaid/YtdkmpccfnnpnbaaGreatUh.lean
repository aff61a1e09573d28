/- Parts RfuP LwRf. -/
import Derived.Test.YtdkmpccfnnpnbaaGreatUf
import Derived.Test.YtdkmpccfnnpnbaaGreatProg
import Derived.Test.YtdkmpccfnnpnbaaGreatUg

namespace Go.Proofs.YtdkmpccfnnpnbaaGreat
set_option maxHeartbeats 4000000
section
theorem best_near {f : List Int} {d : Int} {n : Nat} {ps : List Nat} {cls : Nat → List Int} (hl : ∀ p ∈ ps, (cls p).length = n) (hp : ps.Pairwise (· < ·)) {i : Nat} (h : ∃ k, k < n ∧ yU ps cls i k ∧ f.getD k 0 = d) :
  (yq f d n (zD ps cls i)).1 < n ∧ f.getD (yq f d n (zD ps cls i)).1 0 = d ∧ (yq f d n (zD ps cls i)).2 ∈ ps ∧ (cls (yq f d n (zD ps cls i)).2).getD (yq f d n (zD ps cls i)).1 0 = (cls (yq f d n (zD ps cls i)).2).getD i 0 := by
 obtain ⟨k, hk, ⟨p, hpp, hpe⟩, hfk⟩ := h
 obtain ⟨h1, h2⟩ := vV f d n (zD ps cls i) (n, 0) (Qy hp i)
 change (∀ t ∈ zD ps cls i, f.getD t.1 0 = d → (yq f d n (zD ps cls i)).1 ≤ t.1) at h1
 change yq f d n (zD ps cls i) = (n, 0) ∨ (yq f d n (zD ps cls i) ∈ _ ∧ _) at h2
 have hm : (k, p) ∈ zD ps cls i := (qv hl).2 ⟨hk, hpp, hpe.symm⟩
 have h3 := h1 _ hm hfk
 rcases h2 with e | ⟨j1, j2, j3, j4⟩
 · rw [e] at h3; simp at h3; omega
 · obtain ⟨k1, k2, k3⟩ := (qv hl).1 j1
   exact ⟨k1, j2, k2, k3⟩
def uH (w : List (Nat × Nat)) (i : Nat) : List Nat := i :: w.map (·.1)
theorem Qe {f : List Int} {n : Nat} {ps : List Nat} {cls : Nat → List Int} (hl : ∀ p ∈ ps, (cls p).length = n) (hp : ps.Pairwise (· < ·))
  (hs : ∀ i, i < n → 0 < f.getD i 0 → ∃ k, k < n ∧ yU ps cls i k ∧ f.getD k 0 = f.getD i 0 - 1) : ∀ (d i : Nat), i < n → f.getD i 0 = (d : Int) →
  (∀ j, j ≤ d → (uH (yB f n (zD ps cls) d i) i).getD j 0 < n ∧ f.getD ((uH (yB f n (zD ps cls) d i) i).getD j 0) 0 = (d : Int) - j) ∧
  (∀ j, j < d → ((yB f n (zD ps cls) d i).getD j (0, 0)).2 ∈ ps ∧ (cls ((yB f n (zD ps cls) d i).getD j (0, 0)).2).getD ((uH (yB f n (zD ps cls) d i) i).getD (j + 1) 0) 0 = (cls ((yB f n (zD ps cls) d i).getD j (0, 0)).2).getD ((uH (yB f n (zD ps cls) d i) i).getD j 0) 0)
 | 0, i, hi, hf => by
  refine ⟨fun j hj => ?_, fun j hj => by omega⟩
  have : j = 0 := by omega
  subst this
  exact ⟨hi, by rw [show ((uH (yB f n (zD ps cls) 0 i) i).getD 0 0) = i from rfl, hf]; simp⟩
 | d + 1, i, hi, hf => by
  obtain ⟨k, hk, ha, hfk⟩ := hs i hi (by omega)
  obtain ⟨b1, b2, b3, b4⟩ := best_near (f := f) (d := (d : Int)) hl hp ⟨k, hk, ha, by omega⟩
  obtain ⟨i1, i2⟩ := Qe hl hp hs d _ b1 b2
  rw [yB]
  generalize yq f (d : Int) n (zD ps cls i) = b at *
  refine ⟨fun j hj => ?_, fun j hj => ?_⟩
  · cases j with
    | zero => exact ⟨hi, by rw [show (uH (b :: yB f n (zD ps cls) d b.1) i).getD 0 0 = i from rfl, hf]; simp⟩
    | succ j =>
     obtain ⟨c1, c2⟩ := i1 j (by omega)
     rw [show (uH (b :: yB f n (zD ps cls) d b.1) i).getD (j + 1) 0 = (uH (yB f n (zD ps cls) d b.1) b.1).getD j 0 from rfl]
     exact ⟨c1, by rw [c2]; omega⟩
  · cases j with
    | zero => exact ⟨b3, b4⟩
    | succ j => exact i2 j (by omega)
theorem gS {f : Nat → Int} : ∀ (m i : Nat), (∀ k, i ≤ k → k < i + m → f k = 0) → xu f m i = 0
 | 0, _, _ => rfl
 | m + 1, i, h => by
  rw [xu, if_neg (by simpa using h i (by omega) (by omega))]
  exact gS m (i + 1) fun k h1 h2 => h k (by omega) (by omega)
theorem wU (n : Nat) (adj : Nat → Nat → Prop) (L : List Nat) : (kz n adj L).length = n ∧ Far n adj (fun i => i ∈ L) (fun i => (kz n adj L).getD i 0) := by
 obtain ⟨f, hl, hf⟩ := far_ex n adj (fun i => i ∈ L)
 rw [kw hl hf]
 exact ⟨hl, hf⟩
structure Wlk (s : Sy) (g : Int) (set : List Bool) (pt : Nat) (f : List Int) (W : List (Int × Int)) : Prop where
 len : (W.length : Int) = f.getD pt 0 + 1
 le : W.length ≤ set.length
 pos : 1 ≤ W.length
 first : (W.getD 0 (0, 0)).1 = (pt : Int)
 at_ : ∀ j, j < W.length → ∃ a : Nat, (W.getD j (0, 0)).1 = (a : Int) ∧ a < set.length ∧ f.getD a 0 = (W.length : Int) - 1 - j ∧ set.getD a false = decide ((j : Int) < (W.length : Int) - 1)
 ver : qq s g set W = 0
theorem wlk_of {s : Sy} {g : Int} {set : List Bool} (hx : xh s.p) (hg : zE s g set = 0) {pt : Nat} (hpt : pt < ptn s) (h0 : 0 ≤ (kz (ptn s) (yT s g) (zZ set)).getD pt 0) :
  Wlk s g set pt (kz (ptn s) (yT s g) (zZ set)) (yV (kz (ptn s) (yT s g) (zZ set)) (ptn s) (zD (psG s g) (zT s)) pt) := by
 obtain ⟨hr, hsl⟩ := xV hg
 obtain ⟨_, hn7, _⟩ := xv hx hr
 obtain ⟨hfl, hff⟩ := wU (ptn s) (yT s g) (zZ set)
 generalize kz (ptn s) (yT s g) (zZ set) = f at *
 obtain ⟨d, hd⟩ := Int.eq_ofNat_of_zero_le h0
 have hd7 : f.getD pt 0 < (ptn s : Int) := ZS (f := fun i => f.getD i 0) hff.step hpt
 have hcl : ∀ p ∈ psG s g, (zT s p).length = ptn s := fun p _ => wY s p
 obtain ⟨w1, w2⟩ := Qe hcl (Qr s g) hff.step d pt hpt hd
 have hwl : (yV f (ptn s) (zD (psG s g) (zT s)) pt).length = d + 1 := by unfold yV ug; rw [List.length_cons, List.length_map, jh, hd]; rfl
 have hT : (f.getD pt 0).toNat = d := by omega
 have hW : ∀ j, j < d + 1 → (yV f (ptn s) (zD (psG s g) (zT s)) pt).getD j (0, 0) = ((((uH (yB f (ptn s) (zD (psG s g) (zT s)) d pt) pt).getD j 0 : Nat) : Int), if j = 0 then -1 else (((yB f (ptn s) (zD (psG s g) (zT s)) d pt).getD (j - 1) (0, 0)).2 : Int)) := by
  intro j hj
  unfold yV uH
  rw [hT]
  cases j with
  | zero => rfl
  | succ j =>
   have hj' : j < (yB f (ptn s) (zD (psG s g) (zT s)) d pt).length := by rw [jh]; omega
   rw [if_neg (by omega), List.getD_cons_succ, List.getD_cons_succ, Nat.add_sub_cancel]
   unfold ug
   rw [List.getD_eq_getElem?_getD, List.getD_eq_getElem?_getD, List.getD_eq_getElem?_getD, List.getElem?_map, List.getElem?_map, List.getElem?_eq_getElem hj']
   rfl
 have hL : ((yV f (ptn s) (zD (psG s g) (zT s)) pt).length : Int) = (d : Int) + 1 := by rw [hwl]; push_cast; rfl
 have hAt : ∀ j, j < (yV f (ptn s) (zD (psG s g) (zT s)) pt).length → ∃ a : Nat, ((yV f (ptn s) (zD (psG s g) (zT s)) pt).getD j (0, 0)).1 = (a : Int) ∧ a < set.length ∧ f.getD a 0 = ((yV f (ptn s) (zD (psG s g) (zT s)) pt).length : Int) - 1 - j ∧ set.getD a false = decide ((j : Int) < ((yV f (ptn s) (zD (psG s g) (zT s)) pt).length : Int) - 1) := by
  intro j hj
  rw [hwl] at hj
  obtain ⟨c1, c2⟩ := w1 j (by omega)
  refine ⟨_, by rw [hW j hj], by omega, by rw [c2, hL]; omega, ?_⟩
  rw [hL]
  have hz := hff.zero _ c1
  rw [c2, vf] at hz
  have hlt : (uH (yB f (ptn s) (zD (psG s g) (zT s)) d pt) pt).getD j 0 < set.length := by omega
  cases hb : set.getD ((uH (yB f (ptn s) (zD (psG s g) (zT s)) d pt) pt).getD j 0) false with
  | false => have := hz.2 ⟨hlt, hb⟩; exact (decide_eq_false (by omega)).symm
  | true =>
   refine (decide_eq_true ?_).symm
   have : ¬ ((d : Int) - j = 0) := fun e => by have := (hz.1 e).2; rw [hb] at this; cases this
   omega
 refine ⟨by rw [hL, hd], by rw [hwl]; omega, by rw [hwl]; omega, by rw [hW 0 (by omega)]; rfl, hAt, ?_⟩
 unfold qq
 rw [if_neg (by simpa using hg), if_neg (by omega), if_neg (by omega)]
 have hsc : xu (uS (ptn s) (psG s g) (zT s) (yV f (ptn s) (zD (psG s g) (zT s)) pt)) (yV f (ptn s) (zD (psG s g) (zT s)) pt).length 0 = 0 := by
  refine gS _ _ fun k _ hk => ?_
  rw [hwl] at hk
  unfold uS
  rw [hW k (by omega)]
  obtain ⟨c1, c2⟩ := w1 k (by omega)
  rw [if_neg (by dsimp only; omega)]
  cases k with
  | zero => rfl
  | succ k =>
   obtain ⟨e1, e2⟩ := w2 k (by omega)
   have h1 := hW k (by omega)
   have hk1 : ¬ (k + 1 = 0) := by omega
   simp only [if_neg hk1, Nat.add_sub_cancel]
   rw [h1]
   simp only [Int.toNat_natCast]
   rw [if_neg (fun hh => hh (by unfold zN; exact List.mem_map.2 ⟨_, e1, rfl⟩)), if_neg (fun hh => hh e2)]
 rw [hsc, if_neg (by simp)]
 obtain ⟨a, a1, a2, a3, a4⟩ := hAt ((yV f (ptn s) (zD (psG s g) (zT s)) pt).length - 1) (by omega)
 rw [a1, Int.toNat_natCast, a4, if_neg]
 rw [decide_eq_true_iff]
 omega
theorem JC {s : Sy} {g : Int} {set : List Bool} (hsl : set.length = ptn s) : jD (ptn s) (yT s g) set = (kz (ptn s) (yT s g) (zZ set)).map fun d => decide (d < 0) := by
 obtain ⟨hfl, hff⟩ := wU (ptn s) (yT s g) (zZ set)
 exact wL hsl hff hfl (yR s g)
theorem Jb {s : Sy} {g : Int} {set : List Bool} (hx : xh s.p) (hg : zE s g set = 0) {pt : Nat} (hpt : pt < ptn s) :
  ∃ W is F H, jY s g pt set = ((W, is), 0) ∧ qW s g set = (H, 0) ∧ kJ s g set = (F, 0) ∧ F.length = ptn s ∧ H.length = ptn s ∧ H.getD pt false = !is ∧ (is = false → W = [] ∧ F.getD pt 0 = -1) ∧ (is = true → Wlk s g set pt F W) := by
 obtain ⟨_, hsl⟩ := xV hg
 obtain ⟨hfl, hff⟩ := wU (ptn s) (yT s g) (zZ set)
 have hw := wlk_of hx hg hpt
 have hge := hff.ge pt hpt
 have hh := JC (g := g) hsl
 have e2 : qW s g set = (jD (ptn s) (yT s g) set, 0) := by unfold qW; rw [if_neg (by simpa using hg)]
 have e3 : kJ s g set = (kz (ptn s) (yT s g) (zZ set), 0) := by unfold kJ; rw [if_neg (by simpa using hg)]
 have hH : (jD (ptn s) (yT s g) set).getD pt false = decide ((kz (ptn s) (yT s g) (zZ set)).getD pt 0 < 0) := by
  rw [hh, List.getD_eq_getElem?_getD, List.getElem?_map, zM (by omega), List.getElem?_eq_getElem (by omega)]; rfl
 by_cases h0 : (kz (ptn s) (yT s g) (zZ set)).getD pt 0 < 0
 · refine ⟨[], false, _, _, ?_, e2, e3, hfl, qV _ _ _, by rw [hH, decide_eq_true h0]; rfl, fun _ => ⟨rfl, by omega⟩, fun h => by cases h⟩
   unfold jY
   rw [if_neg (by simpa using hg), if_neg (by omega), Int.toNat_natCast, if_pos h0]
 · refine ⟨_, true, _, _, ?_, e2, e3, hfl, qV _ _ _, by rw [hH, decide_eq_false h0]; rfl, (fun h => by cases h), fun _ => hw (by omega)⟩
   unfold jY
   rw [if_neg (by simpa using hg), if_neg (by omega), Int.toNat_natCast, if_neg h0]
end
section
open Go.RowKit
attribute [local go_sem] Oper.semAt_some
theorem Ye {p : Pb} (h : xE p = true) (c : Nat) (bs : List Bool) : zE (zC p) ((c % 2 ^ p.t.n.toNat : Nat) : Int) (kr bs (ptn (zC p))) = 0 ∧ xh (zC p).p ∧ 1 ≤ ptn (zC p) ∧ ptn (zC p) ≤ 700 := by
 obtain ⟨hbE, hvE, hf, h0, h60, hn3, K, N, hF, hSe⟩ := kR h
 have hx : xh (zC p).p := hf
 have hn : (zC p).n.toNat = p.t.n.toNat := by
  have h2 : p.t.n = (N : Int) := hF.pn
  rw [hF.n, h2]
 have hr : zL (zC p) ((c % 2 ^ p.t.n.toNat : Nat) : Int) = 0 := by
  unfold zL
  rw [if_neg (by simpa using hvE), if_neg]
  rw [hn]
  have := Nat.mod_lt c (Nat.two_pow_pos p.t.n.toNat)
  have h2 : ((2 ^ p.t.n.toNat : Nat) : Int) = (2 : Int) ^ p.t.n.toNat := by push_cast; rfl
  omega
 obtain ⟨f1, f2, _⟩ := xv hx hr
 refine ⟨?_, hx, f1, f2⟩
 unfold zE
 rw [if_neg (by simpa using hr), if_neg (by rw [wu]; simp)]
theorem seen_set {ss : List Bool} {F : List Int} {L : Int} {j a : Nat} (h : ∀ x, ss.getD x false = true → L - (j : Int) ≤ F.getD x 0) (ha : F.getD a 0 = L - 1 - j) : ∀ x, (ss.set a true).getD x false = true → L - ((j + 1 : Nat) : Int) ≤ F.getD x 0 := fun x hx => by
 rw [List.getD_eq_getElem?_getD, List.getElem?_set] at hx
 by_cases e : a = x
 · subst e; omega
 · rw [if_neg e, ← List.getD_eq_getElem?_getD] at hx
   have := h x hx; push_cast; omega
set_option maxRecDepth 100000 in
theorem ZO (p : Pb) (hl : Z1 p) (A : Option Addr) (kc : Nat) (SV : Option Addr) (ks : Nat) (c : Nat) (hc : c < 256) (cq : Nat) (hq : cq < 65536) (bs : List Bool) (AB : Option Addr) (kb : Nat) (w : World) (hA : CAt w w.heap.size A p.t.cases) (hS : SAt w w.heap.size SV p.a.sts) (hb0 : BAt w w.heap.size AB bs) :
  Calls Tryz.prog 7 #[.agg (p.vs A kc SV ks), .agg #[.int .u8 (c : Int), .slice AB bs.length kb, .int .u16 (cq : Int)]] w fun e w' => e = .returned (.bool true) ∧ Below w.heap.size w w' := by
 obtain ⟨w1, hw1, d0, d1, hs1, hB1⟩ := yi w (p.vs A kc SV ks) #[.int .u8 (c : Int), .slice AB bs.length kb, .int .u16 (cq : Int)] 29 71
 have hz1 : w1.heap.size = w.heap.size + 2 := by rw [← hw1]; simp
 have HSC := zH (Q5 p hl A kc SV ks c hc cq bs AB kb w1 ((hA.keep hB1).more hB1.size) ((hS.keep hB1).more hB1.size) ((hb0.keep hB1).more hB1.size))
 have HRB := zH (fun (h : xE p = true) => kR h)
 have HGV := zH (fun (h : xE p = true) => Ye h c bs)
 have HLW := zH (fun (hf : xh p) => jn hl hf)
 have HBb := zH hB1
 unfold Pb.vs at hw1 d0 HSC ⊢
 have HW1 := zH hw1
 have HD1 := zH d1
 have p0 := za d0 0 rfl
 have p1 := za d0 1 rfl
 have p2 := za d0 2 rfl
 have p3 := za d0 3 rfl
 have p4 := za d0 4 rfl
 have p5 := za d0 5 rfl
 have p6 := za d0 6 rfl
 have q0 := za d1 0 rfl
 have q1 := za d1 1 rfl
 have q2 := za d1 2 rfl
 clear hw1 d0 d1 hB1 hA hS hb0 hs1 hl
 go_enter Tryz.func7, Tryz.ntmps7
 go_wp2_with fail
 rw [HW1.out]
 go_wp2_with fail
 refine HSC.out.mono ?_
 rintro e w2 ⟨hb2, hcase⟩
 have B2 := zH (HBb.out.trans (hb2.mono HBb.out.size))
 have hs2 := hb2.size
 have HD1 := zH ((hb2.block _ (zd HD1.out)).trans HD1.out)
 clear hb2 HSC HW1 HBb p0 p1 p2 p3 p4 p5 p6 q0 q1 q2
 rcases hcase with ⟨_, rfl⟩ | ⟨⟨hr, hbs0⟩, A2, kc2, SV2, ks2, AV, kv, AX, kx, AQ, cQ, rfl, hSY, hBQ⟩
 · clear HRB HGV HLW HD1
   go_upto_region 2 with fail
   obtain ⟨WF, hWF, dz, hsF, hBa2⟩ := zk w2 #[.int .i64 0, .int .i64 0, .int .i64 0, .slice none 0 0, .int .i64 0, .slice none 0 0, .int .i64 0, .int .i64 0, .slice none 0 0, .slice none 0 0] 35
   rw [hWF]
   clear hWF
   clear dz
   go_wp2_with fail
   refine (jg WF).mono ?_
   rintro e v3 ⟨rfl, hb3⟩
   have B3 := zH (B2.out.trans ((hBa2.trans (hb3.mono (by omega))).mono (by omega)))
   clear hb3 hBa2
   go_wp2_with fail
   go_ret
   exact ⟨rfl, B3.out⟩
 obtain ⟨hgv, hfx, hn1, hn7⟩ := HGV.out hr
 obtain ⟨hbE, hvE, hf, -, -, hn3, K, N, hF, hSe⟩ := HRB.out hr
 have HLO : Hid (LowS (zC p)) := by have := HLW.out hf; rw [hbE] at this; exact this
 have hpn : ptn (zC p) ≤ 700 := hn7
 have hmod := Nat.mod_lt cq hn1
 obtain ⟨W, is, F, H, e1, e2, e3, hFl, hHl, hH, hno, hyes⟩ := Jb hfx hgv hmod
 have HSL : Hid ((kr bs (ptn (zC p))).length = ptn (zC p)) := wu _ _
 obtain ⟨Q, hQ⟩ : ∃ Q, kr bs (ptn (zC p)) = Q := ⟨_, rfl⟩
 obtain ⟨G, hG⟩ : ∃ G, ((c % 2 ^ p.t.n.toNat : Nat) : Int) = G := ⟨_, rfl⟩
 obtain ⟨T, hT⟩ : ∃ T, zC p = T := ⟨_, rfl⟩
 rw [hQ, hG, hT] at hyes
 rw [hQ, hG, hT] at e1 e2 e3
 rw [hQ] at hBQ HSL
 rw [hT] at HSL hSY hfx hn1 hn7 hmod hFl hHl hpn HLO hH hno ⊢
 rw [hG]
 obtain ⟨n, hn⟩ : ∃ n, ptn T = n := ⟨_, rfl⟩
 rw [hn] at HSL hn1 hn7 hmod hFl hHl hpn e1 hH hno hyes ⊢
 obtain ⟨m, hm⟩ : ∃ m, cq % n = m := ⟨_, rfl⟩
 rw [hm] at hmod e1 hH hno hyes
 have HBQ : Hid (∀ X, Below w2.heap.size w2 X → BAt X X.heap.size AQ Q) := fun X hX => (hBQ.keep hX).more hX.size
 have C1 := zH (fun (X : World) (hX : Below w2.heap.size w2 X) => ua T HLO.out hfx G (m : Int) Q A2 SV2 AV AX AQ kc2 ks2 kv kx cQ X (hSY.up hX) ((hBQ.keep hX).more hX.size) (by rw [HSL.out]; omega))
 have C2 := zH (fun (X : World) (hX : Below w2.heap.size w2 X) => wM T HLO.out hfx G Q A2 SV2 AV AX AQ kc2 ks2 kv kx cQ X (hSY.up hX) ((hBQ.keep hX).more hX.size) (by rw [HSL.out]; omega))
 have C3 := zH (fun (X : World) (hX : Below w2.heap.size w2 X) => jL T HLO.out hfx G Q A2 SV2 AV AX AQ kc2 ks2 kv kx cQ X (hSY.up hX) ((hBQ.keep hX).more hX.size) (by rw [HSL.out]; omega))
 have C4 := zH (fun (hwl : W.length ≤ 1000000) (AT : Option Addr) (kt : Nat) (X : World) (hX : Below w2.heap.size w2 X) (ht : TAt X X.heap.size AT W) => jG T HLO.out hfx G Q W A2 SV2 AV AX AQ AT kc2 ks2 kv kx cQ kt X (hSY.up hX) ((hBQ.keep hX).more hX.size) ht (by rw [HSL.out]; omega) hwl)
 rw [e1] at C1
 rw [e2] at C2
 rw [e3] at C3
 rw [HSL.out] at C1 C2 C3 C4
 have HBQ : Hid (∀ X, Below w2.heap.size w2 X → BAt X X.heap.size AQ Q) := fun X hX => (hBQ.keep hX).more hX.size
 unfold Sy.vs_ at C1 C2 C3 C4 ⊢
 have hm0 : (0 : Int) ≤ (m : Int) := by omega
 have hm1 : (m : Int) < (n : Int) := by omega
 have hcv : IntKind.i64.wrap (cq : Int) = (cq : Int) := by rw [IntKind.wrap_i64]; omega
 have t0 : Int.tmod (cq : Int) (n : Int) = (m : Int) := by rw [← hm]; exact (Int.ofNat_tmod cq n).symm
 have n0 : ¬ (n : Int) = 0 := by omega
 have HYES := zH hyes
 have HNO := zH hno
 have HFl := zH hFl
 have HHl := zH hHl
 have HH := zH hH
 have HN := zH (And.intro hn1 hpn)
 have HMM := zH hmod
 clear hbE hvE hf hn3 hF hSe hgv hfx hr e1 e2 e3 hQ hG hT hn hm hbs0 HRB HGV HLW HLO hSY hBQ hyes hno hFl hHl hH hn1 hn7 hpn hmod
 go_upto_region 2 with fail
 obtain ⟨WF, hWF, dz, hsF, hBa2⟩ := zk w2 #[.int .i64 T.p.t.n, .int .i64 T.p.t.ins, .int .i64 T.p.t.outs, .slice A2 T.p.t.cases.length kc2, .int .i64 T.p.a.n, .slice SV2 T.p.a.sts.length ks2, .int .i64 T.p.k, .int .i64 T.n, .slice AV T.vs.length kv, .slice AX T.xs.length kx] 35
 rw [hWF]
 clear hWF
 have dz := zH dz
 have HD1 := zH ((hBa2.block _ (zd HD1.out)).trans HD1.out)
 obtain ⟨z0, z1, z2, z3, z4, z5, z6, z7, z8, z9⟩ := zz dz.out
 have q2 := za HD1.out 2 rfl
 go_wp2_with fail
 refine (C1.out WF hBa2).mono ?_
 rintro e w3 ⟨AT, cT, rfl, hcT1, hcT2, hT3, hb3⟩
 have DZ : Hid (∀ X, Below WF.heap.size WF X → X.heap[w2.heap.size]? = some (.cells #[.int .i64 T.p.t.n, .int .i64 T.p.t.ins, .int .i64 T.p.t.outs, .slice A2 T.p.t.cases.length kc2, .int .i64 T.p.a.n, .slice SV2 T.p.a.sts.length ks2, .int .i64 T.p.k, .int .i64 T.n, .slice AV T.vs.length kv, .slice AX T.xs.length kx] 35 (0, 0))) := fun X hX => (hX.block _ (by omega)).trans dz.out
 have E3 := zH hb3
 have HT3 := zH hT3
 clear hb3 hT3 C1 hcT1 hcT2 q2 HD1 z0 z1 z2 z3 z4 z5 z6 z7 z8 z9
 obtain ⟨z0, z1, z2, z3, z4, z5, z6, z7, z8, z9⟩ := zz (DZ.out _ E3.out)
 go_wp2_with fail
 refine (C2.out w3 (hBa2.trans (E3.out.mono (by omega)))).mono ?_
 rintro e w4 ⟨AH, cH, rfl, hH4, hb4⟩
 have E4 := zH (E3.out.trans (hb4.mono E3.out.size))
 have HT4 := zH ((HT3.out.keep hb4).more hb4.size)
 have HH4 := zH hH4
 clear hb4 hH4 C2 HT3 z0 z1 z2 z3 z4 z5 z6 z7 z8 z9
 obtain ⟨z0, z1, z2, z3, z4, z5, z6, z7, z8, z9⟩ := zz (DZ.out _ E4.out)
 go_wp2_with fail
 refine (C3.out w4 (hBa2.trans (E4.out.mono (by omega)))).mono ?_
 rintro e w5 ⟨AF, cF, rfl, hF5, hb5⟩
 have E5 := zH (E4.out.trans (hb5.mono E4.out.size))
 have HT5 := zH ((HT4.out.keep hb5).more hb5.size)
 have HH5 := zH ((HH4.out.keep hb5).more hb5.size)
 have HF5 := zH hF5
 clear hb5 hF5 C3 HT4 HH4 z0 z1 z2 z3 z4 z5 z6 z7 z8 z9
 dsimp only
 rw [HFl.out, HHl.out]
 obtain ⟨b1, o1, rfl, lb1, hv1⟩ := HH5.out.at_ m (by rw [HHl.out]; exact HMM.out)
 obtain ⟨b2, o2, rfl, lb2, hv2⟩ := HF5.out.at_ m (by rw [HFl.out]; exact HMM.out)
 rw [xW (by rw [HHl.out]; exact HMM.out)] at HH
 have hHm : Hid (H[m]'(by rw [HHl.out]; exact HMM.out) = !is) := HH
 rw [HH.out] at hv1
 cases is with
 | false =>
  obtain ⟨hW0, hF0⟩ := HNO.out rfl
  rw [zM (by rw [HFl.out]; exact HMM.out)] at hF0
  rw [hF0] at hv2
  subst hW0
  clear HNO HYES C4 hF0 hHm HH
  go_wp2_with fail
  refine (jg w5).mono ?_
  rintro e v3 ⟨rfl, hb6⟩
  have B3 := zH (B2.out.trans ((hBa2.trans ((E5.out.trans (hb6.mono E5.out.size)).mono (by omega))).mono (by omega)))
  clear hb6
  go_wp2_with fail
  go_ret
  exact ⟨rfl, B3.out⟩
 | true =>
 obtain ⟨kL, kle, hL1, kf, kat, kver⟩ := HYES.out rfl
 have hln : W.length ≤ n := by have := HSL.out; omega
 rw [zM (by rw [HFl.out]; exact HMM.out)] at kL
 have hFm : F[m]'(by rw [HFl.out]; exact HMM.out) = (W.length : Int) - 1 := by omega
 rw [hFm] at hv2
 rw [xW (by omega)] at kf
 obtain ⟨b3, o3, rfl, lb3, x0, -⟩ := HT5.out.at_ 0 (by omega)
 rw [kf, Nat.zero_mul, Nat.add_zero] at x0
 have hnn := HN.out
 have HAT : Hid (∀ j (hj : j < W.length), ∃ a : Nat, (W[j]'hj).1 = (a : Int) ∧ a < n ∧ F[a]? = some ((W.length : Int) - 1 - j) ∧ Q[a]? = some (decide ((j : Int) < (W.length : Int) - 1))) := fun j hj => by
  obtain ⟨a, a1, a2, a3, a4⟩ := kat j hj
  have a5 : a < n := by have := HSL.out; omega
  have a6 : a < F.length := by rw [HFl.out]; exact a5
  rw [xW hj] at a1
  rw [zM a6] at a3
  rw [xW a2] at a4
  exact ⟨a, a1, a5, by rw [List.getElem?_eq_getElem a6, a3], by rw [List.getElem?_eq_getElem a2, a4]⟩
 have C5 := zH (C4.out (by omega) (some ⟨b3, o3, none⟩) cT w5 (hBa2.trans (E5.out.mono (by omega))) HT5.out)
 rw [kver] at C5
 obtain ⟨L, hL⟩ : ∃ L, W.length = L := ⟨_, rfl⟩
 have HLL := zH hL
 rw [hL] at hv2 hL1 hln C5
 have hw1 : IntKind.i64.wrap (L : Int) = (L : Int) := by rw [IntKind.wrap_i64]; omega
 have hw2 : IntKind.i64.wrap ((L : Int) - 1) = (L : Int) - 1 := by rw [IntKind.wrap_i64]; omega
 have hmk := wI n (by omega)
 rw [hL]
 obtain ⟨z0, z1, z2, z3, z4, z5, z6, z7, z8, z9⟩ := zz (DZ.out _ E5.out)
 clear kL kle kf kat kver hFm hL C4 HYES HNO hHm HH
 go_wp2_with fail
 refine C5.out.mono ?_
 rintro e w6 ⟨rfl, hb6⟩
 have E6 := zH (E5.out.trans (hb6.mono E5.out.size))
 have HT6 := zH ((HT5.out.keep hb6).more hb6.size)
 have HF6 := zH ((HF5.out.keep hb6).more hb6.size)
 have HQ6 := zH (HBQ.out w6 (hBa2.trans (E6.out.mono (by omega))))
 clear hb6 C5 HT5 HF5 HH5 z0 z1 z2 z3 z4 z5 z6 z7 z8 z9 hv1 hv2 x0
 go_upto_region 15 with fail
 obtain ⟨w7, hw7, d7, hs7, hb7⟩ := zk w6 (jf (List.replicate n false)) 4
 rw [hw7]
 have HT7 := zH (HT6.out.keep hb7)
 have HF7 := zH (HF6.out.keep hb7)
 have HQ7 := zH (HQ6.out.keep hb7)
 have E7 := zH (E6.out.trans (hb7.mono E6.out.size))
 have HD7 : Hid (BRow w7 w6.heap.size (List.replicate n false)) := d7
 have HL7 : Hid (∀ x, (List.replicate n false).getD x false = true → (L : Int) - ((0 : Nat) : Int) ≤ F.getD x 0) := fun x hx => by
  rw [List.getD_eq_getElem?_getD, List.getElem?_replicate] at hx
  split at hx <;> cases hx
 clear hw7 d7 hb7 HT6 HF6 HQ6 hmk
 go_wp2_with fail
 go_loopw [132] (fun i wr => ∃ (j : Nat) (ss : List Bool), j ≤ L ∧ i = .int .i64 (j : Int) ∧ ss.length = n ∧ Hid (BRow wr w6.heap.size ss) ∧ Hid (∀ x, ss.getD x false = true → (L : Int) - (j : Int) ≤ F.getD x 0) ∧ Hid (Below w6.heap.size w7 wr)) (fun i _ => L - (intOf i).toNat)
 case atStart => exact ⟨0, _, by omega, rfl, by simp, HD7, HL7, Below.refl _ _⟩
 case round =>
  obtain ⟨j, ss, hj, rfl, hsl, hbr, hin, hb⟩ := hrel
  clear HD7 HL7
  have hsz := hb.out.size
  by_cases hlt : j < L
  · obtain ⟨a, a1, a2, a3, a4⟩ := HAT.out j (by rw [HLL.out]; exact hlt)
    obtain ⟨b4, o4, e4, lb4, x0, x1⟩ := (HT7.out.keep hb.out).at_ j (by rw [HLL.out]; exact hlt)
    cases e4
    obtain ⟨b5, o5, e5, lb5, x2⟩ := (HF7.out.keep hb.out).at_ a (by rw [HFl.out]; exact a2)
    cases e5
    obtain ⟨b6, o6, rfl, lb6, x3⟩ := (HQ7.out.keep hb.out).at_ a (by rw [HSL.out]; exact a2)
    rw [a1] at x0
    rw [List.getElem?_eq_getElem (by rw [HFl.out]; exact a2)] at a3
    rw [Option.some.inj a3] at x2
    rw [List.getElem?_eq_getElem (by rw [HSL.out]; exact a2)] at a4
    rw [Option.some.inj a4] at x3
    have hfa : F.getD a 0 = (L : Int) - 1 - j := by rw [zM (by rw [HFl.out]; exact a2), Option.some.inj a3, HLL.out]
    rw [HLL.out] at x2 x3
    have hns : ss[a]'(by omega) = false := by
     cases h : ss[a]'(by omega) with
     | false => rfl
     | true =>
      have := hin.out a (by rw [xW (by omega), h])
      omega
    have hsl2 : (ss.set a true).length = n := by rw [List.length_set]; exact hsl
    have ha0 : (0 : Int) ≤ (a : Int) := by omega
    have ha1 : (a : Int) < (n : Int) := by omega
    have hj0 : (0 : Int) ≤ (j : Int) := by omega
    have hj1 : (j : Int) < (L : Int) := by omega
    have hw3 : IntKind.i64.wrap ((L : Int) - 1 - (j : Int)) = (L : Int) - 1 - (j : Int) := by rw [IntKind.wrap_i64]; omega
    have hl7 := zd hbr.out
    obtain ⟨t2, ht2⟩ : ∃ t2, (W[j]'(by rw [HLL.out]; exact hlt)).2 = t2 := ⟨_, rfl⟩
    rw [ht2] at x1
    clear a1 a3 a4 ht2
    go_upto_region 18 with fail
    obtain ⟨w8, hw8, d8, hs8, hb8⟩ := zk wr #[.int .i64 (a : Int), .int .i64 t2] 75
    rw [hw8]
    have hbr8 := (hb8.block _ (zd hbr.out)).trans hbr.out
    have y0 := za hbr8 a (gx ss a (by omega))
    rw [hns] at y0
    have f0 := zb hbr8 a
    have HBR : Hid (BRow (w8.setCell ⟨w6.heap.size, a, none⟩ (.bool true)) w6.heap.size (ss.set a true)) := by
     show _ = _
     rw [heap_setCell_same w8 _ a _ _ _ hbr8, Zq]
    have HIN := zH (seen_set hin.out hfa)
    have HBN := zH ((hb.out.trans (hb8.mono (by omega))).setCell (p := ⟨w6.heap.size, a, none⟩) (by show w6.heap.size ≤ w6.heap.size; omega) (.bool true))
    have z2 := (hb8.cell (p := ⟨b2, o2 + a, none⟩) (by show b2 < wr.heap.size; omega)).trans x2
    have z3 := (hb8.cell (p := ⟨b6, o6 + a, none⟩) (by show b6 < wr.heap.size; omega)).trans x3
    have z0 := za d8 0 rfl
    have z1 := za d8 1 rfl
    have hl8 : w6.heap.size < w8.heap.size := by omega
    clear x0 x1 x2 x3 hw8 d8 hb8 hbr8 hbr hin hb hns hfa
    go_wp2_with fail
    go_roundw
    case rel => exact ⟨j + 1, ss.set a true, by omega, by go_num, hsl2, HBR, HIN, HBN⟩
    case measure => simp [intOf]; omega
  · obtain rfl : L = j := by omega
    have E8 := zH (E7.out.trans (hb.out.mono (by have := E6.out.size; omega)))
    clear HAT HT7 HF7 HQ7 hbr hin hb
    go_wp2_with fail
    refine (jg wr).mono ?_
    rintro e v3 ⟨rfl, hb9⟩
    have B3 := zH (B2.out.trans ((hBa2.trans ((E8.out.trans (hb9.mono E8.out.size)).mono (by omega))).mono (by omega)))
    clear hb9
    go_wp2_with fail
    go_ret
    exact ⟨rfl, B3.out⟩
end
end Go.Proofs.YtdkmpccfnnpnbaaGreat
