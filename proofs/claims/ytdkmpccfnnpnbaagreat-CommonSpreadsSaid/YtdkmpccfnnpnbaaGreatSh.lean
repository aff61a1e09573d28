/- Parts FrsP ReaP FrsA PtsG ReaA ParP ParA LwSpr. -/
import Derived.Test.YtdkmpccfnnpnbaaGreatSe
import Derived.Test.YtdkmpccfnnpnbaaGreatSf
import Derived.Test.YtdkmpccfnnpnbaaGreatProg
import Derived.Test.YtdkmpccfnnpnbaaGreatSg
import Derived.Test.YtdkmpccfnnpnbaaGreatSa
import Derived.Test.YtdkmpccfnnpnbaaGreatSc
import Derived.Carry

namespace Go.Proofs.YtdkmpccfnnpnbaaGreat
set_option maxHeartbeats 4000000
section
structure Frst (n : Nat) (f : List Int) (ρ h : Nat → Nat) : Prop where
 len : f.length = n
 at_ : ∀ i, i < n → ∃ k : Nat, f.getD i 0 = (k : Int) ∧ k < n ∧ ρ k = ρ i ∧ (k = i → ρ i = i) ∧ (k ≠ i → h k < h i)
 root : ∀ i, i < n → ρ i < n ∧ f.getD (ρ i) 0 = (ρ i : Int)
theorem Frst.rr {n : Nat} {f : List Int} {ρ h : Nat → Nat} (F : Frst n f ρ h) {i : Nat} (hi : i < n) : ρ (ρ i) = ρ i := by
 obtain ⟨h1, h2⟩ := F.root i hi
 obtain ⟨k, k1, k2, k3, k4, k5⟩ := F.at_ _ h1
 exact k4 (by omega)
theorem Frst.start (n : Nat) : Frst n ((List.range n).map fun (i : Nat) => (i : Int)) id (fun _ => 0) where
 len := by simp
 at_ := fun i hi => ⟨i, by rw [zE (by simpa using hi)]; simp, hi, rfl, fun _ => rfl, fun h => absurd rfl h⟩
 root := fun i hi => ⟨hi, by rw [zE (by simpa using hi)]; simp⟩
theorem Frst.halve {n : Nat} {f : List Int} {ρ h : Nat → Nat} (F : Frst n f ρ h) {i j k : Nat} (hi : i < n) (hj : f.getD i 0 = (j : Int)) (hk : f.getD j 0 = (k : Int)) (hne : j ≠ i) :
  Frst n (f.set i (k : Int)) ρ h ∧ k < n ∧ ρ k = ρ i ∧ h k < h i := by
 obtain ⟨j', e1, j1, j2, _, j4⟩ := F.at_ i hi
 have : j' = j := by omega
 subst this
 obtain ⟨k', e2, k1, k2, k3, k4⟩ := F.at_ _ j1
 have : k' = k := by omega
 subst this
 have hl := F.len
 have hh : h k' < h i := by
  by_cases e : k' = j'
  · subst e; exact j4 hne
  · have := k4 e; have := j4 hne; omega
 have hnr : ∀ x, x < n → ρ x ≠ i := fun x hx e => by have := (F.root x hx).2; rw [e, e1] at this; exact hne (by omega)
 refine ⟨⟨by simp [hl], fun x hx => ?_, fun x hx => ?_⟩, k1, by rw [k2, j2], hh⟩
 · rw [qC (by omega)]
   by_cases e : x = i
   · subst e
     rw [if_pos rfl]
     exact ⟨k', rfl, k1, by rw [k2, j2], fun e => by rw [e] at hh; omega, fun _ => hh⟩
   · rw [if_neg e]; exact F.at_ x hx
 · obtain ⟨r1, r2⟩ := F.root x hx
   refine ⟨r1, ?_⟩
   rw [qC (by omega), if_neg (hnr x hx)]; exact r2
theorem Frst.join {n : Nat} {f : List Int} {ρ h : Nat → Nat} (F : Frst n f ρ h) {a b : Nat} (ha : a < n) (hb : b < n) :
  Frst n (f.set (ρ a) (ρ b : Int)) (fun x => if ρ x = ρ a then ρ b else ρ x) (fun x => if ρ x = ρ a ∧ ρ a ≠ ρ b then h x + h (ρ b) + 1 else h x) := by
 have hl := F.len
 obtain ⟨a1, a2⟩ := F.root a ha
 obtain ⟨b1, b2⟩ := F.root b hb
 have ra := F.rr ha
 have rb := F.rr hb
 refine ⟨by simp [hl], fun x hx => ?_, fun x hx => ?_⟩
 · rw [qC (by omega)]
   obtain ⟨k, k1, k2, k3, k4, k5⟩ := F.at_ x hx
   by_cases e : x = ρ a
   · subst e
     rw [if_pos rfl]
     refine ⟨ρ b, rfl, b1, ?_, fun e => ?_, fun e => ?_⟩
     · simp only [ra, rb, if_true]; split <;> rfl
     · simp only [ra, if_true]; exact e
     · simp only [ra, rb]
       rw [if_neg (fun h => e h.1), if_pos ⟨trivial, fun h => e h.symm⟩]; omega
   · rw [if_neg e]
     refine ⟨k, k1, k2, by simp only [k3], fun e2 => ?_, fun e2 => ?_⟩
     · subst e2
       have := k4 rfl
       have e3 : ¬ ρ k = ρ a := fun h => e (by omega)
       simp only [if_neg e3]; exact this
     · have := k5 e2
       simp only [k3]
       split <;> omega
 · by_cases e : ρ x = ρ a
   · simp only [if_pos e]
     refine ⟨b1, ?_⟩
     rw [qC (by omega)]
     split
     · rfl
     · exact b2
   · obtain ⟨r1, r2⟩ := F.root x hx
     simp only [if_neg e]
     refine ⟨r1, ?_⟩
     rw [qC (by omega), if_neg e]; exact r2
def shr (L : List (Nat × Int)) (x y : Nat) : Prop := ∃ v, (x, v) ∈ L ∧ (y, v) ∈ L
theorem shr_symm (L : List (Nat × Int)) (x y : Nat) (h : shr L x y) : shr L y x := by obtain ⟨v, a, b⟩ := h; exact ⟨v, b, a⟩
def FrT (n : Nat) (r : Nat → Nat → Prop) (ρ : Nat → Nat) : Prop := ∀ i j, i < n → j < n → (ρ i = ρ j ↔ Conn n r i j)
theorem FrT.start (n : Nat) : FrT n (shr []) id := fun i j _ _ => by
 constructor
 · rintro rfl; exact .refl _
 · intro h
   induction h with
   | refl => rfl
   | step _ _ _ h3 _ => obtain ⟨v, a, _⟩ := h3; cases a
theorem FrT.congr {n : Nat} {r r' : Nat → Nat → Prop} {ρ : Nat → Nat} (h : FrT n r ρ) (h1 : ∀ i j, i < n → j < n → r i j → Conn n r' i j) (h2 : ∀ i j, i < n → j < n → r' i j → Conn n r i j) : FrT n r' ρ := fun i j hi hj =>
 (h i j hi hj).trans ⟨fun c => c.mono h1, fun c => c.mono h2⟩
theorem FrT.fresh {n : Nat} {L : List (Nat × Int)} {ρ : Nat → Nat} (h : FrT n (shr L) ρ) {m : Nat} {v : Int} (hv : ∀ x, (x, v) ∉ L) : FrT n (shr (L ++ [(m, v)])) ρ := by
 refine h.congr (fun i j hi hj ⟨u, a, b⟩ => .one hi hj ⟨u, by simp [a], by simp [b]⟩) fun i j hi hj ⟨u, a, b⟩ => ?_
 simp only [List.mem_append, List.mem_singleton, Prod.mk.injEq] at a b
 rcases a with a | ⟨rfl, rfl⟩
 · rcases b with b | ⟨rfl, rfl⟩
   · exact .one hi hj ⟨u, a, b⟩
   · exact absurd a (hv _)
 · rcases b with b | ⟨rfl, -⟩
   · exact absurd b (hv _)
   · exact .refl _
theorem FrT.join {n : Nat} {L : List (Nat × Int)} {ρ : Nat → Nat} (h : FrT n (shr L) ρ) {m i : Nat} {v : Int} (hm : m < n) (hi : i < n) (hv : (i, v) ∈ L) :
  FrT n (shr (L ++ [(m, v)])) (fun x => if ρ x = ρ m then ρ i else ρ x) := by
 have hs := shr_symm (L ++ [(m, v)])
 have sub : ∀ {x y}, Conn n (shr L) x y → Conn n (shr (L ++ [(m, v)])) x y := fun c => c.mono fun x y hx hy ⟨u, a, b⟩ => .one hx hy ⟨u, by simp [a], by simp [b]⟩
 have hmi : Conn n (shr (L ++ [(m, v)])) m i := .one hm hi ⟨v, by simp, by simp [hv]⟩
 have up : ∀ {x y}, x < n → y < n → ρ x = ρ y → Conn n (shr (L ++ [(m, v)])) x y := fun hx hy e => sub ((h _ _ hx hy).1 e)
 intro x y hx hy
 constructor
 · intro e
   dsimp only at e
   by_cases ex : ρ x = ρ m
   · by_cases ey : ρ y = ρ m
     · exact up hx hy (by omega)
     · rw [if_pos ex, if_neg ey] at e
       exact (up hx hm ex).trans (hmi.trans (up hi hy e))
   · by_cases ey : ρ y = ρ m
     · rw [if_neg ex, if_pos ey] at e
       exact (up hx hi e).trans ((hmi.symm hs).trans (up hm hy ey.symm))
     · rw [if_neg ex, if_neg ey] at e
       exact up hx hy e
 · intro c
   induction c with
   | refl => rfl
   | @step j k _ hj hk hr ih =>
    rw [ih hj]
    obtain ⟨u, a, b⟩ := hr
    simp only [List.mem_append, List.mem_singleton, Prod.mk.injEq] at a b
    have old : ∀ {x y w}, x < n → y < n → (x, w) ∈ L → (y, w) ∈ L → ρ x = ρ y := fun hx hy a b => (h _ _ hx hy).2 (.one hx hy ⟨_, a, b⟩)
    rcases a with a | ⟨rfl, rfl⟩
    · rcases b with b | ⟨rfl, rfl⟩
      · dsimp only; rw [old hj hk a b]
      · have := old hj hi a hv
        dsimp only
        rw [if_pos rfl]
        split
        · rfl
        · exact this
    · rcases b with b | ⟨rfl, -⟩
      · have := old hk hi b hv
        dsimp only
        rw [if_pos rfl]
        split
        · rfl
        · exact this.symm
      · rfl
end
section
def vwP (s : Sy) (x : Nat × Nat) (q : Nat) : Int := xw (s.xs.getD x.1 default) x.2 q
def xJ (V : Nat × Nat → Nat → Int) (ps : List Nat) (c : Nat) (x : Nat × Nat) : List (Nat × Int) := ps.map fun q => (c, V x q)
def shL (V : Nat × Nat → Nat → Int) (ps : List Nat) (pre : List (Nat × Nat)) : List (Nat × Int) := pre.zipIdx.flatMap fun y => xJ V ps y.2 y.1
theorem shL_snoc (V : Nat × Nat → Nat → Int) (ps : List Nat) (pre : List (Nat × Nat)) (x : Nat × Nat) : shL V ps (pre ++ [x]) = shL V ps pre ++ xJ V ps pre.length x := by
 unfold shL
 rw [List.zipIdx_append, List.flatMap_append]
 simp
theorem JA (V : Nat × Nat → Nat → Int) (c : Nat) (x : Nat × Nat) : xJ V [] c x = [] := rfl
theorem XO (V : Nat × Nat → Nat → Int) (ps : List Nat) (q c : Nat) (x : Nat × Nat) : xJ V (ps ++ [q]) c x = xJ V ps c x ++ [(c, V x q)] := by simp [xJ]
theorem kE {V : Nat × Nat → Nat → Int} {ps : List Nat} {pre : List (Nat × Nat)} {i : Nat} {v : Int} : (i, v) ∈ shL V ps pre ↔ ∃ h : i < pre.length, ∃ q ∈ ps, V pre[i] q = v := by
 unfold shL xJ
 simp only [List.mem_flatMap, List.mem_map, Prod.mk.injEq]
 constructor
 · rintro ⟨⟨x, j⟩, hm, q, hq, rfl, rfl⟩
   obtain ⟨h1, h2⟩ := List.getElem?_eq_some_iff.1 (List.mk_mem_zipIdx_iff_getElem?.1 hm)
   exact ⟨h1, q, hq, by rw [h2]⟩
 · rintro ⟨h, q, hq, rfl⟩
   exact ⟨(pre[i], i), List.mk_mem_zipIdx_iff_getElem?.2 (List.getElem?_eq_getElem h), q, hq, rfl, rfl⟩
def kQ (L : List (Nat × Int)) : Int → Option Value := fun v => (L.find? fun p => p.2 == v).map fun p => .int .i64 (p.1 : Int)
theorem fstG_nil : kQ [] = fun _ => none := rfl
theorem fstG_some {L : List (Nat × Int)} {v : Int} {u : Value} (h : kQ L v = some u) : ∃ i : Nat, u = .int .i64 (i : Int) ∧ (i, v) ∈ L := by
 unfold kQ at h
 obtain ⟨p, hp, rfl⟩ := Option.map_eq_some_iff.1 h
 have h1 := List.mem_of_find?_eq_some hp
 have h2 := List.find?_some hp
 rw [beq_iff_eq] at h2
 exact ⟨p.1, rfl, by rw [← h2]; exact h1⟩
theorem fstG_none {L : List (Nat × Int)} {v : Int} (h : kQ L v = none) (x : Nat) : (x, v) ∉ L := fun hm => by
 unfold kQ at h
 rw [Option.map_eq_none_iff, List.find?_eq_none] at h
 exact h _ hm (by simp)
theorem fstG_put {L : List (Nat × Int)} {v : Int} (h : kQ L v = none) (m : Nat) : xH (kQ L) v (.int .i64 (m : Int)) = kQ (L ++ [(m, v)]) := by
 funext x
 have hn : L.find? (fun p => p.2 == v) = none := by unfold kQ at h; rwa [Option.map_eq_none_iff] at h
 unfold xH kQ
 rw [List.find?_append]
 by_cases e : x = v
 · subst e; rw [if_pos rfl, hn]; simp
 · rw [if_neg e]
   cases hf : L.find? (fun p => p.2 == x) with
   | some p => rfl
   | none => simp; exact fun e2 => e e2.symm
theorem fstG_keep {L : List (Nat × Int)} {v : Int} {u : Value} (h : kQ L v = some u) (m : Nat) : kQ (L ++ [(m, v)]) = kQ L := by
 funext x
 unfold kQ at *
 rw [List.find?_append]
 cases hf : L.find? (fun p => p.2 == x) with
 | some p => rfl
 | none =>
  have : ¬ v = x := fun e => by subst e; rw [hf] at h; cases h
  simp [this]
theorem QK {s : Sy} {K N : Nat} (hs : Sees s K N) {x y : Nat × Nat} {q r : Nat} (hx : x.1 < s.xs.length) (hy : y.1 < s.xs.length) (hxk : x.2 ≤ K) (hyk : y.2 ≤ K) (hq : q < N) (hr : r < N) (e : vwP s x q = vwP s y r) : q = r ∧ x.2 = y.2 := by
 unfold vwP at e
 rw [qv hx, qv hy] at e
 obtain ⟨v, h1, h2, h3⟩ := hs.pr (List.getElem_mem hx) hxk hq
 obtain ⟨u, g1, g2, g3⟩ := hs.pr (List.getElem_mem hy) hyk hr
 rw [e] at h1
 have : v = u := Option.some.inj (h1.2.symm.trans g1.2)
 subst this
 omega
theorem keyL_vw (s : Sy) (q : Nat) : Z8 s q = (zg (s.p.k.toNat + 1) 0 s.xs.length).map fun x => vwP s x q := rfl
theorem ZP {s : Sy} {K N : Nat} (hF : Fine s K N) (hs : Sees s K N) {g : Int} {i j : Nat} (hi : i < ptn s) (hj : j < ptn s) : shr (shL (vwP s) (psG s g) (zg (K + 1) 0 s.xs.length)) i j ↔ yF s g i j := by
 have hk : s.p.k.toNat = K := by have := hF.k; omega
 have hN : s.n.toNat = N := by have := hF.n; omega
 have hlen : (zg (K + 1) 0 s.xs.length).length = ptn s := by rw [kC _ _ (by omega)]; unfold ptn; rw [hk]
 have hq : ∀ q ∈ psG s g, q < N := fun q hq => by unfold psG zo at hq; have := List.mem_range.1 (List.mem_filter.1 hq).1; omega
 have hcl : ∀ q, (yj s q).getD i 0 = (yj s q).getD j 0 ↔ vwP s ((zg (K + 1) 0 s.xs.length)[i]'(by omega)) q = vwP s ((zg (K + 1) 0 s.xs.length)[j]'(by omega)) q := fun q => by
  have hl : (Z8 s q).length = ptn s := ZS s q
  rw [zE (by rw [kj]; exact hi), zE (by rw [kj]; exact hj)]
  have := Zn (Z8 s q) (i := i) (j := j) (by omega) (by omega)
  rw [show (yj s q)[i]'(by rw [kj]; exact hi) = (xg (Z8 s q))[i]'(by rw [xL]; omega) from rfl, show (yj s q)[j]'(by rw [kj]; exact hj) = (xg (Z8 s q))[j]'(by rw [xL]; omega) from rfl, this]
  simp only [keyL_vw, List.getElem_map, hk]
 have hpl : ∀ {t : Nat} (ht : t < (zg (K + 1) 0 s.xs.length).length), (zg (K + 1) 0 s.xs.length)[t].1 < s.xs.length ∧ (zg (K + 1) 0 s.xs.length)[t].2 ≤ K := fun ht => by
  obtain ⟨_, h1, h2⟩ := yP _ _ _ (List.getElem_mem ht)
  omega
 unfold yF yY shr
 constructor
 · rintro ⟨v, h1, h2⟩
   obtain ⟨a1, q, hq1, e1⟩ := kE.1 h1
   obtain ⟨a2, r, hr1, e2⟩ := kE.1 h2
   have e3 := e1.trans e2.symm
   obtain ⟨rfl, _⟩ := QK hs (hpl a1).1 (hpl a2).1 (hpl a1).2 (hpl a2).2 (hq q hq1) (hq r hr1) e3
   exact ⟨q, hq1, (hcl q).2 e3⟩
 · rintro ⟨q, hq1, e⟩
   exact ⟨_, kE.2 ⟨by omega, q, hq1, rfl⟩, kE.2 ⟨by omega, q, hq1, ((hcl q).1 e).symm⟩⟩
theorem ZR {s : Sy} {K N : Nat} (hF : Fine s K N) (hs : Sees s K N) {g : Int} {ρ : Nat → Nat} (h : FrT (ptn s) (shr (shL (vwP s) (psG s g) (zg (K + 1) 0 s.xs.length))) ρ) :
  xg ((zg (K + 1) 0 s.xs.length).map fun x => (ρ (x.1 * (K + 1) + x.2) : Int)) = yq (ptn s) (yF s g) := by
 have hk : s.p.k.toNat = K := by have := hF.k; omega
 have hlen : (zg (K + 1) 0 s.xs.length).length = ptn s := by rw [kC _ _ (by omega)]; unfold ptn; rw [hk]
 refine Xo (yx s g) _ (by simpa using hlen) fun i j h1 h2 => ?_
 simp only [List.length_map] at h1 h2
 have hat : ∀ t (ht : t < (zg (K + 1) 0 s.xs.length).length), (zg (K + 1) 0 s.xs.length)[t].1 * (K + 1) + (zg (K + 1) 0 s.xs.length)[t].2 = t := fun t ht => by
  rw [XW _ _ (by omega)]
  simp only
  rw [Nat.mul_comm]; exact Nat.div_add_mod t (K + 1)
 simp only [List.getElem_map, hat]
 rw [Int.ofNat_inj, h i j (by omega) (by omega)]
 constructor
 · exact fun c => c.mono fun x y hx hy hr => .one hx hy ((ZP hF hs hx hy).1 hr)
 · exact fun c => c.mono fun x y hx hy hr => .one hx hy ((ZP hF hs hx hy).2 hr)
end
section
open Go.RowKit Go.Shelf
attribute [local go_sem] Oper.semAt_some
set_option maxRecDepth 100000 in
theorem wF (n : Nat) (ρ h : Nat → Nat) (f : List Int) (F : Frst n f ρ h) (i : Nat) (hi : i < n) (g : Nat) (w : World) (hr : RowAt w g f) :
  Calls Tryz.prog 94 #[.slice (some ⟨g, 0, none⟩) n n, .int .i64 (i : Int)] w fun e w' => e = .returned (.int .i64 (ρ i : Int)) ∧ (∃ f', Frst n f' ρ h ∧ RowAt w' g f') ∧ Wrote (fun k => k = g) w w' := by
 have HF := zH F
 have HR := zH hr
 clear F hr
 go_enter Tryz.func94, Tryz.ntmps94
 go_wp2_with fail
 go_loopw [1] (fun o wr => ∃ (k : Nat) (f' : List Int), o = .int .i64 (k : Int) ∧ k < n ∧ ρ k = ρ i ∧ Hid (Frst n f' ρ h) ∧ Hid (RowAt wr g f') ∧ Hid (Wrote (fun k => k = g) w wr)) (fun o _ => h (intOf o).toNat)
 case atStart => exact ⟨i, f, rfl, hi, rfl, HF, HR, Wrote.refl _ _⟩
 case round =>
  obtain ⟨k, f', rfl, hk, hρ, HF', HR', HW⟩ := hrel
  clear HF HR
  obtain ⟨j, e1, j1, j2, j3, j4⟩ := HF'.out.at_ k hk
  obtain ⟨m, e2, m1, m2, m3, m4⟩ := HF'.out.at_ j j1
  have hl := HF'.out.len
  rw [zE (by omega)] at e1 e2
  have c1 := HR'.out.cell k (by omega)
  have c2 := HR'.out.cell j (by omega)
  rw [e1] at c1
  rw [e2] at c2
  have hk0 : (0 : Int) ≤ (k : Int) := by omega
  have hk1 : (k : Int) < (n : Int) := by omega
  have hj0 : (0 : Int) ≤ (j : Int) := by omega
  have hj1 : (j : Int) < (n : Int) := by omega
  by_cases hne : j = k
  · subst hne
    have HE : Hid (ρ i = j) := by rw [← hρ]; exact j3 rfl
    clear e1 e2 m1 m2 m3 m4 j1 j2 j3 j4 hl c2 hρ
    go_wp2_with fail
    go_ret
    rw [HE.out]
    exact ⟨rfl, ⟨f', HF'.out, HR'.out⟩, HW.out⟩
  · obtain ⟨F2, q1, q2, q3⟩ := HF'.out.halve hk (by rw [zE (by omega), e1]) (by rw [zE (by omega), e2]) hne
    have HF2 := zH F2
    have HR2 := zH (HR'.out.set k (m : Int))
    have HW2 : Hid (Wrote (fun k => k = g) w (wr.setCell ⟨g, k, none⟩ (.int .i64 (m : Int)))) := HW.out.trans (Wrote.of_grown (zS wr g k _) (fun k e _ => by cases e; rfl)) (fun _ _ h => h)
    have HQ := zH (And.intro q1 (And.intro (show ρ m = ρ i by omega) q3))
    have hz0 := zb HR'.out k
    have hne' : ¬ (j : Int) = (k : Int) := by omega
    have hlg := HR'.out.lt
    clear e1 e2 m1 m2 m3 m4 j1 j2 j3 j4 hl F2 q1 q2 q3 hρ hne
    go_wp2_with fail
    go_roundw
    case rel => exact ⟨m, _, rfl, HQ.out.1, HQ.out.2.1, HF2, HR2, HW2⟩
    case measure => simpa [intOf] using HQ.out.2.2
set_option maxRecDepth 100000 in
theorem XS (n K : Nat) (hn : n ≤ 100000) (hK : K ≤ 100) (ρ h : Nat → Nat) (f : List Int) (F : Frst n f ρ h) (e k : Nat) (he : e * (K + 1) + k < n) (C : Array Value) (hC : C[6]? = some (.int .i64 (K : Int))) (g b7 b2 : Nat) (w : World) (hr : RowAt w g f)
  (h7 : w.heap[b7]? = some (.cells #[.slice (some ⟨g, 0, none⟩) n n] 159 (0, 0))) (h2 : w.heap[b2]? = some (.cells C 35 (0, 0))) :
  Calls Tryz.prog 95 #[.agg #[.int .i64 (e : Int), .int .i64 (k : Int)], .pointer (some ⟨b7, 0, none⟩), .pointer (some ⟨b2, 0, none⟩)] w fun r w' => r = .returned (.int .i64 (ρ (e * (K + 1) + k) : Int)) ∧ (∃ f', Frst n f' ρ h ∧ RowAt w' g f') ∧ Wrote (fun k => k = g) w w' := by
 obtain ⟨w1, hw1, d0, hs1, hB⟩ := zi w #[.int .i64 (e : Int), .int .i64 (k : Int)] 153
 have HC := zH (wF n ρ h f F _ he g w1 ((hB.block _ hr.lt).trans hr))
 have q0 := za d0 0 rfl
 have q1 := za d0 1 rfl
 have z0 := za ((hB.block _ (zd h7)).trans h7) 0 rfl
 have z6 := za ((hB.block _ (zd h2)).trans h2) 6 hC
 have y0 := za h7 0 rfl
 have y6 := za h2 6 hC
 have l7 := zd h7
 have l2 := zd h2
 have HW : Hid (Wrote (fun k => k = g) w w1) := Wrote.of_below hB
 have hm1 : e ≤ e * (K + 1) := Nat.le_mul_of_pos_right _ (by omega)
 have a1 : IntKind.i64.wrap ((K : Int) + 1) = (K : Int) + 1 := by rw [IntKind.wrap_i64]; omega
 have a2 : IntKind.i64.wrap ((e : Int) * ((K : Int) + 1)) = ((e * (K + 1) : Nat) : Int) := by rw [show (e : Int) * ((K : Int) + 1) = ((e * (K + 1) : Nat) : Int) by push_cast; rfl, IntKind.wrap_i64]; omega
 have a3 : IntKind.i64.wrap (((e * (K + 1) : Nat) : Int) + (k : Int)) = ((e * (K + 1) + k : Nat) : Int) := by rw [IntKind.wrap_i64]; omega
 have HW1 := zH hw1
 obtain ⟨t, ht⟩ : ∃ t, e * (K + 1) = t := ⟨_, rfl⟩
 rw [ht] at a2 a3 HC ⊢
 obtain ⟨u, hu⟩ : ∃ u, t + k = u := ⟨_, rfl⟩
 rw [hu] at a3 HC ⊢
 clear hw1 d0 hB F he hr h7 h2 hC ht hu hm1
 go_enter Tryz.func95, Tryz.ntmps95
 go_wp2_with fail
 rw [HW1.out]
 go_wp2_with fail
 refine HC.out.mono ?_
 rintro r w2 ⟨rfl, hf, hw⟩
 have HF := zH hf
 have HW2 := zH (HW.out.trans hw (fun _ _ h => h))
 clear hf hw HC HW
 go_wp2_with fail
 go_ret
 exact ⟨rfl, HF.out, HW2.out⟩
end
section
open Go.RowKit Go.Shelf
attribute [local go_sem] Oper.semAt_some
set_option maxRecDepth 100000 in
theorem Xe (s : Sy) (hs : LowS s) (hf : xq s.p) (g : Int) (A SV AV AX : Option Addr) (kc ks kv kx : Nat) (w : World) (hS : SyAt w w.heap.size A SV AV AX s) :
  Calls Tryz.prog 87 #[.agg (s.vs_ A kc SV ks AV kv AX kx), .int .i64 g] w fun e w' => e = .returned (.int .i64 (zD s g)) ∧ Below w.heap.size w w' := by
 obtain ⟨w1, hw1, d0, hs1, hB⟩ := zi w (s.vs_ A kc SV ks AV kv AX kx) 35
 have HV := zH (j9 s hs hf A SV AV AX kc ks kv kx w1 (hS.up hB))
 have HE0 : Hid (yH s ≠ 0 → zD s g = yH s) := fun h => if_pos h
 have HE1 : Hid (yH s = 0 → zD s g = if yR s.n g = 0 then 0 else 2) := fun h => by
  obtain ⟨_, K, N, hF⟩ := qf hf h
  have hn := hF.n
  have hn1 := hF.n1
  have hn5 := hF.n5
  have h2 : ((2 ^ N : Nat) : Int) = (2 : Int) ^ N := by push_cast; rfl
  have h3 : ¬ (s.n < 1 ∨ 5 < s.n) := by omega
  have e2 : zD s g = if g < 0 ∨ (2 : Int) ^ N ≤ g then 2 else 0 := by unfold zD; rw [if_neg (by simpa using h), hn, Int.toNat_natCast]
  have e3 : yR s.n g = if g < 0 ∨ (2 : Int) ^ N ≤ g then 2 else 0 := by unfold yR; rw [if_neg h3, hn, Int.toNat_natCast, h2]
  rw [e2, e3]
  by_cases hg : g < 0 ∨ (2 : Int) ^ N ≤ g
  · simp only [if_pos hg]; rfl
  · simp only [if_neg hg]; rfl
 obtain ⟨r, hr⟩ : ∃ r, yH s = r := ⟨_, rfl⟩
 rw [hr] at HV HE0 HE1
 obtain ⟨R, hRR⟩ : ∃ R, zD s g = R := ⟨_, rfl⟩
 rw [hRR] at HE0 HE1 ⊢
 unfold Sy.vs_ at hw1 d0 HV ⊢
 have HW1 := zH hw1
 have HB := zH hB
 have HD := zH d0
 obtain ⟨p0, p1, p2, p3, p4, p5, p6, p7, p8, p9⟩ := zx (d0)
 clear hw1 d0 hB hS hr hRR hs hf
 go_enter Tryz.func87, Tryz.ntmps87
 go_wp2_with fail
 rw [HW1.out]
 go_wp2_with fail
 refine HV.out.mono ?_
 rintro e w2 ⟨rfl, hb2⟩
 have HB2 := zH (HB.out.trans (hb2.mono (by omega)))
 have d0 := (hb2.block _ (by omega : w.heap.size < w1.heap.size)).trans HD.out
 clear p0 p1 p2 p3 p4 p5 p6 p7 p8 p9 hb2 HV HW1 HD
 by_cases h0 : r = 0
 case neg =>
  have hR : Hid (R = r) := HE0.out h0
  have e0 : (r != 0) = true := by simpa using h0
  clear HE0 HE1 d0
  go_wp2_with fail
  go_ret
  rw [hR.out]
  exact ⟨rfl, HB2.out⟩
 case pos =>
 subst h0
 have p7 := za d0 7 rfl
 have HC := zH (Zz s.n g w2)
 have hR := zH (HE1.out rfl)
 obtain ⟨q, hq⟩ : ∃ q, yR s.n g = q := ⟨_, rfl⟩
 rw [hq] at HC hR
 clear HE0 HE1 d0 hq
 go_wp2_with fail
 refine HC.out.mono ?_
 rintro e w3 ⟨rfl, rfl⟩
 clear HC p7
 by_cases h1 : q = 0
 · subst h1
   have hR2 : Hid (R = 0) := hR.out
   clear hR
   go_wp2_with fail
   go_ret
   rw [hR2.out]
   exact ⟨rfl, HB2.out⟩
 · have hR2 : Hid (R = 2) := by rw [Hid, hR.out, if_neg h1]
   have e1 : (q != 0) = true := by simpa using h1
   clear hR
   go_wp2_with fail
   go_ret
   rw [hR2.out]
   exact ⟨rfl, HB2.out⟩
def wL (s : Sy) (a : Int) : (Int × Int) × Int := if yH s ≠ 0 then ((0, 0), yH s) else if a < 0 ∨ (ptn s : Int) ≤ a then ((0, 0), 6) else ((((a.toNat / (s.p.k.toNat + 1) : Nat) : Int), ((a.toNat % (s.p.k.toNat + 1) : Nat) : Int)), 0)
set_option maxRecDepth 100000 in
theorem JK (s : Sy) (hs : LowS s) (hf : xq s.p) (a : Int) (A SV AV AX : Option Addr) (kc ks kv kx : Nat) (w : World) (hS : SyAt w w.heap.size A SV AV AX s) :
  Calls Tryz.prog 52 #[.agg (s.vs_ A kc SV ks AV kv AX kx), .int .i64 a] w fun e w' => e = .returned (.tuple #[.int .i64 (wL s a).1.1, .int .i64 (wL s a).1.2, .int .i64 (wL s a).2]) ∧ Below w.heap.size w w' := by
 obtain ⟨w1, hw1, d0, hs1, hB⟩ := zi w (s.vs_ A kc SV ks AV kv AX kx) 35
 have HV := zH (j9 s hs hf A SV AV AX kc ks kv kx w1 (hS.up hB))
 have HE0 : Hid (yH s ≠ 0 → wL s a = ((0, 0), yH s)) := fun h => if_pos h
 have HE1 : Hid (yH s = 0 → (∀ X, Calls Tryz.prog 92 #[.agg (s.vs_ A kc SV ks AV kv AX kx)] X fun e w' => e = .returned (.int .i64 (ptn s : Int)) ∧ Below X.heap.size X w') ∧ ptn s ≤ 700 ∧ (∃ K : Nat, s.p.k = (K : Int) ∧ K ≤ 6) ∧
   ((a < 0 ∨ (ptn s : Int) ≤ a) → wL s a = ((0, 0), 6)) ∧ (¬ (a < 0 ∨ (ptn s : Int) ≤ a) → ∃ t : Nat, a = (t : Int) ∧ wL s a = ((((t / (s.p.k.toNat + 1) : Nat) : Int), ((t % (s.p.k.toNat + 1) : Nat) : Int)), 0))) := fun h => by
  obtain ⟨_, K, N, hF⟩ := qf hf h
  have hk := hF.k
  have hk6 := hF.k6
  have := Nat.mul_le_mul hF.lx (show K + 1 ≤ 7 by omega)
  refine ⟨fun X => jR s K N hF A SV AV AX kc ks kv kx X, by unfold ptn; rw [hk, Int.toNat_natCast]; omega, ⟨K, hk, hk6⟩, fun h2 => ?_, fun h2 => ?_⟩
  · unfold wL; rw [if_neg (by simpa using h), if_pos h2]
  · obtain ⟨t, ht⟩ := Int.eq_ofNat_of_zero_le (by omega : 0 ≤ a)
    refine ⟨t, ht, ?_⟩
    unfold wL; rw [if_neg (by simpa using h), if_neg h2, ht, Int.toNat_natCast]
 obtain ⟨r, hr⟩ : ∃ r, yH s = r := ⟨_, rfl⟩
 rw [hr] at HV HE0 HE1
 obtain ⟨R, hRR⟩ : ∃ R, wL s a = R := ⟨_, rfl⟩
 rw [hRR] at HE0 HE1 ⊢
 obtain ⟨n, hn⟩ : ∃ n, ptn s = n := ⟨_, rfl⟩
 rw [hn] at HE1
 unfold Sy.vs_ at hw1 d0 HV HE1 ⊢
 have HW1 := zH hw1
 have HB := zH hB
 have HD := zH d0
 obtain ⟨p0, p1, p2, p3, p4, p5, p6, p7, p8, p9⟩ := zx (d0)
 clear hw1 d0 hB hS hr hRR hs hf hn
 go_enter Tryz.func52, Tryz.ntmps52
 go_wp2_with fail
 rw [HW1.out]
 go_wp2_with fail
 refine HV.out.mono ?_
 rintro e w2 ⟨rfl, hb2⟩
 have HB2 := zH (HB.out.trans (hb2.mono (by omega)))
 have HD := zH ((hb2.block _ (by omega : w.heap.size < w1.heap.size)).trans HD.out)
 clear p0 p1 p2 p3 p4 p5 p6 p7 p8 p9 hb2 HV HW1
 by_cases h0 : r = 0
 case neg =>
  have hR : Hid (R = ((0, 0), r)) := HE0.out h0
  have e0 : (r != 0) = true := by simpa using h0
  clear HE0 HE1 HD
  go_wp2_with fail
  go_ret3
  rw [hR.out]
  exact ⟨rfl, HB2.out⟩
 case pos =>
 subst h0
 obtain ⟨hC, hn7, ⟨K, hK, hK6⟩, hbad, hok⟩ := HE1.out rfl
 have HC := zH (hC w2)
 have HK := zH hK
 clear hK
 by_cases hneg : a < 0
 · have hR : Hid (R = ((0, 0), 6)) := hbad (.inl hneg)
   have e0 : (decide (a < 0)) = true := decide_eq_true hneg
   clear HE0 HE1 HD hC hbad hok HC
   go_wp2_with fail
   go_ret3
   rw [hR.out]
   exact ⟨rfl, HB2.out⟩
 obtain ⟨p0, p1, p2, p3, p4, p5, p6, p7, p8, p9⟩ := zx (HD.out)
 have HBAD := zH hbad
 have HOK := zH hok
 have e0 : (decide (a < 0)) = false := decide_eq_false hneg
 clear HE0 HE1 hC hbad hok
 go_wp2_with fail
 refine HC.out.mono ?_
 rintro e w3 ⟨rfl, hb3⟩
 have HB3 := zH (HB2.out.trans (hb3.mono HB2.out.size))
 have HD := zH ((hb3.block _ (zd HD.out)).trans HD.out)
 clear hb3 HC HB2 p0 p1 p2 p3 p4 p5 p6 p7 p8 p9
 by_cases hbig : (n : Int) ≤ a
 · have hR : Hid (R = ((0, 0), 6)) := HBAD.out (.inr hbig)
   have e1 : decide (a ≥ (n : Int)) = true := decide_eq_true hbig
   clear HD HBAD HOK
   go_wp2_with fail
   go_ret3
   rw [hR.out]
   exact ⟨rfl, HB3.out⟩
 obtain ⟨t, rfl, hR⟩ := HOK.out (by omega)
 rw [HK.out, Int.toNat_natCast] at hR
 have hR := zH hR
 have hq1 : ((t : Int)).tdiv ((K : Int) + 1) = ((t / (K + 1) : Nat) : Int) := by
  rw [Int.tdiv_eq_ediv_of_nonneg (by omega)]
  push_cast; rfl
 have hr1 : ((t : Int)).tmod ((K : Int) + 1) = ((t % (K + 1) : Nat) : Int) := by
  rw [Int.tmod_eq_emod_of_nonneg (by omega)]
  push_cast; rfl
 have hqb : t / (K + 1) ≤ t := Nat.div_le_self _ _
 have hrb : t % (K + 1) < K + 1 := Nat.mod_lt _ (by omega)
 obtain ⟨q, hq⟩ : ∃ q, t / (K + 1) = q := ⟨_, rfl⟩
 obtain ⟨u, hu⟩ : ∃ u, t % (K + 1) = u := ⟨_, rfl⟩
 rw [hq] at hq1 hqb hR
 rw [hu] at hr1 hrb hR
 have hkz : ¬ ((K : Int) + 1) = 0 := by omega
 have hwk : IntKind.i64.wrap ((K : Int) + 1) = (K : Int) + 1 := by rw [IntKind.wrap_i64]; omega
 have hwq : IntKind.i64.wrap (q : Int) = (q : Int) := by rw [IntKind.wrap_i64]; omega
 have hwr : IntKind.i64.wrap (u : Int) = (u : Int) := by rw [IntKind.wrap_i64]; omega
 have hD2 := HD.out
 rw [HK.out] at hD2
 have HD2 := zH hD2
 clear HD hD2 hq hu HBAD HOK hqb hrb
 go_wp2_with fail
 refine zu [(0, true), (1, true), (2, true), (3, true), (4, true), (5, true), (6, true), (7, true), (8, true), (9, true), (10, true), (11, true), (12, false), (13, false), (14, false)] (fun X => X.heap[w.heap.size]? = some (.cells #[.int .i64 s.p.t.n, .int .i64 s.p.t.ins, .int .i64 s.p.t.outs, .slice A s.p.t.cases.length kc, .int .i64 s.p.a.n, .slice SV s.p.a.sts.length ks, .int .i64 (K : Int), .int .i64 s.n, .slice AV s.vs.length kv, .slice AX s.xs.length kx] 35 (0, 0))) (by kernel_rfl) (by kernel_rfl) HD2.out ?_
 repeat
  apply zA rfl
  · rintro K' hK' X v
    have p6 := za v 6 rfl
    clear v
    go_simp
    exact hK'
 iterate 3
  refine zB rfl ?_
  intro K' hK'
  go_simp
  refine hK' _ _ HD2.out ?_
  clear hK' K'
 refine zJ ?_
 go_wp2_with fail
 go_ret3
 rw [hR.out]
 exact ⟨rfl, HB3.out.drew⟩
end
section
open Go.RowKit Go.Shelf
attribute [local go_sem] Oper.semAt_some
theorem J4 (n : Nat) (hn : n ≤ 100000) (W : World) : (Instr.makeSlice 159 (.int .i64 n) (.int .i64 n)).run Tryz.prog W = .ok (.slice (some ⟨W.heap.size, 0, none⟩) n n) (W.alloc (.cells ((List.replicate n 0).map (Value.int .i64)).toArray 3)) := by
 obtain ⟨i0, hi, hz0, hz1, hz2⟩ := yA vW
 have hb : i0.bytes = 8 := hz2
 have hs : i0.size = 1 := hz1
 have h := run_make (P := Tryz.prog) W 159 3 i0 (.int .i64 0) Tryz.underlying159 hi hz0 .i64 .i64 (n : Int) (n : Int) (by omega) (Int.le_refl _) (by rw [hb]; omega) (by omega)
 rw [h, hs]
 simp only [Int.toNat_natCast]
 rw [show (Value.int .i64 0).cells = #[.int .i64 0] from rfl, Y0]
structure ReIn (H E n : Nat) (S : Array Value) (w X : World) (L : List (Nat × Int)) (c : Nat) : Prop where
 below : Below H w X
 b7 : X.heap[H + 1]? = some (.cells #[.slice (some ⟨H, 0, none⟩) n n] 159 (0, 0))
 b9 : X.heap[E + 1]? = some (.cells #[.map (some E)] 115 (0, 0))
 b10 : X.heap[E + 1 + 1]? = some (.cells #[.int .i64 (c : Int)] 3 (0, 0))
 b5 : X.heap[E + 1 + 1 + 1]? = some (.cells S 35 (0, 0))
 row : ∃ f ρ h, RowAt X H f ∧ Frst n f ρ h ∧ FrT n (shr L) ρ
 hm : ∃ m, MapOf (Value.int .i64) X E m (kQ L)
 sz : E + 4 ≤ X.heap.size
 he : H + 2 = E
section
variable {H E n c c' : Nat} {S : Array Value} {w X X' : World} {L L' : List (Nat × Int)}
theorem ReIn.upd (h : ReIn H E n S w X L c) (hb : Below H X X') (hk : ∀ k, H < k → k < E + 4 → k ≠ E → k ≠ E + 1 + 1 → X'.heap[k]? = X.heap[k]?) (hr : ∃ f ρ h, RowAt X' H f ∧ Frst n f ρ h ∧ FrT n (shr L') ρ) (hm : ∃ m, MapOf (Value.int .i64) X' E m (kQ L'))
  (h10 : X'.heap[E + 1 + 1]? = some (.cells #[.int .i64 (c' : Int)] 3 (0, 0))) : ReIn H E n S w X' L' c' := by
 have he := h.he
 exact ⟨h.below.trans hb, (hk _ (by omega) (by omega) (by omega) (by omega)).trans h.b7, (hk _ (by omega) (by omega) (by omega) (by omega)).trans h.b9, h10, (hk _ (by omega) (by omega) (by omega) (by omega)).trans h.b5, hr, hm, Nat.le_trans h.sz hb.size, he⟩
theorem ReIn.same (h : ReIn H E n S w X L c) (hb : Below (E + 4) X X') : ReIn H E n S w X' L c := by
 have he := h.he
 obtain ⟨f, ρ, hh, r1, r2, r3⟩ := h.row
 obtain ⟨m, hm⟩ := h.hm
 exact h.upd (hb.mono (by omega)) (fun k _ h2 _ _ => hb.block k h2) ⟨f, ρ, hh, (hb.block _ (by omega)).trans r1, r2, r3⟩ ⟨m, hm.same (hb.block _ (by omega))⟩ ((hb.block _ (by omega)).trans h.b10)
theorem ReIn.turn {row : Option Nat} (h : ReIn H E n S w X L c) (hg : X.grownBy X' row) (hr : ∀ r, row = some r → E + 4 ≤ r) : ReIn H E n S w X' L c :=
 h.same ((Below.refl _ _).grown hg h.sz hr)
end
theorem gZ {H : Nat} {w w' : World} (h : Wrote (fun k => k = H) w w') (hH : H ≤ w.heap.size) : Below H w w' := ⟨h.os, h.tape, h.output, h.size, fun k hk => h.block k (by omega) (by omega)⟩
theorem shL_low {V : Nat × Nat → Nat → Int} {ps : List Nat} {pre : List (Nat × Nat)} {p : Nat × Int} (h : p ∈ shL V ps pre) : p.1 < pre.length := by
 obtain ⟨i, v⟩ := p
 exact (kE.1 h).1
theorem JB {V : Nat × Nat → Nat → Int} {ps : List Nat} {c : Nat} {x : Nat × Nat} {p : Nat × Int} (h : p ∈ xJ V ps c x) : p.1 = c := by
 unfold xJ at h
 obtain ⟨q, _, rfl⟩ := List.mem_map.1 h
 rfl
set_option maxRecDepth 100000 in
theorem JG (s : Sy) (hs : LowS s) (hf : xq s.p) (g : Int) (A SV AV AX : Option Addr) (kc ks kv kx : Nat) (w : World) (hS : SyAt w w.heap.size A SV AV AX s) :
  Calls Tryz.prog 39 #[.agg (s.vs_ A kc SV ks AV kv AX kx), .int .i64 g] w (RetOE (xb s g).1 (xb s g).2 w) := by
 obtain ⟨w1, hw1, d0, d1, hs1, hB⟩ := ye w (s.vs_ A kc SV ks AV kv AX kx) #[.int .i64 g] 35 3
 have HG := zH (Xe s hs hf g A SV AV AX kc ks kv kx w1 (hS.up hB))
 have HX := zH (hS.keep hB).fx
 have HE0 : Hid (zD s g ≠ 0 → xb s g = ([], zD s g)) := fun h => if_pos h
 have HE1 : Hid (zD s g = 0 → xb s g = (yq (ptn s) (yF s g), 0)) := fun h => if_neg (by simpa using h)
 have HVF := zH (fun h => qf hf (wH (s := s) (g := g) h).1)
 have HRV := zH (fun h => (wH (s := s) (g := g) h).2)
 obtain ⟨r, hr⟩ : ∃ r, zD s g = r := ⟨_, rfl⟩
 rw [hr] at HG HE0 HE1 HVF HRV
 obtain ⟨R, hRR⟩ : ∃ R, xb s g = R := ⟨_, rfl⟩
 rw [hRR] at HE0 HE1 ⊢
 have HU : Hid (s.vs_ A kc SV ks AV kv AX kx = #[.int .i64 s.p.t.n, .int .i64 s.p.t.ins, .int .i64 s.p.t.outs, .slice A s.p.t.cases.length kc, .int .i64 s.p.a.n, .slice SV s.p.a.sts.length ks, .int .i64 s.p.k, .int .i64 s.n, .slice AV s.vs.length kv, .slice AX s.xs.length kx]) := rfl
 unfold Sy.vs_ at hw1 d0 HG ⊢
 have HW1 := zH hw1
 have HB := zH hB
 have HD := zH d0
 have HD1 := zH d1
 have q0 := za d1 0 rfl
 obtain ⟨p0, p1, p2, p3, p4, p5, p6, p7, p8, p9⟩ := zx (d0)
 clear hw1 d0 d1 hB hS hr hRR hs hf
 refine yf Tryz.func39 rfl ?_
 simp only [Tryz.ntmps39, List.size_toArray, List.length_cons, List.length_nil, Nat.reduceAdd, Nat.reduceSub, Array.replicate_succ, Array.replicate_zero, List.push_toArray, List.append_toArray, List.nil_append, List.cons_append]
 go_wp2_with fail
 rw [HW1.out]
 go_wp2_with fail
 refine HG.out.mono ?_
 rintro e w2 ⟨rfl, hb2⟩
 have HB2 := zH (HB.out.trans (hb2.mono (by omega)))
 have HD := zH ((hb2.block _ (zd HD.out)).trans HD.out)
 have HD1 := zH ((hb2.block _ (zd HD1.out)).trans HD1.out)
 have HX2 := zH (HX.out.keep (hb2.mono (by omega)))
 clear p0 p1 p2 p3 p4 p5 p6 p7 p8 p9 q0 hb2 HG HW1 HX
 by_cases h0 : r = 0
 case neg =>
  have hR : Hid (R = ([], r)) := HE0.out h0
  have e0 : (r != 0) = true := by simpa using h0
  clear HE0 HE1 HD HD1 HVF HRV
  go_wp2_with fail
  refine yw (Marks.nil w.heap.size w2) (v := .tuple #[.slice none 0 0, .int .i64 r]) (fun W => by kernel_rfl) ?_
  intro X hX
  rw [hR.out]
  exact ⟨none, 0, rfl, Own.nil _ _, HB2.out.trans hX.below⟩
 case pos =>
 subst h0
 obtain ⟨hsb, K, N, hF⟩ := HVF.out rfl
 have hSe : Sees s K N := by rw [hsb]; exact gF (by rw [← hsb]; exact hF)
 clear hsb
 have hR := zH (HE1.out rfl)
 obtain ⟨hg0, hg1⟩ := HRV.out rfl
 obtain ⟨G, rfl⟩ := Int.eq_ofNat_of_zero_le hg0
 have HC := zH (jR s K N hF A SV AV AX kc ks kv kx w2)
 rw [HU.out] at HC
 have HN5 := zH hF.n5
 have hG32 : G < 32 := by
  rw [hF.n, Int.toNat_natCast] at hg1
  have := Nat.pow_le_pow_right (n := 2) (show 0 < 2 by omega) HN5.out
  have h2 : ((2 ^ N : Nat) : Int) = (2 : Int) ^ N := by push_cast; rfl
  omega
 have hpn : ptn s ≤ 700 := by
  have hk := hF.k
  have hk6 := hF.k6
  have := Nat.mul_le_mul hF.lx (show K + 1 ≤ 7 by omega)
  unfold ptn; rw [hk, Int.toNat_natCast]; omega
 have HPS : Hid (psG s (G : Int) = zo G N) := by show psG s _ = _; unfold psG; rw [hF.n]; rfl
 have HLB : Hid (∀ ρ, FrT (ptn s) (shr (shL (vwP s) (psG s G) (zg (K + 1) 0 s.xs.length))) ρ → xg ((zg (K + 1) 0 s.xs.length).map fun x => (ρ (x.1 * (K + 1) + x.2) : Int)) = yq (ptn s) (yF s G)) := fun ρ h => ZR hF hSe h
 have HFF := zH hF
 have HPN : Hid ((zg (K + 1) 0 s.xs.length).length = ptn s) := by
  show _ = _
  have hk : s.p.k.toNat = K := by have := hF.k; omega
  rw [kC _ _ (by omega)]; unfold ptn; rw [hk]
 obtain ⟨n, hn⟩ : ∃ n, ptn s = n := ⟨_, rfl⟩
 rw [hn] at HC HLB hpn HPN hR
 have hmk := J4 n (by omega)
 obtain ⟨AR, har⟩ : ∃ AR, ((List.replicate n 0).map (Value.int .i64)).toArray = AR := ⟨_, rfl⟩
 rw [har] at hmk
 have HAR := zH har
 obtain ⟨p0, p1, p2, p3, p4, p5, p6, p7, p8, p9⟩ := zx (HD.out)
 clear HE0 HE1 HVF HRV hg0 hg1 hF hSe hn har
 go_wp2_with fail
 refine HC.out.mono ?_
 rintro e w3 ⟨rfl, hb3⟩
 have HB3 := zH (HB2.out.trans (hb3.mono HB2.out.size))
 have HD := zH ((hb3.block _ (zd HD.out)).trans HD.out)
 have HD1 := zH ((hb3.block _ (zd HD1.out)).trans HD1.out)
 have HX3 := zH (HX2.out.keep (hb3.mono HB2.out.size))
 clear p0 p1 p2 p3 p4 p5 p6 p7 p8 p9 hb3 HC HB2 HX2
 go_upto_region 5 with fail
 obtain ⟨a4, h4, x4, y4, z4⟩ := zi w3 AR 3
 rw [h4]
 obtain ⟨a5, h5, x5, y5, z5⟩ := zi a4 #[.slice (some ⟨w3.heap.size, 0, none⟩) n n] 159
 rw [h5]
 rw [y4] at x5 y5
 have HB5 := zH (z4.trans (z5.mono (by omega)))
 obtain ⟨al, hal⟩ : ∃ al, (List.range n).map (fun (i : Nat) => (i : Int)) = al := ⟨_, rfl⟩
 have hall : al.length = n := by rw [← hal]; simp
 have halk : Hid (∀ k (h : k < al.length), al[k] = (k : Int)) := fun k h => by subst hal; simp
 have hbl : (List.replicate n (0 : Int)).length = n := by simp
 have hab : al.length = (List.replicate n (0 : Int)).length := by rw [hall, hbl]
 have HAL := zH hal
 have HALL := zH hall
 have HBL := zH hbl
 have HAB := zH hab
 have HR5 : Hid (RowAt a5 w3.heap.size (kD al (List.replicate n 0) 0)) := by
  rw [Zk]
  show _ = _
  rw [HAR.out]
  exact (z5.block _ (by omega)).trans x4
 have H75 := zH x5
 have hys : a5.heap.size = w3.heap.size + 1 + 1 := y5
 have HYS := zH hys
 have p0 := za x5 0 rfl
 clear h4 x4 y4 z4 h5 x5 y5 z5 hal hall hbl hab hys hmk
 go_wp2_with fail
 go_loopw [27] (fun i wr => ∃ k : Nat, k ≤ n ∧ i = .int .i64 (k : Int) ∧ Hid (RowAt wr w3.heap.size (kD al (List.replicate n 0) k)) ∧ Hid (wr.heap[w3.heap.size + 1]? = some (.cells #[.slice (some ⟨w3.heap.size, 0, none⟩) n n] 159 (0, 0))) ∧ Hid (Below w3.heap.size w3 wr) ∧ Hid (wr.heap.size = w3.heap.size + 1 + 1)) (fun i _ => n - (intOf i).toNat)
 case atStart => exact ⟨0, by omega, rfl, HR5, H75, HB5, HYS⟩
 case round =>
  obtain ⟨k, hk, rfl, hrow, h7, hb, hz⟩ := hrel
  clear HR5 H75 HB5 HYS p0
  have p0 := za h7.out 0 rfl
  by_cases hlt : k < n
  · have hkb : k < (List.replicate n (0 : Int)).length := by rw [HBL.out]; exact hlt
    have hml := vo HAB.out k
    have y0 := hrow.out.cell k (by rw [hml]; exact hkb)
    have f0 := hrow.out.froz k
    have hka : k < al.length := by rw [HALL.out]; exact hlt
    have hset := wV HAB.out hkb
    rw [halk.out k hka] at hset
    have hnew := hrow.out.set k (k : Int)
    rw [hset] at hnew
    have HNEW := zH hnew
    have HBN := zH (hb.out.setCell (p := ⟨w3.heap.size, k, none⟩) (by show w3.heap.size ≤ w3.heap.size; omega) (.int .i64 (k : Int)))
    have H7N : Hid ((wr.setCell ⟨w3.heap.size, k, none⟩ (.int .i64 (k : Int))).heap[w3.heap.size + 1]? = some (.cells #[.slice (some ⟨w3.heap.size, 0, none⟩) n n] 159 (0, 0))) := (Below.heap_setCell wr ⟨w3.heap.size, k, none⟩ _ _ (by show w3.heap.size + 1 ≠ w3.heap.size; omega)).trans h7.out
    have HZN : Hid ((wr.setCell ⟨w3.heap.size, k, none⟩ (.int .i64 (k : Int))).heap.size = w3.heap.size + 1 + 1) := by rw [Hid, ← hz.out]; simp [World.setCell]
    have hk0 : (0 : Int) ≤ (k : Int) := by omega
    have hk1 : (k : Int) < (n : Int) := by omega
    have hl3 := hrow.out.lt
    obtain ⟨u, hu⟩ : ∃ u, (kD al (List.replicate n 0) k)[k]'(by rw [hml]; exact hkb) = u := ⟨_, rfl⟩
    rw [hu] at y0
    clear hset hnew hml hkb hka hrow hb hu
    go_wp2_with fail
    go_roundw
    case rel => exact ⟨k + 1, by omega, by go_num, HNEW, H7N, HBN, HZN⟩
    case measure => simp [intOf]; omega
  · obtain rfl : n = k := by omega
    have hrow2 := hrow.out
    rw [YY HAB.out (by rw [HBL.out])] at hrow2
    have HROW : Hid (RowAt wr w3.heap.size ((List.range n).map fun (i : Nat) => (i : Int))) := by rw [HAL.out]; exact hrow2
    clear hrow hrow2 HAB HBL HALL halk HAL HAR p0
    obtain ⟨wE, rfl⟩ : ∃ x, x = wr := ⟨_, rfl⟩
    have hmm := @run_makeMap Tryz.prog
    go_upto_region 12 with fail
    obtain ⟨b1, e1⟩ : ∃ b1, wE.alloc (.map #[] 0) = b1 := ⟨_, rfl⟩
    have m1 : MapOf (Value.int .i64) b1 wE.heap.size 0 (fun _ => none) := by rw [← e1]; exact MapOf.made wE
    have s1 : b1.heap.size = wE.heap.size + 1 := by rw [← e1]; simp
    have z1 : Below wE.heap.size wE b1 := by rw [← e1]; exact zI _ _
    rw [e1]
    obtain ⟨b2, e2, x2, s2, z2⟩ := zi b1 #[.map (some wE.heap.size)] 115
    rw [e2]
    obtain ⟨b3, e3, x3, s3, z3⟩ := zi b2 #[.int .i64 0] 3
    rw [e3]
    rw [s1] at x2 s2
    rw [s2] at x3 s3
    obtain ⟨S, hS⟩ : ∃ S : Array Value, #[.int .i64 s.p.t.n, .int .i64 s.p.t.ins, .int .i64 s.p.t.outs, .slice A s.p.t.cases.length kc, .int .i64 s.p.a.n, .slice SV s.p.a.sts.length ks, .int .i64 s.p.k, .int .i64 s.n, .slice AV s.vs.length kv, .slice AX s.xs.length kx] = S := ⟨_, rfl⟩
    obtain ⟨b4, e4, x4, s4, z4⟩ := zi b3 S 35
    rw [s3] at x4 s4
    have HALc := Jh s A SV AV AX kc ks kv kx b3
    have e4' : b3.alloc (.cells #[.int .i64 s.p.t.n, .int .i64 s.p.t.ins, .int .i64 s.p.t.outs, .slice A s.p.t.cases.length kc, .int .i64 s.p.a.n, .slice SV s.p.a.sts.length ks, .int .i64 s.p.k, .int .i64 s.n, .slice AV s.vs.length kv, .slice AX s.xs.length kx] 35) = b4 := by rw [hS]; exact e4
    rw [HU.out, s3, e4'] at HALc
    have hB34 : Below w3.heap.size w3 b4 := hb.out.trans ((z1.trans ((z2.mono (by omega)).trans ((z3.mono (by omega)).trans (z4.mono (by omega))))).mono (by have := hb.out.size; omega))
    have hold : ∀ k, k < wE.heap.size → b4.heap[k]? = wE.heap[k]? := fun k hk => (z4.block _ (by omega)).trans ((z3.block _ (by omega)).trans ((z2.block _ (by omega)).trans (z1.block _ hk)))
    have hzo := hz.out
    have hRe : ReIn w3.heap.size wE.heap.size n S w3 b4 (shL (vwP s) (psG s G) []) 0 :=
     ⟨hB34, (hold _ (by omega)).trans h7.out, (z4.block _ (by omega)).trans ((z3.block _ (by omega)).trans x2), (z4.block _ (by omega)).trans x3, x4, ⟨_, id, fun _ => 0, (hold _ (by omega)).trans HROW.out, Frst.start n, FrT.start n⟩,
      ⟨0, by rw [show shL (vwP s) (psG s G) [] = [] from rfl, fstG_nil]; exact m1.same ((z4.block _ (by omega)).trans ((z3.block _ (by omega)).trans (z2.block _ (by omega))))⟩, by omega, by omega⟩
    have hC : PtC S K s.xs.length AX kx := ⟨by rw [← hS, ← HFF.out.k]; rfl, by rw [← hS]; rfl⟩
    have HIT := zH (ZH S K s.xs.length (by have := HFF.out.k6; omega) (by have := HFF.out.lx; omega) AX kx hC (wE.heap.size + 1 + 1 + 1) b4 hRe.b5)
    have HC1 := zH HALc
    have HRE := zH hRe
    have HSS := zH hS
    have HS4 : Hid (b4.heap.size = wE.heap.size + 4) := s4
    have HD3 : Hid (∀ X, Below w3.heap.size w3 X → X.heap[w.heap.size]? = some (.cells #[.int .i64 s.p.t.n, .int .i64 s.p.t.ins, .int .i64 s.p.t.outs, .slice A s.p.t.cases.length kc, .int .i64 s.p.a.n, .slice SV s.p.a.sts.length ks, .int .i64 s.p.k, .int .i64 s.n, .slice AV s.vs.length kv, .slice AX s.xs.length kx] 35 (0, 0)) ∧ X.heap[w.heap.size + 1]? = some (.cells #[.int .i64 (G : Int)] 3 (0, 0)) ∧ XAt X w.heap.size AX s.xs) := fun X hX => ⟨(hX.block _ (zd HD.out)).trans HD.out, (hX.block _ (zd HD1.out)).trans HD1.out, HX3.out.keep (hX.mono HB3.out.size)⟩
    have HB33 : Hid (Below w3.heap.size w3 b3) := hb.out.trans ((z1.trans ((z2.mono (by omega)).trans (z3.mono (by omega)))).mono (by have := hb.out.size; omega))
    obtain ⟨p0, p1, p2, p3, p4, p5, p6, p7, p8, p9⟩ := zx (((HD3.out b3 HB33.out).1))
    clear e1 m1 s1 z1 e2 x2 s2 z2 e3 x3 s3 z3 hS e4 e4' x4 s4 z4 HALc hB34 hold hzo hRe hC h7 HROW hb hz HD HD1 HX3 hmm
    go_wp2_with fail
    refine HC1.out.mono ?_
    rintro e w5 ⟨rfl, rfl⟩
    clear HC1 p0 p1 p2 p3 p4 p5 p6 p7 p8 p9
    go_wp2_with fail
    refine qp rfl (enters_of Tryz.func147 (by kernel_rfl) rfl) HIT.out (by rintro x rfl; have := HS4.out; omega) (fun _ => rfl)
     (fun (pre : List { x : Nat × Nat // x ∈ zg (K + 1) 0 s.xs.length }) (X : World) => ReIn w3.heap.size wE.heap.size n S w3 X (shL (vwP s) (psG s G) (pre.map (·.1))) pre.length)
     (fun _ _ _ => False) ?hI (fun _ _ _ _ _ h _ _ => h) HRE.out (fun x => #[.int .i64 x.1, .int .i64 x.2]) 153 ?a1 ?assign ?body ?done ?stop (fun _ _ h => by have := h.sz; have := HS4.out; omega)
    case hI =>
     intro pre X X' row hX hg hr
     exact hX.turn hg fun r e => by have := (hr r e).1; have := HS4.out; omega
    case assign =>
     intro l pre x X K' hI hK
     obtain ⟨g', hg'⟩ : ∃ g', g' = X.heap.size := ⟨_, rfl⟩
     have HK := zH (hK g' hg' (hI.same ((zI X _).mono hI.sz)))
     have HGg := zH hg'
     clear hK hg' hI
     gi_wp2
     rw [← HGg.out]
     exact HK.out
    case body =>
     intro l pre x gp X3 hgp hgb hI hlt
     obtain ⟨⟨e, k⟩, hxm⟩ := x
     obtain ⟨_, hx1, hx2⟩ := yP _ _ _ hxm
     have he : e < s.xs.length := by simp only at hx1; omega
     have hk : k ≤ K := by simp only at hx2; omega
     have HSN : Hid (shL (vwP s) (psG s G) ((pre ++ [(⟨(e, k), hxm⟩ : { x : Nat × Nat // x ∈ zg (K + 1) 0 s.xs.length })]).map (·.1)) = shL (vwP s) (psG s G) (pre.map (·.1)) ++ xJ (vwP s) (psG s G) pre.length (e, k)) := by
      show _ = _
      rw [List.map_append, List.map_cons, List.map_nil, shL_snoc, List.length_map]
     have hcn : pre.length < n := by have := HPN.out; omega
     have hll : ∀ p ∈ shL (vwP s) (psG s G) (pre.map (·.1)), p.1 < pre.length := fun p hp => by have := shL_low hp; rwa [List.length_map] at this
     obtain ⟨L0, hL0⟩ : ∃ L0, shL (vwP s) (psG s G) (pre.map (·.1)) = L0 := ⟨_, rfl⟩
     rw [hL0] at HSN hI hll
     have HLE : Hid ((pre ++ [(⟨(e, k), hxm⟩ : { x : Nat × Nat // x ∈ zg (K + 1) 0 s.xs.length })]).length = pre.length + 1) := by show _ = _; simp
     obtain ⟨c, hc⟩ : ∃ c, pre.length = c := ⟨_, rfl⟩
     rw [hc] at HSN hI hcn HLE hll
     have HLL := zH hll
     obtain ⟨hd, hd1, hXA⟩ := HD3.out X3 hI.below
     obtain ⟨hvl, hrow⟩ := HFF.out.views _ (List.getElem_mem he)
     obtain ⟨bx, ox, A1, c1, A2, c2, eX, hbx, x0, x1, x2, hRw, hLv⟩ := hXA.row e he
     obtain ⟨y, hy⟩ : ∃ y, y = s.xs[e] := ⟨_, rfl⟩
     have HVW : Hid (∀ q, vwP s (e, k) q = xw y k q) := fun q => by unfold vwP; rw [qv he, hy]
     rw [← hy] at hvl hrow x2 hLv
     obtain ⟨bl, ol, A3, c3, eL, hbl, y1, hIr⟩ := hLv.at_ k (by omega)
     subst eL
     obtain ⟨hl, hpos⟩ := hrow _ (List.getElem_mem (by omega : k < y.views.length))
     have hxw : ∀ q, xw y k q = (y.views[k]'(by omega)).getD q 0 := fun q => by unfold xw; rw [qv (by omega : k < y.views.length)]
     obtain ⟨row, hrw⟩ : ∃ row, y.views[k]'(by omega) = row := ⟨_, rfl⟩
     rw [hrw] at y1 hIr hl hpos
     have HXW : Hid (∀ q, vwP s (e, k) q = row.getD q 0) := fun q => by rw [HVW.out, hxw, hrw]
     obtain ⟨nv, hnv⟩ : ∃ nv, y.views.length = nv := ⟨_, rfl⟩
     rw [hnv] at x2 hvl
     rw [hl] at y1
     have HIR : Hid (∀ X, Below w3.heap.size w3 X → IAt X w.heap.size A3 row) := fun X hX => hIr.sameB fun z hz => (hX.block z (by have := HB3.out.size; omega)).trans (hI.below.block z (by have := HB3.out.size; omega)).symm
     have HRL := zH hl
     have hwH := HB3.out.size
     have HI := zH hI
     have p9 : X3.drew.cell? ⟨w.heap.size, 9, none⟩ = some (.slice AX s.xs.length kx) := za hd 9 rfl
     have g0 : X3.drew.cell? ⟨gp, 0, none⟩ = some (.int .i64 (e : Int)) := za hgb 0 rfl
     have g1 : X3.drew.cell? ⟨gp, 1, none⟩ = some (.int .i64 (k : Int)) := za hgb 1 rfl
     subst eX
     have x2 : X3.drew.cell? ⟨bx, ox + e * 3 + 2, none⟩ = some (.slice (some ⟨bl, ol, none⟩) nv c2) := x2
     have y1 : X3.drew.cell? ⟨bl, ol + k, none⟩ = some (.slice A3 N c3) := y1
     have h1 : (0 : Int) ≤ (e : Int) := by omega
     have h2 : (e : Int) < (s.xs.length : Int) := by omega
     have h3 : (0 : Int) ≤ (k : Int) := by omega
     have h4 : (k : Int) < (nv : Int) := by omega
     have HBK := zH (And.intro hk hcn)
     have H35 := zH hI.b5
     clear hll hd hd1 hXA hRw hLv hIr hI hpos hrow hxw hrw hL0 hvl hnv hl x0 x1 hx1 hx2 hlt hc HVW he hy hbx hbl HIT HRE hgb hcn hk
     gi_wp2_with fail
     refine yl [(0, true), (1, true), (2, true), (3, true), (4, true), (5, true), (6, true), (7, true), (8, true), (9, true), (10, true), (11, true), (12, true)] (fun X => X = X3.drew) (by kernel_rfl) (by kernel_rfl) (by kernel_rfl) (by rintro ⟨_, _, h⟩; exact h) rfl ?_
     repeat
      apply zA rfl
      · rintro K' hK' X rfl
        go_simp
        exact hK'
     refine zJ ?_
     have HI5 : Hid (ReIn w3.heap.size wE.heap.size n S w3 X3.drew L0 c) := HI.out.same ((Below.refl _ _).drew)
     have HO5 : Hid (X3.drew.heap = X3.heap) := rfl
     obtain ⟨W5, hW5⟩ : ∃ W5, X3.drew = W5 := ⟨_, rfl⟩
     rw [hW5] at HI5 HO5 ⊢
     have ht : Tryz.prog.underlying 115 = some (.map 3 3) := Tryz.underlying115
     have hz : ∀ W : World, (zeroValue 3).run Tryz.prog W = .ok (.int .i64 0) W := fun W => by kernel_rfl
     have HTM := zH ht
     have HZ := zH hz
     clear hW5 p9 g0 g1 x2 y1 h1 h2 h3 h4 HI ht hz
     gi_wp2_with fail
     gi_loopw [51] (fun i wr => ∃ j : Nat, j ≤ N ∧ i = .int .i64 (j : Int) ∧ Hid (ReIn w3.heap.size wE.heap.size n S w3 wr (L0 ++ xJ (vwP s) (zo G j) c (e, k)) c) ∧ Hid (Wrote (fun z => z < wE.heap.size + 4) W5 wr)) (fun i _ => N - (intOf i).toNat)
     case atStart => exact ⟨0, by omega, rfl, by have e0 : zo G 0 = [] := by simp [zo]
                                                 rw [e0, JA, List.append_nil]; exact HI5, Wrote.refl _ _⟩
     case round =>
      obtain ⟨j, hj, rfl, hRe, hWr⟩ := hrel
      clear HI5
      have hHE := hRe.out.he
      have hszq := hRe.out.sz
      obtain ⟨_, hd1, _⟩ := HD3.out wr hRe.out.below
      by_cases hjl : j < N
      · have hb0 := ZF hG32 (show j < 5 by have := HN5.out; omega)
        obtain ⟨b6, o6, rfl, hb6, z0⟩ := (HIR.out wr hRe.out.below).at_ j (by rw [HRL.out]; exact hjl)
        have hu0 := HXW.out j
        rw [zE (by rw [HRL.out]; exact hjl)] at hu0
        obtain ⟨u, hu⟩ : ∃ u, row[j]'(by rw [HRL.out]; exact hjl) = u := ⟨_, rfl⟩
        rw [hu] at z0 hu0
        have HU0 := zH hu0
        have q0 := za hd1 0 rfl
        have hj0 : (0 : Int) ≤ (j : Int) := by omega
        have hj1 : (j : Int) < (N : Int) := by omega
        have hG00 : (0 : Int) ≤ (G : Int) := by omega
        have hj5 : j < 5 := by have := HN5.out; omega
        have hmn : min j 64 = j := by omega
        clear hu hu0 hd1
        by_cases hbit : G.testBit j = true
        case neg =>
         have hbf : G.testBit j = false := by simpa using hbit
         rw [hbf] at hb0
         have hE : zo G (j + 1) = zo G j := by rw [qL, if_neg hbit]
         have hRe2 : Hid (ReIn w3.heap.size wE.heap.size n S w3 wr (L0 ++ xJ (vwP s) (zo G (j + 1)) c (e, k)) c) := by rw [hE]; exact hRe
         clear hRe hE hbit hbf
         gi_wp2_with fail
         go_roundw
         case rel => exact ⟨j + 1, by omega, by go_num, hRe2, hWr⟩
         case measure => simp [intOf]; omega
        case pos =>
        rw [hbit] at hb0
        have hE : L0 ++ xJ (vwP s) (zo G (j + 1)) c (e, k) = L0 ++ xJ (vwP s) (zo G j) c (e, k) ++ [(c, u)] := by rw [qL, if_pos hbit, XO, HU0.out, List.append_assoc]
        have HE := zH hE
        have HL1 : Hid (∀ p ∈ L0 ++ xJ (vwP s) (zo G j) c (e, k), p.1 < n) := fun p hp => by
         have h9 := HBK.out.2
         rcases List.mem_append.1 hp with h | h
         · have := HLL.out p h; omega
         · have := JB h; omega
        obtain ⟨L1, hL1⟩ : ∃ L1, L0 ++ xJ (vwP s) (zo G j) c (e, k) = L1 := ⟨_, rfl⟩
        rw [hL1] at HE hRe HL1
        have q9 := za hRe.out.b9 0 rfl
        have q10 := za hRe.out.b10 0 rfl
        obtain ⟨m, hm⟩ := hRe.out.hm
        obtain ⟨f, ρ, hh, r1, r2, r3⟩ := hRe.out.row
        have hlk := hm.look2 xe HTM.out (HZ.out wr) u
        clear hE hL1 hbit
        cases hf : kQ L1 u with
        | none =>
         rw [hf] at hlk
         simp only [Option.getD_none, Option.isSome_none] at hlk
         obtain ⟨W6, hrun, hm6, hg6⟩ := hm.put xe HTM.out u (.int .i64 (c : Int))
         rw [fstG_put hf] at hm6
         have hb6 : Below w3.heap.size wr W6 := (Below.refl _ _).grown hg6 (by omega) (fun r e => by cases e; omega)
         have hRe6 : Hid (ReIn w3.heap.size wE.heap.size n S w3 W6 (L0 ++ xJ (vwP s) (zo G (j + 1)) c (e, k)) c) := by
          rw [HE.out]
          exact hRe.out.upd hb6 (fun z _ h2 h3 _ => hg6.block z (by omega) (fun e => h3 (by cases e; rfl))) ⟨f, ρ, hh, (hg6.block _ (by omega) (fun e => by have := Option.some.inj e; omega)).trans r1, r2, r3.fresh (fstG_none hf)⟩ ⟨_, hm6⟩ ((hg6.block _ (by omega) (fun e => by have := Option.some.inj e; omega)).trans hRe.out.b10)
         have HW6 : Hid (Wrote (fun z => z < wE.heap.size + 4) W5 W6) := hWr.out.trans (Wrote.of_grown hg6 (fun z e _ => by cases e; omega)) (fun _ _ h => h)
         clear hm hm6 hg6 hb6 r1 r2 r3 hf hRe hWr
         gi_wp2_with fail
         go_roundw
         case rel => exact ⟨j + 1, by omega, by go_num, hRe6, HW6⟩
         case measure => simp [intOf]; omega
        | some v =>
         rw [hf] at hlk
         simp only [Option.getD_some, Option.isSome_some] at hlk
         obtain ⟨i, rfl, him⟩ := fstG_some hf
         have hin : i < n := HL1.out _ him
         have hcn := HBK.out.2
         obtain ⟨ra1, ra2⟩ := r2.root c hcn
         obtain ⟨rb1, rb2⟩ := r2.root i hin
         have HJT := zH (r3.join hcn hin him)
         have HJF : Hid (∀ f', Frst n f' ρ hh → Frst n (f'.set (ρ c) (ρ i : Int)) _ _) := fun f' F' => F'.join hcn hin
         have HC1 := zH (wF n ρ hh f r2 c hcn w3.heap.size wr.drew r1)
         have HC2 := zH (fun (f' : List Int) (F' : Frst n f' ρ hh) (X : World) (hr : RowAt X w3.heap.size f') => wF n ρ hh f' F' i hin w3.heap.size X hr)
         obtain ⟨a, ha⟩ : ∃ a, ρ c = a := ⟨_, rfl⟩
         obtain ⟨b, hb⟩ : ∃ b, ρ i = b := ⟨_, rfl⟩
         rw [ha] at ra1 HC1 HJF HJT
         rw [hb] at HC2 HJF HJT
         have ha0 : (0 : Int) ≤ (a : Int) := by omega
         have ha1 : (a : Int) < (n : Int) := by omega
         have HRA := zH ra1
         have HMM := zH (show MapOf (Value.int .i64) wr wE.heap.size m (kQ (L1 ++ [(c, u)])) by rw [fstG_keep hf]; exact hm)
         have HBX := zH (And.intro hRe.out.b7 hRe.out.b10)
         have hlH : w3.heap.size < wr.heap.size := r1.lt
         clear r1 r2 r3 ra1 ra2 rb1 rb2 him hf hm ha hb HL1
         gi_wp2_with fail
         refine yl [(0, true), (1, true), (2, true), (4, true), (5, true), (3, false), (6, false), (7, false), (8, false)] (fun X => X.heap[w3.heap.size + 1]? = some (.cells #[.slice (some ⟨w3.heap.size, 0, none⟩) n n] 159 (0, 0)) ∧ X.heap[wE.heap.size + 1 + 1]? = some (.cells #[.int .i64 (c : Int)] 3 (0, 0))) (by kernel_rfl) (by kernel_rfl) (by kernel_rfl) (by rintro ⟨_, _, h⟩; exact h) HBX.out ?_
         repeat
          apply zA rfl
          · rintro K' hK' X ⟨y1, y2⟩
            have p7 := za y1 0 rfl
            have p10 := za y2 0 rfl
            clear y1 y2
            go_simp
            exact hK'
         refine zB rfl ?_
         intro K' hK'
         go_simp
         refine HC1.out.mono ?_
         rintro e W6 ⟨rfl, ⟨f6, F6, R6⟩, hw6⟩
         have HBX6 : Hid (W6.heap[w3.heap.size + 1]? = some (.cells #[.slice (some ⟨w3.heap.size, 0, none⟩) n n] 159 (0, 0)) ∧ W6.heap[wE.heap.size + 1 + 1]? = some (.cells #[.int .i64 (c : Int)] 3 (0, 0))) := ⟨(hw6.block _ (by show _ < wr.heap.size; omega) (by omega)).trans HBX.out.1, (hw6.block _ (by show _ < wr.heap.size; omega) (by omega)).trans HBX.out.2⟩
         refine hK' _ _ HBX6.out ?_
         clear hK' K' HC1
         have HC3 := zH (HC2.out f6 F6 W6 R6)
         have HW6 : Hid (Wrote (fun z => z = w3.heap.size) wr W6) := (Wrote.of_below ((Below.refl _ wr).drew)).trans hw6 (fun _ _ h => h)
         clear hw6 R6 F6 HC2
         refine zB rfl ?_
         intro K' hK'
         go_simp
         refine HC3.out.mono ?_
         rintro e W7 ⟨rfl, ⟨f7, F7, R7⟩, hw7⟩
         have HW7 := zH (HW6.out.trans hw7 (fun _ _ h => h))
         have hs7 := HW7.out.size
         have HBX7 : Hid (W7.heap[w3.heap.size + 1]? = some (.cells #[.slice (some ⟨w3.heap.size, 0, none⟩) n n] 159 (0, 0)) ∧ W7.heap[wE.heap.size + 1 + 1]? = some (.cells #[.int .i64 (c : Int)] 3 (0, 0))) := ⟨(HW7.out.block _ (by omega) (by omega)).trans HBX.out.1, (HW7.out.block _ (by omega) (by omega)).trans HBX.out.2⟩
         refine hK' _ _ HBX7.out ?_
         clear hK' K'
         refine zB rfl ?_
         intro K' hK'
         go_simp
         refine hK' _ _ HBX7.out ?_
         clear hK' K' HC3 hw7 HBX6 HW6
         have hfl7 : a < f7.length := by rw [F7.len]; exact HRA.out
         have y0 := R7.cell a hfl7
         have y1 := R7.froz a
         have y2 := R7.lt
         have hset := R7.set a (b : Int)
         have hoth : ∀ z, z ≠ w3.heap.size → (W7.setCell ⟨w3.heap.size, a, none⟩ (.int .i64 (b : Int))).heap[z]? = W7.heap[z]? := fun z hz => Below.heap_setCell W7 ⟨w3.heap.size, a, none⟩ _ z hz
         have hw8 : Wrote (fun z => z = w3.heap.size) W7 (W7.setCell ⟨w3.heap.size, a, none⟩ (.int .i64 (b : Int))) := Wrote.of_grown (zS W7 w3.heap.size a _) (fun z e _ => by cases e; rfl)
         have hw9 := HW7.out.trans hw8 (fun _ _ h => h)
         have hRe8 : Hid (ReIn w3.heap.size wE.heap.size n S w3 (W7.setCell ⟨w3.heap.size, a, none⟩ (.int .i64 (b : Int))) (L0 ++ xJ (vwP s) (zo G (j + 1)) c (e, k)) c) := by
          rw [HE.out]
          exact hRe.out.upd (gZ hw9 (by omega)) (fun z h1 h2 _ _ => hw9.block z (by omega) (by omega)) ⟨_, _, _, hset, HJF.out f7 F7, HJT.out⟩ ⟨_, HMM.out.same (hw9.block _ (by omega) (by omega))⟩ ((hw9.block _ (by omega) (by omega)).trans HBX.out.2)
         have HW8 : Hid (Wrote (fun z => z < wE.heap.size + 4) W5 (W7.setCell ⟨w3.heap.size, a, none⟩ (.int .i64 (b : Int)))) := hWr.out.trans hw9 (fun z _ h => by omega)
         have HBX8 : Hid ((W7.setCell ⟨w3.heap.size, a, none⟩ (.int .i64 (b : Int))).heap[w3.heap.size + 1]? = some (.cells #[.slice (some ⟨w3.heap.size, 0, none⟩) n n] 159 (0, 0)) ∧ (W7.setCell ⟨w3.heap.size, a, none⟩ (.int .i64 (b : Int))).heap[wE.heap.size + 1 + 1]? = some (.cells #[.int .i64 (c : Int)] 3 (0, 0))) := ⟨(hoth _ (by omega)).trans HBX7.out.1, (hoth _ (by omega)).trans HBX7.out.2⟩
         obtain ⟨u7, hu7⟩ : ∃ u7, f7[a]'hfl7 = u7 := ⟨_, rfl⟩
         rw [hu7] at y0
         clear hset hoth hw8 hw9 F7 R7 hu7 hRe hWr
         refine zB rfl ?_
         intro K' hK'
         go_simp
         refine hK' _ _ HBX8.out ?_
         clear hK' K'
         refine zJ ?_
         gi_wp2_with fail
         go_roundw
         case rel => exact ⟨j + 1, by omega, by go_num, hRe8, HW8⟩
         case measure => simp [intOf]; omega
      · obtain rfl : N = j := by omega
        have hq := hRe.out.b10
        have q10 := za hq 0 rfl
        have f10 := zb hq 0
        have l10 := zd hq
        have hcn := HBK.out.2
        have hwc : IntKind.i64.wrap ((c : Int) + 1) = (c : Int) + 1 := by rw [IntKind.wrap_i64]; omega
        obtain ⟨x1, x2, x3⟩ := set_box hq (.int .i64 ((c : Int) + 1))
        have hend : Hid (ReIn w3.heap.size wE.heap.size n S w3 (wr.setCell ⟨wE.heap.size + 1 + 1, 0, none⟩ (.int .i64 ((c : Int) + 1))) (L0 ++ xJ (vwP s) (zo G N) c (e, k)) (c + 1)) := by
         obtain ⟨f, ρ, hh, r1, r2, r3⟩ := hRe.out.row
         obtain ⟨m, hm⟩ := hRe.out.hm
         exact hRe.out.upd ((Below.refl _ _).setCell (by show w3.heap.size ≤ wE.heap.size + 1 + 1; omega) _) (fun z _ _ _ h => x3 z h) ⟨f, ρ, hh, (x3 _ (by omega)).trans r1, r2, r3⟩ ⟨m, hm.same (x3 _ (by omega))⟩ (by push_cast; exact x1)
        have hw9 : Hid (Wrote (fun z => z < wE.heap.size + 4) W5 (wr.setCell ⟨wE.heap.size + 1 + 1, 0, none⟩ (.int .i64 ((c : Int) + 1)))) := hWr.out.trans (Wrote.of_grown (grown_set hq _) (fun z e _ => by cases e; omega)) (fun _ _ h => h)
        clear x1 x2 x3 hq hRe hWr hd1
        gi_wp2_with fail
        refine ⟨⟨by have := hw9.out.size; rw [HO5.out] at this; exact this, fun z o h1 h2 _ => ?_⟩, ⟨by have := hw9.out.size; rw [HO5.out] at this; exact this, fun z h1 _ => ?_⟩, ?_⟩
        · have h4 := HS4.out
          have h5 := zd h2
          exact (hw9.out.block z (by rw [HO5.out]; exact (Array.getElem?_eq_some_iff.1 h2).1) (by omega)).trans (by rw [HO5.out]; exact h2)
        · subst h1
          exact hend.out.b5.trans H35.out.symm
        · dsimp only
          rw [HSN.out, HLE.out, HPS.out]
          exact hend.out
    case done =>
     intro D ys W hD hys hI hDk
     have hlen : ys.length = n := by
      have h := congrArg List.length hys
      rw [List.length_map] at h
      rw [h]; exact HPN.out
     rw [hys] at hI
     obtain ⟨f, ρ, hh, r1, r2, r3⟩ := hI.row
     have hres := HLB.out ρ r3
     obtain ⟨hd, hd1, hXA⟩ := HD3.out W hI.below
     have hwH := HB3.out.size
     have hwHW := hI.below.size
     have hwlt := zd (HD3.out w3 (Below.refl _ _)).1
     have hidx : ∀ x ∈ zg (K + 1) 0 s.xs.length, x.1 * (K + 1) + x.2 < n := fun x hx => by
      obtain ⟨_, h1, h2⟩ := yP _ _ x hx
      have h3 := HPN.out
      rw [kC _ _ (by omega)] at h3
      have h4 := Nat.mul_le_mul (show x.1 + 1 ≤ s.xs.length by omega) (Nat.le_refl (K + 1))
      rw [Nat.add_mul, Nat.one_mul] at h4
      omega
     have hnb := vi s K s.xs.length (by have := HFF.out.k6; omega) (by have := HFF.out.lx; omega) HFF.out.k rfl A SV AV AX kc ks kv kx 95 #[.pointer (some ⟨w3.heap.size + 1, 0, none⟩), .pointer (some ⟨w.heap.size, 0, none⟩)]
      (enters_of Tryz.func95 (by kernel_rfl) rfl) (fun x => (ρ (x.1 * (K + 1) + x.2) : Int)) (fun k => k = w3.heap.size)
      (fun X => (∃ f', Frst n f' ρ hh ∧ RowAt X w3.heap.size f') ∧ X.heap[w3.heap.size + 1]? = some (.cells #[.slice (some ⟨w3.heap.size, 0, none⟩) n n] 159 (0, 0)) ∧ X.heap[w.heap.size]? = some (.cells #[.int .i64 s.p.t.n, .int .i64 s.p.t.ins, .int .i64 s.p.t.outs, .slice A s.p.t.cases.length kc, .int .i64 s.p.a.n, .slice SV s.p.a.sts.length ks, .int .i64 s.p.k, .int .i64 s.n, .slice AV s.vs.length kv, .slice AX s.xs.length kx] 35 (0, 0)) ∧ W.heap.size ≤ X.heap.size) W (fun _ h => by subst h; exact r1.lt)
      ⟨⟨f, r2, r1⟩, hI.b7, hd, Nat.le_refl _⟩
      (fun X X' hJ hw => by
       obtain ⟨⟨f', F', R'⟩, j1, j2, j3⟩ := hJ
       have hl1 := R'.lt
       have hl7 := zd hI.b7
       have hl2 := zd hd
       have old : ∀ z, z < W.heap.size → X'.heap[z]? = X.heap[z]? := fun z hz => hw.block z (by omega) (by omega)
       exact ⟨⟨f', F', (old _ r1.lt).trans R'⟩, (old _ hl7).trans j1, (old _ (by omega)).trans j2, Nat.le_trans j3 hw.size⟩)
      (fun x hx X hJ hX => by
       obtain ⟨⟨f', F', R'⟩, j1, j2, j3⟩ := hJ
       refine (XS n K (by omega) (by have := HFF.out.k6; omega) ρ hh f' F' x.1 x.2 (hidx x hx) _ (by show some _ = some _; rw [← HFF.out.k]; rfl) w3.heap.size (w3.heap.size + 1) w.heap.size X R' j1 j2).mono ?_
       rintro r w' ⟨rfl, ⟨f2, F2, R2⟩, hw⟩
       have hl7 := zd j1
       have hl2 := zd j2
       exact ⟨rfl, ⟨⟨f2, F2, R2⟩, (hw.block _ hl7 (by omega)).trans j1, (hw.block _ hl2 (by omega)).trans j2, Nat.le_trans j3 hw.size⟩, hw⟩)
     rw [hres, HU.out] at hnb
     have HC := zH hnb
     have HBW := zH (HB3.out.trans (hI.below.mono hwH))
     have HDk := zH hDk
     have hgD : w3.heap.size < D := by have := HS4.out; have := hI.he; omega
     have HDD := zH hd
     have hWH : w3.heap.size ≤ W.heap.size := hwHW
     obtain ⟨p0, p1, p2, p3, p4, p5, p6, p7, p8, p9⟩ := zx hd
     clear hnb hI r1 r2 r3 hres hd hd1 hXA hidx hDk hys hlen HIT HRE
     go_wp2_with fail
     refine HC.out.mono ?_
     rintro e W9 ⟨v, rfl, ho, _, hw9⟩
     obtain ⟨A9, c9, rfl, _, _, _⟩ := ho.form
     have HO := zH ho
     have HW9 := zH (gZ hw9 hWH)
     have HD9 : Hid (W9.heap[D]? = some (Obj.deferred (some []))) := (hw9.block _ (Array.getElem?_eq_some_iff.1 HDk.out).1 (by omega)).trans HDk.out
     clear hw9 HC p0 p1 p2 p3 p4 p5 p6 p7 p8 p9
     go_wp2_with fail
     refine yw (B := w3.heap.size) (w := W9) (show Marks w3.heap.size _ W9 from ⟨[D], rfl, by simp, fun r hr => by rw [List.mem_singleton] at hr; subst hr; exact ⟨by omega, HD9.out⟩⟩) (v := .tuple #[.slice A9 (yq n (yF s G)).length c9, .int .i64 0]) (fun W => by kernel_rfl) ?_
     intro X hS
     rw [hR.out]
     exact ⟨A9, c9, rfl, (HO.out.shut hS).low (by omega), HBW.out.trans ((HW9.out.trans hS.below).mono hwH)⟩
    case stop =>
     intro D c pre W _ _ h
     exact h.elim
end
section
theorem snocI {α : Type} {P : List α → Prop} (h0 : P []) (hs : ∀ l x, P l → P (l ++ [x])) (l : List α) : P l := by
 rw [← List.reverse_reverse l]
 induction l.reverse with
 | nil => exact h0
 | cons x t ih => rw [List.reverse_cons]; exact hs _ _ ih
def nxt (l : List Int) : Int := l.foldl (fun n x => if x = n then n + 1 else n) 0
theorem wR (l : List Int) (x : Int) : nxt (l ++ [x]) = if x = nxt l then nxt l + 1 else nxt l := by unfold nxt; rw [List.foldl_append]; rfl
theorem nxt_le : ∀ (l : List Int), 0 ≤ nxt l ∧ nxt l ≤ (l.length : Int) := by
 refine snocI (by simp [nxt]) fun l x ih => ?_
 rw [wR]; simp only [List.length_append, List.length_singleton]; split <;> omega
def XC (l : List Int) : Prop := ∀ k (h : k < l.length), 0 ≤ l[k] ∧ l[k] ≤ nxt (l.take k)
theorem nxt_lab {α : Type} [DecidableEq α] (l : List α) : nxt (xg l) = ((yG l).length : Int) := by
 revert l
 refine snocI rfl fun l k ih => ?_
 · rw [kd, wR, ih, xt, xC]
   by_cases h : k ∈ l
   · have h2 := zP.2 h
     have := List.idxOf_lt_length_iff.2 h2
     rw [if_pos h, if_pos h2, if_neg (by omega)]
   · rw [if_neg h, if_neg (fun e => h (zP.1 e)), if_pos rfl]
     simp
theorem Y3 {α : Type} [DecidableEq α] (l : List α) : XC (xg l) := by
 revert l
 refine snocI (fun k h => by simp [xg] at h) fun l x ih => ?_
 · intro k h
   simp only [kd] at h ⊢
   by_cases hk : k < (xg l).length
   · rw [List.getElem_append_left hk, List.take_append_of_le_length (by omega)]
     exact ih k hk
   · have hkl : k = (xg l).length := by simp at h; omega
     subst hkl
     rw [List.take_left' rfl, nxt_lab]
     simp only [List.getElem_append_right (Nat.le_refl _), Nat.sub_self, List.getElem_singleton]
     by_cases hx : x ∈ l
     · have := List.idxOf_lt_length_iff.2 (zP.2 hx)
       rw [if_pos hx]; omega
     · rw [if_neg hx]; omega
def ji (a b : List Int) : Nat → Int → Option Value
 | 0 => fun _ => none
 | k + 1 => xH (ji a b k) (a.getD k 0) (.int .i64 (b.getD k 0))
theorem ue {a b : List Int} : ∀ {k : Nat} {v : Int} {u : Value}, ji a b k v = some u → ∃ i, i < k ∧ a.getD i 0 = v ∧ u = .int .i64 (b.getD i 0)
 | 0, v, u, h => by cases h
 | k + 1, v, u, h => by
  unfold ji xH at h
  by_cases e : v = a.getD k 0
  · rw [if_pos e] at h
    exact ⟨k, by omega, e.symm, (Option.some.inj h).symm⟩
  · rw [if_neg e] at h
    obtain ⟨i, h1, h2, h3⟩ := ue h
    exact ⟨i, by omega, h2, h3⟩
end
section
open Go.RowKit Go.Shelf
attribute [local go_sem] Oper.semAt_some
set_option maxRecDepth 100000 in
theorem vh (A : Option Addr) (c : Nat) (l : List Int) (hv : XC l) (hl : l.length ≤ 65536) (w : World) (B : Nat) (hA : IAt w B A l) :
  Calls Tryz.prog 152 #[.slice A l.length c] w fun e w' => e = .returned (.int .i64 0) ∧ w = w' := by
 have HA := zH hA
 have HV := zH hv
 have hl0 : ¬ (65536 : Int) < (l.length : Int) := by omega
 clear hA hv
 go_enter Tryz.func152, Tryz.ntmps152
 go_wp2_with fail
 go_loopw [3, 11] (fun o i wr => ∃ k : Nat, k ≤ l.length ∧ i = .int .i64 (k : Int) ∧ o = .int .i64 (nxt (l.take k)) ∧ w = wr) (fun _ i _ => l.length - (intOf i).toNat)
 case atStart => exact ⟨0, by omega, rfl, by simp [nxt], rfl⟩
 case round =>
  obtain ⟨k, hk, rfl, rfl, rfl⟩ := hrel
  by_cases hlt : k < l.length
  · obtain ⟨b, off, rfl, hb, z0⟩ := HA.out.at_ k hlt
    obtain ⟨v1, v2⟩ := HV.out k hlt
    have hn := nxt_le (l.take k)
    have HN : Hid (nxt (l.take (k + 1)) = if l[k] = nxt (l.take k) then nxt (l.take k) + 1 else nxt (l.take k)) := by
     rw [List.take_succ_eq_append_getElem hlt, Hid, wR]
    have hnl : nxt (l.take k) ≤ 65536 := by have := hn.2; simp at this; omega
    obtain ⟨x, hx⟩ : ∃ x, l[k] = x := ⟨_, rfl⟩
    rw [hx] at z0 v1 v2 HN
    obtain ⟨n, hnn⟩ : ∃ n, nxt (l.take k) = n := ⟨_, rfl⟩
    rw [hnn] at v2 HN hnl
    rw [hnn] at hn ⊢
    have hn0 := hn.1
    have hk0 : (0 : Int) ≤ (k : Int) := by omega
    have hk1 : (k : Int) < (l.length : Int) := by omega
    have i1 : ¬ x < 0 := by omega
    have i2 : ¬ n < x := by omega
    clear hx hnn hn
    by_cases e : x = n
    · subst e
      have HN2 : Hid (nxt (l.take (k + 1)) = x + 1) := by rw [Hid, HN.out, if_pos rfl]
      have hw1 : IntKind.i64.wrap (x + 1) = x + 1 := by rw [IntKind.wrap_i64]; omega
      clear HN
      go_wp2_with fail
      go_roundw
      case rel => exact ⟨k + 1, by omega, by go_num, by rw [HN2.out], trivial⟩
      case measure => simp [intOf]; omega
    · have HN2 : Hid (nxt (l.take (k + 1)) = n) := by rw [Hid, HN.out, if_neg e]
      clear HN
      go_wp2_with fail
      go_roundw
      case rel => exact ⟨k + 1, by omega, by go_num, by rw [HN2.out], trivial⟩
      case measure => simp [intOf]; omega
  · obtain rfl : l.length = k := by omega
    clear HA HV
    go_wp2_with fail
    go_ret
    exact ⟨rfl, rfl⟩
set_option maxRecDepth 100000 in
theorem YN (A B : Option Addr) (ca cb n : Nat) (a b : List Int) (ha : a.length = n) (hb : b.length = n) (hva : XC a) (hvb : XC b) (hl : n ≤ 65536) (w : World) (hA : IAt w w.heap.size A a) (hB : IAt w w.heap.size B b) :
  Calls Tryz.prog 114 #[.slice A n ca, .slice B n cb] w fun e w' => e = .returned (.int .i64 0) ∧ Below w.heap.size w w' := by
 have HC1 := zH (fun (X : World) (hX : IAt X w.heap.size A a) => vh A ca a hva (by omega) X _ hX)
 have HC2 := zH (fun (X : World) (hX : IAt X w.heap.size B b) => vh B cb b hvb (by omega) X _ hX)
 rw [ha] at HC1
 rw [hb] at HC2
 have HA := zH hA
 have HB := zH hB
 clear hA hB hva hvb
 go_enter Tryz.func114, Tryz.ntmps114
 go_upto_region 2 with fail
 obtain ⟨w1, hw1, d1, hs1, hB1⟩ := zi w #[.slice A n ca, .slice B n cb] 38
 rw [hw1]
 have HA1 := zH (HA.out.keep hB1)
 have HB1 := zH (HB.out.keep hB1)
 have HW := zH hB1
 have HD := zH d1
 clear hw1 d1 hB1 HA HB
 go_wp2_with fail
 go_loopw [12] (fun i wr => ∃ k : Nat, k ≤ 2 ∧ i = .int .i64 (k : Int) ∧ w1 = wr) (fun i _ => 2 - (intOf i).toNat)
 case atStart => exact ⟨0, by omega, rfl, rfl⟩
 case round =>
  obtain ⟨k, hk, rfl, rfl⟩ := hrel
  have p0 : w1.cell? ⟨w.heap.size, 0, none⟩ = some (.slice A n ca) := za HD.out 0 rfl
  have p1 : w1.cell? ⟨w.heap.size, 1, none⟩ = some (.slice B n cb) := za HD.out 1 rfl
  have C1 := zH (HC1.out w1 HA1.out)
  have C2 := zH (HC2.out w1 HB1.out)
  obtain rfl | rfl | rfl : k = 0 ∨ k = 1 ∨ k = 2 := by omega
  · go_wp2_with fail
    refine C1.out.mono ?_
    rintro e w2 ⟨rfl, rfl⟩
    go_wp2_with fail
    go_roundw
    case rel => exact ⟨1, by omega, by go_num, trivial⟩
    case measure => simp [intOf]
  · go_wp2_with fail
    refine C2.out.mono ?_
    rintro e w2 ⟨rfl, rfl⟩
    go_wp2_with fail
    go_roundw
    case rel => exact ⟨2, by omega, by go_num, trivial⟩
    case measure => simp [intOf]
  · go_wp2_with fail
    go_ret
    exact ⟨rfl, HW.out⟩
set_option maxRecDepth 100000 in
theorem finer_any (A B : Option Addr) (ca cb n : Nat) (a b : List Int) (ha : a.length = n) (hb : b.length = n) (hva : XC a) (hvb : XC b) (hl : n ≤ 65536) (hf : ∀ i j, i < n → j < n → a.getD i 0 = a.getD j 0 → b.getD i 0 = b.getD j 0) (w : World) (hA : IAt w w.heap.size A a) (hB : IAt w w.heap.size B b) :
  Calls Tryz.prog 55 #[.slice A n ca, .slice B n cb] w fun e w' => e = .returned (.tuple #[.bool true, .int .i64 0]) ∧ Below w.heap.size w w' := by
 have HC := zH (YN A B ca cb n a b ha hb hva hvb hl w hA hB)
 have HA := zH hA
 have HB := zH hB
 have HF := zH hf
 have HLa := zH ha
 have HLb := zH hb
 have hz : ∀ W : World, (zeroValue 3).run Tryz.prog W = .ok (.int .i64 0) W := fun W => by kernel_rfl
 have ht : Tryz.prog.underlying 115 = some (.map 3 3) := Tryz.underlying115
 have HZ := zH hz
 have HT := zH ht
 have hmm := @run_makeMap Tryz.prog
 clear hA hB hf hva hvb ha hb hz ht
 go_enter Tryz.func55, Tryz.ntmps55
 go_wp2_with fail
 refine HC.out.mono ?_
 rintro e w2 ⟨rfl, hb2⟩
 have HB2 := zH hb2
 have HA2 := zH (HA.out.keep hb2)
 have HBb2 := zH (HB.out.keep hb2)
 have hs2 := hb2.size
 clear hb2 HC HA HB
 go_upto_region 5 with fail
 obtain ⟨w3, h3⟩ : ∃ w3, w2.alloc (.map #[] 0) = w3 := ⟨_, rfl⟩
 have m3 : MapOf (Value.int .i64) w3 w2.heap.size 0 (fun _ => none) := by rw [← h3]; exact MapOf.made w2
 have z3 : Below w2.heap.size w2 w3 := by rw [← h3]; exact zI _ _
 rw [h3]
 have HM3 : Hid (MapOf (Value.int .i64) w3 w2.heap.size 0 (ji a b 0)) := m3
 have HB3 := zH z3
 have HA3 := zH (HA2.out.keep (z3.mono hs2))
 have HBb3 := zH (HBb2.out.keep (z3.mono hs2))
 clear h3 m3 z3 hmm HA2 HBb2
 go_wp2_with fail
 go_loopw [21] (fun i wr => ∃ k m : Nat, k ≤ n ∧ i = .int .i64 (k : Int) ∧ Hid (MapOf (Value.int .i64) wr w2.heap.size m (ji a b k)) ∧ Hid (Below w2.heap.size w3 wr)) (fun i _ => n - (intOf i).toNat)
 case atStart => exact ⟨0, 0, by omega, rfl, HM3, Below.refl _ _⟩
 case round =>
  obtain ⟨k, m, hk, rfl, hm, hbw⟩ := hrel
  clear HM3
  by_cases hlt : k < n
  · obtain ⟨b1, o1, rfl, hb1, z0⟩ := (HA3.out.keep (hbw.out.mono hs2)).at_ k (by rw [HLa.out]; exact hlt)
    obtain ⟨b2, o2, rfl, hb2, z1⟩ := (HBb3.out.keep (hbw.out.mono hs2)).at_ k (by rw [HLb.out]; exact hlt)
    have hga : a.getD k 0 = a[k]'(by rw [HLa.out]; exact hlt) := zE (by rw [HLa.out]; exact hlt) 0
    have hgb : b.getD k 0 = b[k]'(by rw [HLb.out]; exact hlt) := zE (by rw [HLb.out]; exact hlt) 0
    obtain ⟨x, hx⟩ : ∃ x, a[k]'(by rw [HLa.out]; exact hlt) = x := ⟨_, rfl⟩
    obtain ⟨y, hy⟩ : ∃ y, b[k]'(by rw [HLb.out]; exact hlt) = y := ⟨_, rfl⟩
    rw [hx] at z0 hga
    rw [hy] at z1 hgb
    have hlk := hm.out.look2 xe HT.out (HZ.out wr) x
    obtain ⟨W5, hrun, hm5, hg5⟩ := hm.out.put xe HT.out x (.int .i64 y)
    have HM5 : Hid (MapOf (Value.int .i64) W5 w2.heap.size (m + 1) (ji a b (k + 1))) := by
     rw [show ji a b (k + 1) = xH (ji a b k) x (.int .i64 y) by rw [ji, hga, hgb]]
     exact hm5
    have HB5 : Hid (Below w2.heap.size w3 W5) := hbw.out.grown hg5 (Nat.le_trans HB3.out.size hbw.out.size) (fun r e => by cases e; omega)
    have hk0 : (0 : Int) ≤ (k : Int) := by omega
    have hk1 : (k : Int) < (n : Int) := by omega
    cases hfk : ji a b k x with
    | none =>
     rw [hfk] at hlk
     simp only [Option.getD_none, Option.isSome_none] at hlk
     clear hx hy hga hgb hm hm5 hg5 hbw hfk
     go_wp2_with fail
     go_roundw
     case rel => exact ⟨k + 1, _, by omega, by go_num, HM5, HB5⟩
     case measure => simp [intOf]; omega
    | some u =>
     rw [hfk] at hlk
     simp only [Option.getD_some, Option.isSome_some] at hlk
     obtain ⟨i, hi, hai, rfl⟩ := ue hfk
     have hyi : b.getD i 0 = y := by rw [← hgb]; exact HF.out i k (by omega) hlt (by rw [hai, hga])
     rw [hyi] at hlk
     clear hx hy hga hgb hm hm5 hg5 hbw hfk hai hyi
     go_wp2_with fail
     go_roundw
     case rel => exact ⟨k + 1, _, by omega, by go_num, HM5, HB5⟩
     case measure => simp [intOf]; omega
  · obtain rfl : n = k := by omega
    have HBE := zH (HB2.out.trans ((HB3.out.trans hbw.out).mono hs2))
    clear hm hbw
    go_wp2_with fail
    go_ret2
    exact ⟨rfl, HBE.out⟩
end
section
open Go.RowKit
attribute [local go_sem] Oper.semAt_some
theorem or_nat {a b : Nat} (ha : a < 8) (hb : b < 8) : bits BinOp.or IntKind.i64 (a : Int) (b : Int) = ((a ||| b : Nat) : Int) := by
 have h : ∀ a : Nat, a < 8 → ∀ b : Nat, b < 8 → bits BinOp.or IntKind.i64 (a : Int) (b : Int) = ((a ||| b : Nat) : Int) := by decide +kernel
 exact h a ha b hb
theorem Jt {p : Pb} (h : xK p = true) (c m : Nat) :
  ∃ K N : Nat, (zk p).n = (N : Int) ∧ p.t.n = (N : Int) ∧ 1 ≤ N ∧ N ≤ 3 ∧ (zk p).p.k = (K : Int) ∧ K ≤ 6 ∧ LowS (zk p) = LowS (zk p) ∧ xq (zk p).p ∧ 1 ≤ ptn (zk p) ∧ ptn (zk p) ≤ 700 ∧ yH (zk p) = 0 ∧
  xb (zk p) ((c % 2 ^ N : Nat) : Int) = (yq (ptn (zk p)) (yF (zk p) ((c % 2 ^ N : Nat) : Int)), 0) ∧
  xb (zk p) ((c % 2 ^ N ||| m % 2 ^ N : Nat) : Int) = (yq (ptn (zk p)) (yF (zk p) ((c % 2 ^ N ||| m % 2 ^ N : Nat) : Int)), 0) ∧
  (∀ i j, i < ptn (zk p) → j < ptn (zk p) → (yq (ptn (zk p)) (yF (zk p) ((c % 2 ^ N : Nat) : Int))).getD i 0 = (yq (ptn (zk p)) (yF (zk p) ((c % 2 ^ N : Nat) : Int))).getD j 0 →
   (yq (ptn (zk p)) (yF (zk p) ((c % 2 ^ N ||| m % 2 ^ N : Nat) : Int))).getD i 0 = (yq (ptn (zk p)) (yF (zk p) ((c % 2 ^ N ||| m % 2 ^ N : Nat) : Int))).getD j 0 ∧ i % (K + 1) = j % (K + 1)) := by
 obtain ⟨hbE, hvE, hf, h0, h60, hn3, K, N, hF, hSe⟩ := kV h
 have hx : xq (zk p).p := hf
 have hpt : p.t.n = (N : Int) := hF.pn
 have hNN : (zk p).n.toNat = N := by rw [hF.n]; rfl
 have hkk : (zk p).p.k.toNat = K := by rw [hF.k]; rfl
 have hN3 : N ≤ 3 := by omega
 have hrd : ∀ x : Nat, x < 2 ^ N → zD (zk p) (x : Int) = 0 := fun x hx => by
  unfold zD
  rw [if_neg (by simpa using hvE), if_neg]
  rw [hNN]
  have h2 : ((2 ^ N : Nat) : Int) = (2 : Int) ^ N := by push_cast; rfl
  omega
 have h1 := Nat.mod_lt c (Nat.two_pow_pos N)
 have h2 := Nat.mod_lt m (Nat.two_pow_pos N)
 have h3 := Nat.or_lt_two_pow h1 h2
 obtain ⟨f1, f2, _⟩ := xX hx (hrd _ h1)
 have hce : ∀ x : Nat, x < 2 ^ N → xb (zk p) (x : Int) = (yq (ptn (zk p)) (yF (zk p) (x : Int)), 0) := fun x hx => by unfold xb; rw [if_neg (by simpa using hrd x hx)]
 refine ⟨K, N, hF.n, hpt, hF.n1, hN3, hF.k, hF.k6, rfl, hx, f1, f2, hvE, hce _ h1, hce _ h3, fun i j hi hj e => ?_⟩
 have hs := yx (zk p) ((c % 2 ^ N : Nat) : Int)
 rw [zE (by rw [yW]; exact hi), zE (by rw [yW]; exact hj)] at e
 have hc := (gz hs hi hj).1 e
 constructor
 · rw [zE (by rw [yW]; exact hi), zE (by rw [yW]; exact hj)]
   refine (gz (yx _ _) hi hj).2 (hc.mono fun x y hx hy hr => .one hx hy ?_)
   obtain ⟨q, hq, e2⟩ := hr
   refine ⟨q, ?_, e2⟩
   unfold psG zo at hq ⊢
   rw [List.mem_filter] at hq ⊢
   refine ⟨hq.1, ?_⟩
   have := hq.2
   rw [Int.toNat_natCast] at this ⊢
   rw [Nat.testBit_or, this, Bool.true_or]
 · have hlen : (zg (K + 1) 0 (zk p).xs.length).length = ptn (zk p) := by rw [kC _ _ (by omega)]; unfold ptn; rw [hkk]
   have hpl : ∀ {t : Nat} (ht : t < (zg (K + 1) 0 (zk p).xs.length).length), (zg (K + 1) 0 (zk p).xs.length)[t].1 < (zk p).xs.length ∧ (zg (K + 1) 0 (zk p).xs.length)[t].2 ≤ K := fun ht => by
    obtain ⟨_, h1, h2⟩ := yP _ _ _ (List.getElem_mem ht)
    omega
   have key : ∀ {x y : Nat}, Conn (ptn (zk p)) (yF (zk p) ((c % 2 ^ N : Nat) : Int)) x y → x % (K + 1) = y % (K + 1) := fun hcc => by
    induction hcc with
    | refl => rfl
    | @step u v _ hu hv hr ih =>
     rw [ih]
     obtain ⟨w, a1, a2⟩ := (ZP hF hSe hu hv).2 hr
     obtain ⟨l1, q, hq, e1⟩ := kE.1 a1
     obtain ⟨l2, r, hr2, e2⟩ := kE.1 a2
     have hqn : ∀ q ∈ psG (zk p) ((c % 2 ^ N : Nat) : Int), q < N := fun q hq => by unfold psG zo at hq; have := List.mem_range.1 (List.mem_filter.1 hq).1; omega
     obtain ⟨_, e3⟩ := QK hSe (hpl l1).1 (hpl l2).1 (hpl l1).2 (hpl l2).2 (hqn q hq) (hqn r hr2) (e1.trans e2.symm)
     rw [XW _ _ (by omega), XW _ _ (by omega)] at e3
     exact e3
   exact key hc
set_option maxRecDepth 100000 in
theorem Z7 (p : Pb) (hl : Yi p) (A : Option Addr) (kc : Nat) (SV : Option Addr) (ks : Nat) (c : Nat) (hc : c < 256) (cq : Nat) (_hq : cq < 65536) (bs : List Bool) (AB : Option Addr) (kb : Nat) (mr : Nat) (hmr : mr < 256) (w : World) (hA : CAt w w.heap.size A p.t.cases) (hS : SAt w w.heap.size SV p.a.sts) (hb0 : BAt w w.heap.size AB bs) :
  Calls Tryz.prog 15 #[.agg (p.vs A kc SV ks), .agg #[.int .u8 (c : Int), .slice AB bs.length kb, .int .u16 (cq : Int)], .int .u8 (mr : Int)] w fun e w' => e = .returned (.bool true) ∧ Below w.heap.size w w' := by
 obtain ⟨w1, hw1, d0, d1, hs1, hB1⟩ := ye w (p.vs A kc SV ks) #[.int .u8 (c : Int), .slice AB bs.length kb, .int .u16 (cq : Int)] 29 71
 have hz1 : w1.heap.size = w.heap.size + 2 := by rw [← hw1]; simp
 have HSC := zH (Jy p hl A kc SV ks c hc cq bs AB kb w1 ((hA.keep hB1).more hB1.size) ((hS.keep hB1).more hB1.size) ((hb0.keep hB1).more hB1.size))
 have HRB := zH (fun (h : xK p = true) => Jt h c mr)
 have HLW : Hid (xK p = true → LowS (zk p)) := fun h => by
  obtain ⟨hbE, _, hf, _⟩ := kV h
  have := jp hl hf
  rwa [hbE] at this
 have HBb := zH hB1
 unfold Pb.vs at hw1 d0 HSC ⊢
 have HW1 := zH hw1
 have HD1 := zH d1
 have p0 := za d0 0 rfl
 have p1 := za d0 1 rfl
 have p2 := za d0 2 rfl
 have p3 := za d0 3 rfl
 have p4 := za d0 4 rfl
 have p5 := za d0 5 rfl
 have p6 := za d0 6 rfl
 have q0 := za d1 0 rfl
 have q1 := za d1 1 rfl
 have q2 := za d1 2 rfl
 clear hw1 d0 d1 hB1 hA hS hb0 hs1 hl
 go_enter Tryz.func15, Tryz.ntmps15
 go_wp2_with fail
 rw [HW1.out]
 go_wp2_with fail
 refine HSC.out.mono ?_
 rintro e w2 ⟨hb2, hcase⟩
 have B2 := zH (HBb.out.trans (hb2.mono HBb.out.size))
 have hs2 := hb2.size
 clear hb2 HSC HW1 HBb HD1 p0 p1 p2 p3 p4 p5 p6 q0 q1 q2
 rcases hcase with ⟨_, rfl⟩ | ⟨⟨hr, hbs0⟩, A2, kc2, SV2, ks2, AV, kv, AX, kx, AQ, cQ, rfl, hSY, hBQ⟩
 · clear HRB HLW
   go_upto_region 2 with fail
   obtain ⟨WF, hWF, dz, hsF, hBa2⟩ := zi w2 #[.int .i64 0, .int .i64 0, .int .i64 0, .slice none 0 0, .int .i64 0, .slice none 0 0, .int .i64 0, .int .i64 0, .slice none 0 0, .slice none 0 0] 35
   rw [hWF]
   clear hWF
   clear dz
   go_wp2_with fail
   refine (uK WF).mono ?_
   rintro e v3 ⟨rfl, hb3⟩
   have B3 := zH (B2.out.trans ((hBa2.trans (hb3.mono (by omega))).mono (by omega)))
   clear hb3 hBa2
   go_wp2_with fail
   go_ret
   exact ⟨rfl, B3.out⟩
 obtain ⟨K, N, hTn, hpn, hN1, hN3, hKe, hK6, -, hfx, hn1, hn7, hvE, e1, e2, hfin⟩ := HRB.out hr
 have HLO := zH (HLW.out hr)
 rw [hpn, Int.toNat_natCast]
 have HGA : Hid (bits BinOp.and IntKind.i64 (mr : Int) ((2 : Int) ^ N - 1) = ((mr % 2 ^ N : Nat) : Int)) := Xz hmr hN3
 have hp8 : 2 ^ N ≤ 8 := by
  have := Nat.pow_le_pow_right (n := 2) (show 0 < 2 by omega) hN3
  exact this
 have hm1 := Nat.mod_lt c (Nat.two_pow_pos N)
 have hm2 := Nat.mod_lt mr (Nat.two_pow_pos N)
 have HGO := zH (or_nat (show c % 2 ^ N < 8 by omega) (show mr % 2 ^ N < 8 by omega))
 obtain ⟨T, hT⟩ : ∃ T, zk p = T := ⟨_, rfl⟩
 rw [hT] at hTn hKe hfx hn1 hn7 hvE e1 e2 hfin HLO hSY ⊢
 have C1 := zH (fun (X : World) (hX : Below w2.heap.size w2 X) => qF T HLO.out hfx ((c % 2 ^ N : Nat) : Int) A2 SV2 AV AX kc2 ks2 kv kx X (hSY.up hX))
 have C2 := zH (fun (X : World) (hX : Below w2.heap.size w2 X) => qF T HLO.out hfx ((c % 2 ^ N ||| mr % 2 ^ N : Nat) : Int) A2 SV2 AV AX kc2 ks2 kv kx X (hSY.up hX))
 have C3 := zH (fun (X : World) (hX : Below w2.heap.size w2 X) => JG T HLO.out hfx ((c % 2 ^ N : Nat) : Int) A2 SV2 AV AX kc2 ks2 kv kx X (hSY.up hX))
 have C4 := zH (fun (i : Nat) (X : World) (hX : Below w2.heap.size w2 X) => JK T HLO.out hfx (i : Int) A2 SV2 AV AX kc2 ks2 kv kx X (hSY.up hX))
 have HPE : Hid (∀ i : Nat, i < ptn T → wL T (i : Int) = ((((i / (K + 1) : Nat) : Int), ((i % (K + 1) : Nat) : Int)), 0)) := fun i hi => by
  unfold wL
  rw [if_neg (by simpa using hvE), if_neg (by omega), Int.toNat_natCast, hKe, Int.toNat_natCast]
 obtain ⟨n, hn⟩ : ∃ n, ptn T = n := ⟨_, rfl⟩
 rw [hn] at hn1 hn7 e1 e2 hfin HPE ⊢
 obtain ⟨G, hG⟩ : ∃ G, c % 2 ^ N = G := ⟨_, rfl⟩
 obtain ⟨M, hM⟩ : ∃ M, mr % 2 ^ N = M := ⟨_, rfl⟩
 rw [hG, hM] at e2 hfin C2 HGO
 rw [hG] at e1 C1 C3 ⊢
 rw [hM] at HGA
 obtain ⟨LG, hLG⟩ : ∃ LG, ((G ||| M : Nat) : Int) = LG := ⟨_, rfl⟩
 rw [hLG] at e2 hfin C2 HGO
 have hla : XC (yq n (yF T G)) := Y3 _
 have hlb : XC (yq n (yF T LG)) := Y3 _
 have hal : (yq n (yF T G)).length = n := yW _ _
 have hbl : (yq n (yF T LG)).length = n := yW _ _
 rw [e1] at C1 C3
 rw [e2] at C2
 obtain ⟨a, ha⟩ : ∃ a, yq n (yF T G) = a := ⟨_, rfl⟩
 obtain ⟨b, hb⟩ : ∃ b, yq n (yF T LG) = b := ⟨_, rfl⟩
 rw [ha] at C1 C3 hal hla hfin
 rw [hb] at C2 hbl hlb hfin
 unfold Jj at C1 C2
 unfold RetOE at C3
 simp only [hal] at C1 C3
 simp only [hbl] at C2
 unfold Sy.vs_ at C1 C2 C3 C4 ⊢
 have HTN := zH hTn
 have HFI := zH hfin
 have HLA := zH hla
 have HLB := zH hlb
 have HAL := zH hal
 have HBL := zH hbl
 have hcv : IntKind.i64.wrap (mr : Int) = (mr : Int) := by rw [IntKind.wrap_i64]; omega
 have h2b : (1 : Int) ≤ (2 : Int) ^ N ∧ (2 : Int) ^ N ≤ 8 := by
  obtain rfl | rfl | rfl : N = 1 ∨ N = 2 ∨ N = 3 := by omega
  all_goals decide
 have h2w : IntKind.i64.wrap ((2 : Int) ^ N) = (2 : Int) ^ N := by rw [IntKind.wrap_i64]; omega
 have h2v : IntKind.i64.wrap ((2 : Int) ^ N - 1) = (2 : Int) ^ N - 1 := by rw [IntKind.wrap_i64]; omega
 have hga := HGA.out
 have hgo := HGO.out
 have hNN := zH (And.intro hN1 hN3)
 have hmn : min N 64 = N := by omega
 clear hTn hpn hKe hK6 hfx hn1 hvE e1 e2 hfin HRB HLW hT hn hG hM hLG hla hlb hal hbl ha hb h2b HGA HGO hp8 hm1 hm2 hr hbs0 hBQ HLO hSY
 go_upto_region 2 with fail
 obtain ⟨WF, hWF, dz, hsF, hBa2⟩ := zi w2 #[.int .i64 T.p.t.n, .int .i64 T.p.t.ins, .int .i64 T.p.t.outs, .slice A2 T.p.t.cases.length kc2, .int .i64 T.p.a.n, .slice SV2 T.p.a.sts.length ks2, .int .i64 T.p.k, .int .i64 T.n, .slice AV T.vs.length kv, .slice AX T.xs.length kx] 35
 rw [hWF]
 clear hWF
 have dz := zH dz
 have DZ : Hid (∀ X, Below WF.heap.size WF X → X.heap[w2.heap.size]? = some (.cells #[.int .i64 T.p.t.n, .int .i64 T.p.t.ins, .int .i64 T.p.t.outs, .slice A2 T.p.t.cases.length kc2, .int .i64 T.p.a.n, .slice SV2 T.p.a.sts.length ks2, .int .i64 T.p.k, .int .i64 T.n, .slice AV T.vs.length kv, .slice AX T.xs.length kx] 35 (0, 0))) := fun X hX => (hX.block _ (by omega)).trans dz.out
 have z0 := za dz.out 0 rfl
 have z1 := za dz.out 1 rfl
 have z2 := za dz.out 2 rfl
 have z3 := za dz.out 3 rfl
 have z4 := za dz.out 4 rfl
 have z5 := za dz.out 5 rfl
 have z6 := za dz.out 6 rfl
 have z7 : WF.cell? ⟨w2.heap.size, 7, none⟩ = some (.int .i64 (N : Int)) := by rw [← HTN.out]; exact za dz.out 7 rfl
 have z8 := za dz.out 8 rfl
 have z9 := za dz.out 9 rfl
 go_upto_region 5 with fail
 clear z7
 have z7 := za dz.out 7 rfl
 go_wp2_with fail
 refine (C1.out WF hBa2).mono ?_
 rintro e w3 ⟨A3, c3, rfl, hI3, hb3⟩
 have E3 := zH hb3
 have HI3 := zH hI3
 clear hb3 hI3 C1 hga hgo h2w h2v hcv hmn z0 z1 z2 z3 z4 z5 z6 z7 z8 z9
 obtain ⟨z0, z1, z2, z3, z4, z5, z6, z7, z8, z9⟩ := zx (DZ.out _ E3.out)
 go_wp2_with fail
 refine (C2.out w3 (hBa2.trans (E3.out.mono (by omega)))).mono ?_
 rintro e w4 ⟨A4, c4, rfl, hI4, hb4⟩
 have E4 := zH (E3.out.trans (hb4.mono E3.out.size))
 have HI3 := zH ((HI3.out.keep hb4).more hb4.size)
 have HI4 := zH hI4
 clear hb4 hI4 C2 z0 z1 z2 z3 z4 z5 z6 z7 z8 z9
 obtain ⟨z0, z1, z2, z3, z4, z5, z6, z7, z8, z9⟩ := zx (DZ.out _ E4.out)
 go_wp2_with fail
 refine (C3.out w4 (hBa2.trans (E4.out.mono (by omega)))).mono ?_
 rintro e w5 ⟨A5, c5, rfl, hO5, hb5⟩
 have E5 := zH (E4.out.trans (hb5.mono E4.out.size))
 have HI3 := zH ((HI3.out.keep hb5).more hb5.size)
 have HI4 := zH ((HI4.out.keep hb5).more hb5.size)
 have HI5 : Hid (IAt w5 w5.heap.size A5 a) := wN hO5 (fun _ _ _ => rfl)
 have HC5 := zH (finer_any A3 A4 c3 c4 n a b HAL.out HBL.out HLA.out HLB.out (by omega) (fun i j hi hj h => (HFI.out i j hi hj h).1) w5 HI3.out HI4.out)
 clear hb5 hO5 C3 HI4 HLA HLB HBL z0 z1 z2 z3 z4 z5 z6 z7 z8 z9
 go_wp2_with fail
 refine HC5.out.mono ?_
 rintro e w6 ⟨rfl, hb6⟩
 have E6 := zH (E5.out.trans (hb6.mono E5.out.size))
 have HI3 := zH ((HI3.out.keep hb6).more hb6.size)
 have HI5 := zH ((HI5.out.keep hb6).more hb6.size)
 have heq := uU A3 A5 c3 c5 a a w6 _ HI3.out HI5.out (by rw [HAL.out]; omega) (by rw [HAL.out]; omega)
 rw [HAL.out] at heq
 have HEQ := zH heq
 clear hb6 HC5 HI5 heq
 go_wp2_with fail
 refine HEQ.out.mono ?_
 rintro e w7 ⟨rfl, q, rfl⟩
 have e0 : decide (a = a) = true := by simp
 have E7 := zH (E6.out.trans (zY (Below.refl _ _) q))
 have HI3 := zH (HI3.out.keep (zY (Below.refl _ _) q))
 obtain ⟨w7, hw7⟩ : ∃ w7, w6.drewN q = w7 := ⟨_, rfl⟩
 rw [hw7] at E7 HI3 ⊢
 have hz67 : w6.heap.size = w7.heap.size := by rw [← hw7]; rfl
 rw [hz67] at HI3
 have hmm := @run_makeMap Tryz.prog
 clear hw7 HEQ hz67
 have hz : ∀ W : World, (zeroValue 3).run Tryz.prog W = .ok (.int .i64 0) W := fun W => by kernel_rfl
 have ht : Tryz.prog.underlying 115 = some (.map 3 3) := Tryz.underlying115
 have HZ := zH hz
 have HTM := zH ht
 clear hz ht
 go_upto_region 12 with fail
 obtain ⟨w8, h8⟩ : ∃ w8, w7.alloc (.map #[] 0) = w8 := ⟨_, rfl⟩
 have m8 : MapOf (Value.int .i64) w8 w7.heap.size 0 (fun _ => none) := by rw [← h8]; exact MapOf.made w7
 have z8 : Below w7.heap.size w7 w8 := by rw [← h8]; exact zI _ _
 have hl8 : w7.heap.size < w8.heap.size := by rw [← h8]; simp
 rw [h8]
 obtain ⟨rl, hrl⟩ : ∃ rl : List Int, (List.range n).map (fun i => ((i % (K + 1) : Nat) : Int)) = rl := ⟨_, rfl⟩
 have HRL : Hid (∀ i, i < n → rl.getD i 0 = ((i % (K + 1) : Nat) : Int)) := fun i hi => by
  rw [← hrl, List.getD_eq_getElem?_getD, List.getElem?_map, List.getElem?_range hi]; rfl
 have HM8 : Hid (MapOf (Value.int .i64) w8 w7.heap.size 0 (ji a rl 0)) := m8
 have HB8 := zH z8
 have E8 := zH (E7.out.trans (z8.mono E7.out.size))
 have HI8 := zH (HI3.out.keep z8)
 clear h8 m8 z8 hmm HI3 hrl
 go_wp2_with fail
 go_loopw [94] (fun i wr => ∃ k m : Nat, k ≤ n ∧ i = .int .i64 (k : Int) ∧ Hid (MapOf (Value.int .i64) wr w7.heap.size m (ji a rl k)) ∧ Hid (Below w7.heap.size w8 wr)) (fun i _ => n - (intOf i).toNat)
 case atStart => exact ⟨0, 0, by omega, rfl, HM8, Below.refl _ _⟩
 case round =>
  obtain ⟨k, m, hk, rfl, hm, hbw⟩ := hrel
  clear HM8
  have hs78 := HB8.out.size
  have hs8r := hbw.out.size
  have hsF7 := E7.out.size
  by_cases hlt : k < n
  · have E9 := zH (E8.out.trans (hbw.out.mono hsF7))
    obtain ⟨b1, o1, rfl, hb1, z0⟩ := (HI8.out.keep hbw.out).at_ k (by rw [HAL.out]; exact hlt)
    have hga : a.getD k 0 = a[k]'(by rw [HAL.out]; exact hlt) := zE (by rw [HAL.out]; exact hlt) 0
    obtain ⟨x, hx⟩ : ∃ x, a[k]'(by rw [HAL.out]; exact hlt) = x := ⟨_, rfl⟩
    rw [hx] at z0 hga
    have hgb := HRL.out k hlt
    have hc4 := C4.out k wr (hBa2.trans (E9.out.mono (by omega)))
    rw [HPE.out k hlt] at hc4
    obtain ⟨y, hy⟩ : ∃ y, ((k % (K + 1) : Nat) : Int) = y := ⟨_, rfl⟩
    rw [hy] at hc4 hgb
    have HC := zH hc4
    have HGA := zH hga
    have HGB := zH hgb
    have v0 := z0
    have hk0 : (0 : Int) ≤ (k : Int) := by omega
    have hk1 : (k : Int) < (n : Int) := by omega
    obtain ⟨z0, z1, z2, z3, z4, z5, z6, z7, z8, z9⟩ := zx (DZ.out _ E9.out)
    clear hx hga hgb hc4 hy v0
    go_wp2_with fail
    refine HC.out.mono ?_
    rintro e w9 ⟨rfl, hb9⟩
    have hm9 := hm.out.same (hb9.block _ (by omega))
    have hbw9 := zH (hbw.out.trans (hb9.mono (by omega)))
    have hlk := hm9.look2 xe HTM.out (HZ.out w9) x
    obtain ⟨W5, hrun, hm5, hg5⟩ := hm9.put xe HTM.out x (.int .i64 y)
    have HM5 : Hid (MapOf (Value.int .i64) W5 w7.heap.size (m + 1) (ji a rl (k + 1))) := by
     rw [show ji a rl (k + 1) = xH (ji a rl k) x (.int .i64 y) by rw [ji, HGA.out, HGB.out]]
     exact hm5
    have HB5 : Hid (Below w7.heap.size w8 W5) := hbw9.out.grown hg5 (by have := hb9.size; omega) (fun r e => by cases e; omega)
    cases hfk : ji a rl k x with
    | none =>
     rw [hfk] at hlk
     simp only [Option.getD_none, Option.isSome_none] at hlk
     clear hm hm9 hm5 hg5 hbw hbw9 hfk hb9 HC E9 z0 z1 z2 z3 z4 z5 z6 z7 z8 z9
     go_wp2_with fail
     go_roundw
     case rel => exact ⟨k + 1, m + 1, by omega, by go_num, HM5, HB5⟩
     case measure => simp [intOf]; omega
    | some u =>
     rw [hfk] at hlk
     simp only [Option.getD_some, Option.isSome_some] at hlk
     obtain ⟨i, hi, hai, rfl⟩ := ue hfk
     have hyi : rl.getD i 0 = y := by
      rw [HRL.out i (by omega), ← HGB.out, HRL.out k hlt, (HFI.out i k (by omega) hlt (by rw [hai, HGA.out])).2]
     rw [hyi] at hlk
     clear hm hm9 hm5 hg5 hbw hbw9 hfk hb9 HC E9 hai hyi z0 z1 z2 z3 z4 z5 z6 z7 z8 z9
     go_wp2_with fail
     go_roundw
     case rel => exact ⟨k + 1, m + 1, by omega, by go_num, HM5, HB5⟩
     case measure => simp [intOf]; omega
  · obtain rfl : n = k := by omega
    have E9 := zH (E8.out.trans (hbw.out.mono hsF7))
    clear hm hbw HRL HAL HI8
    go_wp2_with fail
    refine (uK wr).mono ?_
    rintro e v3 ⟨rfl, hb3⟩
    have B3 := zH (B2.out.trans ((hBa2.trans ((E9.out.trans (hb3.mono E9.out.size)).mono (by omega))).mono (by omega)))
    clear hb3
    go_wp2_with fail
    go_ret
    exact ⟨rfl, B3.out⟩
end
end Go.Proofs.YtdkmpccfnnpnbaaGreat
