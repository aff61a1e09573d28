/- Part Det. Part WfB. Part BtC. Part RBld. Part RVer. Part Obl. Part Hav. Part Rel. Part ConE. Part Relv. Part RefD. Part Asc. Part RefE. Part Small. Part Clone. Part Heard. Part Keys. Part Dfs. Part Wait. What each part says stands at its head; no part has a condition beyond its own statements. -/
import Derived.Test.YtnikmmdadflefaaGreatDoorBe
import Derived.Test.YtnikmmdadflefaaGreatDoorBb
import Derived.Test.YtnikmmdadflefaaGreatDoorProg
import Derived.Test.YtnikmmdadflefaaGreatDoorBd
import Derived.Test.YtnikmmdadflefaaGreatDoorBc
import Derived.Deep.QuietTactic
import Derived.BigQuiet
import Derived.Laws.MakeOwn
import Derived.Laws.EntriesVeiled
import Derived.BigRegion
import Derived.Deep.DeepCutAuto
import Derived.Deep.RegionHeld3
import Derived.StillTactics
import Derived.Laws.Pointers
import Derived.Test.YtnikmmdadflefaaGreatDoorBa
import Derived.Lib.Walk
import Derived.Lib.SliceRun

namespace Go.Proofs.YtnikmmdadflefaaGreatDoor
theorem hear_row {r : Rd} (h : graphE r = 0) (p : Nat) (hp : p < 5) : hearE r.n p (r.h p) = 0 := by
  unfold graphE at h
  split at h
  · cases h
  · have key : ∀ k, k ≤ 5 → hearsRun r (5 - k) k = 0 → ∀ q, k ≤ q → q < 5 → hearE r.n q (r.h q) = 0 := by
      intro k hk
      induction hm : 5 - k generalizing k with
      | zero => intro _ q h1 h2; omega
      | succ m ih =>
        intro hz q h1 h2
        unfold hearsRun at hz
        split at hz
        · rename_i hne; exact absurd hz hne
        · rename_i hne
          by_cases e : q = k
          · subst e; simpa using hne
          · exact ih (k + 1) (by omega) (by omega) hz q (by omega) h2
    exact key 0 (by omega) h p (by omega) hp
theorem hears_nat {r : Rd} {N : Nat} (h : roundE r = 0) (hn : r.n = (N : Int)) (h5 : N ≤ 5) {q : Nat} (hq : q < N) : ∃ m : Nat, r.h q = (m : Int) ∧ m < 2 ^ N ∧ m.testBit q = true := by
  have h1 := hear_row (round_zero h).2.2.1 q (by omega)
  unfold hearE at h1
  rw [if_neg (by omega)] at h1
  split at h1
  · cases h1
  · rename_i hb
    split at h1
    · rename_i ht
      rw [hn, Int.toNat_natCast] at hb
      obtain ⟨m, hm⟩ := Int.eq_ofNat_of_zero_le (show 0 ≤ r.h q by omega)
      rw [hm] at hb ht ⊢
      have hp := Nat.two_pow_pos N
      exact ⟨m, rfl, by omega, by simpa using ht⟩
    · cases h1
theorem heard_nat {r : Rd} {now : List Int} {q m j : Nat} (hm : r.h q = (m : Int)) : heardE r q now j = if j < now.length ∧ m.testBit j = true then now.getD j 0 else -1 := by
  unfold heardE; rw [hm, Int.toNat_natCast]
theorem heard_same {r r' : Rd} {now now' : List Int} {q N m m' : Nat} (hl : now.length = N) (hl' : now'.length = N) (hp : ∀ i ∈ now, 0 ≤ i) (hp' : ∀ i ∈ now', 0 ≤ i) (hm : r.h q = (m : Int)) (hm' : r'.h q = (m' : Int)) (hN : m < 2 ^ N) (hN' : m' < 2 ^ N) (h5 : N ≤ 5) :
    (∀ j, j < 5 → heardE r q now j = heardE r' q now' j) ↔ (m = m' ∧ ∀ j, j < N → m.testBit j = true → now.getD j 0 = now'.getD j 0) := by
  have hpos : ∀ {l : List Int} {j : Nat}, (∀ i ∈ l, 0 ≤ i) → j < l.length → 0 ≤ l.getD j 0 := fun {l j} h hj => by
    rw [List.getD_eq_getElem?_getD, List.getElem?_eq_getElem hj]
    exact h _ (List.getElem_mem hj)
  constructor
  · intro h
    have hb : ∀ j, j < N → m.testBit j = m'.testBit j := fun j hj => by
      have h1 := h j (by omega)
      rw [heard_nat hm, heard_nat hm'] at h1
      have g1 := hpos hp (by omega : j < now.length)
      have g2 := hpos hp' (by omega : j < now'.length)
      cases e1 : m.testBit j <;> cases e2 : m'.testBit j
      · rfl
      · rw [if_neg (by rw [e1]; simp), if_pos ⟨by omega, e2⟩] at h1; omega
      · rw [if_pos ⟨by omega, e1⟩, if_neg (by rw [e2]; simp)] at h1; omega
      · rfl
    refine ⟨Nat.eq_of_testBit_eq fun j => ?_, fun j hj ht => ?_⟩
    · by_cases hj : j < N
      · exact hb j hj
      · have hpw : 2 ^ N ≤ 2 ^ j := Nat.pow_le_pow_right (by omega) (by omega)
        rw [Nat.testBit_lt_two_pow (by omega), Nat.testBit_lt_two_pow (by omega)]
    · have h1 := h j (by omega)
      rw [heard_nat hm, heard_nat hm', if_pos ⟨by omega, ht⟩, if_pos ⟨by omega, by rw [← hb j hj]; exact ht⟩] at h1
      exact h1
  · rintro ⟨rfl, h⟩ j hj
    rw [heard_nat hm, heard_nat hm']
    by_cases c : j < N ∧ m.testBit j = true
    · rw [if_pos ⟨by omega, c.2⟩, if_pos ⟨by omega, c.2⟩, h j c.1 c.2]
    · rw [if_neg (by rw [hl]; exact c), if_neg (by rw [hl']; exact c)]
theorem seen_eq {r r' : Rd} {k q : Nat} {now now' : List Int} : seenE r k q now = seenE r' k q now' ↔ ∀ j, j < 5 → heardE r q now j = heardE r' q now' j := by
  constructor
  · intro h j hj
    rw [← seenE_h r k q now j hj, ← seenE_h r' k q now' j hj, h]
  · intro h
    unfold seenE
    rw [h 0 (by omega), h 1 (by omega), h 2 (by omega), h 3 (by omega), h 4 (by omega)]
section
variable {s : Sy} {K N : Nat}
theorem Fine.row (hF : Fine s K N) {x : Exn} (hx : x ∈ s.xs) {k : Nat} (hk : k ≤ K) : (x.views.getD k []).length = N ∧ ∀ i ∈ x.views.getD k [], 0 ≤ i ∧ i < s.vs.length := by
  obtain ⟨hl, h⟩ := hF.views x hx
  have hk2 : k < x.views.length := by omega
  rw [List.getD_eq_getElem?_getD, List.getElem?_eq_getElem hk2]
  exact h _ (List.getElem_mem hk2)
theorem Fine.round (hF : Fine s K N) {x : Exn} (hx : x ∈ s.xs) {k : Nat} (hk : k < K) : roundE (x.word.getD k default) = 0 ∧ (x.word.getD k default).n = (N : Int) := by
  obtain ⟨hl, h⟩ := hF.word x hx
  have hk2 : k < x.word.length := by omega
  rw [List.getD_eq_getElem?_getD, List.getElem?_eq_getElem hk2]
  exact h _ (List.getElem_mem hk2)
theorem same_later (hF : Fine s K N) (h : Sees s K N) {x y : Exn} (hx : x ∈ s.xs) (hy : y ∈ s.xs) {k q : Nat} (hk : k < K) (hq : q < N) :
    xw x (k + 1) q = xw y (k + 1) q ↔ ((x.word.getD k default).h q = (y.word.getD k default).h q ∧ ∀ j, j < N → ((x.word.getD k default).h q).toNat.testBit j = true → xw x k j = xw y k j) := by
  rw [h.same (h.vk x hx k hk q hq) (h.vk y hy k hk q hq), seen_eq]
  obtain ⟨l1, p1⟩ := hF.row hx (by omega : k ≤ K)
  obtain ⟨l2, p2⟩ := hF.row hy (by omega : k ≤ K)
  obtain ⟨r1, n1⟩ := hF.round hx hk
  obtain ⟨r2, n2⟩ := hF.round hy hk
  obtain ⟨m, hm, hmN, _⟩ := hears_nat r1 n1 hF.n5 hq
  obtain ⟨m', hm', hmN', _⟩ := hears_nat r2 n2 hF.n5 hq
  rw [heard_same l1 l2 (fun i hi => (p1 i hi).1) (fun i hi => (p2 i hi).1) hm hm' hmN hmN' hF.n5, hm, hm', Int.toNat_natCast]
  unfold xw
  constructor
  · rintro ⟨rfl, g⟩; exact ⟨rfl, g⟩
  · rintro ⟨e, g⟩; exact ⟨by omega, g⟩
theorem same_first (h : Sees s K N) {x y : Exn} (hx : x ∈ s.xs) (hy : y ∈ s.xs) {q : Nat} (hq : q < N) :
    xw x 0 q = xw y 0 q ↔ (inpE s.p x.c.toNat).getD q 0 = (inpE s.p y.c.toNat).getD q 0 := by
  rw [h.same (h.v0 x hx q hq) (h.v0 y hy q hq), first_inp]
end
end Go.Proofs.YtnikmmdadflefaaGreatDoor
namespace Go.Proofs.YtnikmmdadflefaaGreatDoor
def Good (vs : List Vw) (v : Vw) : Prop := v.r = 0 ∨ ∀ q : Nat, q < 5 → v.h q = -1 ∨ ∃ u, At vs (v.h q) u ∧ u.p = (q : Int) ∧ u.r = v.r - 1
theorem Good.mono {vs us : List Vw} {v : Vw} (h : Good vs v) : Good (vs ++ us) v := by
  rcases h with h | h
  · exact .inl h
  · refine .inr fun q hq => ?_
    rcases h q hq with h | ⟨u, h1, h2⟩
    · exact .inl h
    · exact .inr ⟨u, h1.mono, h2⟩
def InvT (vs : List Vw) : Prop := ∀ i (h : i < vs.length), Good (vs.take i) vs[i]
theorem InvT.put {vs : List Vw} {v : Vw} (h : InvT vs) (hv : Good vs v) : InvT (putW vs v).1 := by
  unfold putW
  split
  · exact h
  · intro i hi
    have hi2 : i < vs.length + 1 := by simpa using hi
    by_cases e : i < vs.length
    · have h1 := h i e
      show Good ((vs ++ [v]).take i) (vs ++ [v])[i]
      rw [List.take_append_of_le_length (by omega), List.getElem_append_left e]
      exact h1
    · obtain rfl : i = vs.length := by omega
      show Good ((vs ++ [v]).take vs.length) (vs ++ [v])[vs.length]
      rw [List.take_append_of_le_length (Nat.le_refl _), List.take_length, List.getElem_append_right (Nat.le_refl _)]
      simpa using hv
theorem InvT.row {vs : List Vw} {f : Nat → Vw} (h : InvT vs) : ∀ m, (∀ p, p < m → Good vs (f p)) → InvT (rowW f vs m).1
  | 0, _ => h
  | m + 1, hf => by
    rw [rowW]
    dsimp only
    refine (h.row m fun p hp => hf p (by omega)).put ?_
    obtain ⟨us, e⟩ := rowW_pre f vs m
    rw [e]
    exact (hf m (by omega)).mono
theorem fV_pr (vs : List Vw) (n : Nat) (inp : List Int) (word : List Rd) (k q : Nat) : (fV vs n inp word k q).p = (q : Int) ∧ (fV vs n inp word k q).r = (k : Int) := by
  cases k with
  | zero => exact ⟨rfl, rfl⟩
  | succ k => exact ⟨rfl, rfl⟩
theorem fV_h (vs : List Vw) (n : Nat) (inp : List Int) (word : List Rd) (k q j : Nat) (hj : j < 5) : (fV vs n inp word (k + 1) q).h j = -1 ∨ (j < n ∧ (fV vs n inp word (k + 1) q).h j = (rowK vs n inp word k).getD j 0) := by
  show (seenE (word.getD k default) (k + 1) q (rowK vs n inp word k)).h j = -1 ∨ _
  have e : (fV vs n inp word (k + 1) q).h j = heardE (word.getD k default) q (rowK vs n inp word k) j := seenE_h _ _ _ _ j hj
  rw [seenE_h _ _ _ _ j hj, e]
  unfold heardE
  split
  · rename_i h
    rw [rowK_len] at h
    exact .inr ⟨h.1, rfl⟩
  · exact .inl rfl
theorem InvT.play {vs : List Vw} (n : Nat) (inp : List Int) (word : List Rd) (h : InvT vs) : ∀ j, InvT (playW vs n inp word j).1
  | 0 => by rw [playW]; exact h.row n fun p _ => .inl rfl
  | j + 1 => by
    have ih := h.play n inp word j
    rw [playW]
    refine ih.row n fun p hp => .inr fun q hq => ?_
    have hh := fV_h vs n inp word j p q hq
    have e : fV vs n inp word (j + 1) p = seenE (word.getD j default) (j + 1) p ((playW vs n inp word j).2.getD j []) := rfl
    rw [e] at hh
    rcases hh with hh | ⟨h1, h2⟩
    · exact .inl hh
    · refine .inr ⟨fV vs n inp word j q, ?_, (fV_pr ..).1, ?_⟩
      · rw [h2]; exact play_at vs n inp word j j q (Nat.le_refl _) h1
      · rw [(fV_pr ..).2]; show (j : Int) = ((j + 1 : Nat) : Int) - 1; omega
theorem InvT.run (p : Pb) (l : List (Nat × List Rd)) : InvT (runW p l).1 := by
  have key : ∀ n, n ≤ l.length → InvT (runW p (l.take n)).1 := by
    intro n
    induction n with
    | zero => intro _ i hi; simp [runW_nil] at hi
    | succ n ih =>
      intro hn
      rw [List.take_succ_eq_append_getElem (by omega), runW_snoc]
      exact (ih (by omega)).play _ _ _ _
  have h := key l.length (Nat.le_refl _)
  rwa [List.take_length] at h
theorem casesRun_vec {t : Tk} : ∀ {q : Option Cs} {l : List Cs}, casesRun t q l = 0 → ∀ c ∈ l, vectorE c.inp t.n t.ins = 0
  | _, [], _, c, hc => by cases hc
  | q, d :: l, h, c, hc => by
    rw [casesRun] at h
    split at h
    · rename_i h1; exact absurd h h1
    · rename_i h1
      rcases List.mem_cons.1 hc with rfl | hc
      · have h2 : caseE t q c = 0 := by simpa using h1
        unfold caseE at h2
        split at h2
        · rename_i h3; exact absurd h2 h3
        · rename_i h3; simpa using h3
      · exact casesRun_vec h c hc
theorem task_vec {t : Tk} (h : taskE t = 0) : ∀ c ∈ t.cases, (c.inp.length : Int) = t.n ∧ ∀ i ∈ c.inp, 0 ≤ i ∧ i < 8 := by
  unfold taskE at h
  split at h
  · cases h
  · rename_i hb
    split at h
    · cases h
    · intro c hc
      have h4 := casesRun_vec (by unfold casesAt at h; rwa [List.drop_zero] at h) c hc
      unfold vectorE at h4
      split at h4
      · cases h4
      · rename_i h5
        split at h4
        · cases h4
        · rename_i h6
          refine ⟨by simpa using h5, fun i hi => ?_⟩
          have h7 : ¬ outB t.ins i = true := fun e => h6 (List.any_eq_true.2 ⟨i, hi, e⟩)
          unfold outB at h7
          have h8 : ¬ (i < 0 ∨ t.ins ≤ i) := by simpa using h7
          omega
theorem consB_pw {vs : List Vw} : ∀ {l : List Nat}, (l.Pairwise fun a b => clash vs a b = false) → consB vs l = true
  | [], _ => rfl
  | a :: l, h => by
    obtain ⟨h1, h2⟩ := List.pairwise_cons.1 h
    unfold consB
    rw [consB_pw h2, Bool.and_true, List.all_eq_true]
    exact fun b hb => by rw [h1 b hb]; rfl
theorem at_getV {vs : List Vw} {i : Int} {v : Vw} (h : At vs i v) : getV vs i.toNat = v := by
  unfold getV
  rw [List.getD_eq_getElem?_getD, h.2]; rfl
theorem pastL_lt (vs : List Vw) (l : List Nat) : (pastL vs l).Pairwise (· < ·) := (List.pairwise_lt_range (n := vs.length)).filter _
set_option maxHeartbeats 1000000 in
theorem built_wf {p : Pb} {K N : Nat} (h0 : probE p = 0) (hF : Fine (builtE p) K N) : Wf (builtE p).n (builtE p).vs := by
  obtain ⟨hpt, hpa, hpn, hk0, hk6⟩ := prob_fine h0
  have hvec := task_vec hpt
  obtain ⟨f1, f2, f3⟩ := runW_fin p (pairsE p)
  have hinv : InvT (builtE p).vs := InvT.run p (pairsE p)
  have hN : (builtE p).n = (N : Int) := hF.n
  have hNN : p.t.n.toNat = N := by have : p.t.n = (N : Int) := hF.pn; omega
  have h1N := hF.n1
  have h5N := hF.n5
  refine ⟨by omega, by omega, fun i hi => ?_⟩
  have hg : getV (builtE p).vs i = (builtE p).vs[i] := getV_eq hi
  obtain ⟨v, hv⟩ : ∃ v, (builtE p).vs[i] = v := ⟨_, rfl⟩
  have hgood := hinv i hi
  rw [hv] at hg hgood
  have hmem : v ∈ (builtE p).vs := by rw [← hv]; exact List.getElem_mem hi
  obtain ⟨⟨pv, hp1, hp2⟩, ⟨rv, hr1, hr2⟩, hown⟩ := hF.vs v hmem
  obtain ⟨y, hy, vs0, k, q, hk, hq, e, us, hus⟩ := f2 v hmem
  have hyc : ∃ c ∈ p.t.cases, inpE p y.1 = c.inp := by
    unfold pairsE at hy
    obtain ⟨d, hd, hy⟩ := List.mem_flatMap.1 hy
    obtain ⟨w', hw', rfl⟩ := List.mem_map.1 hy
    have hd2 : d < p.t.cases.length := by simpa using hd
    refine ⟨p.t.cases[d], List.getElem_mem hd2, ?_⟩
    show (p.t.cases.getD d default).inp = _
    rw [List.getD_eq_getElem?_getD, List.getElem?_eq_getElem hd2]; rfl
  obtain ⟨c, hc, hcin⟩ := hyc
  obtain ⟨hcl, hci⟩ := hvec c hc
  have hat : ∀ k' q', k' ≤ y.2.length → q' < N → At (builtE p).vs ((rowK vs0 p.t.n.toNat (inpE p y.1) y.2 k').getD q' 0) (fV vs0 p.t.n.toNat (inpE p y.1) y.2 k' q') := fun k' q' a b => by
    show At (runW p (pairsE p)).1 _ _
    rw [hus]
    exact (play_at vs0 p.t.n.toNat (inpE p y.1) y.2 y.2.length k' q' a (by omega)).mono
  have hbeg : begE (builtE p).n v = 0 := by
    have hpr := fV_pr vs0 p.t.n.toNat (inpE p y.1) y.2 k q
    rw [← e] at hpr
    unfold begE
    rw [if_neg, if_neg, if_neg]
    · intro hh
      rw [List.any_eq_true] at hh
      obtain ⟨j, hj, hb⟩ := hh
      have hj5 : j < 5 := by simpa using hj
      unfold begBad at hb
      have hb2 : v.h j ≠ -1 ∧ (v.r = 0 ∨ (builtE p).n ≤ (j : Int)) := by simpa using hb
      cases k with
      | zero =>
        have : v.h j = -1 := by
          rw [e]
          match j, hj5 with
          | 0, _ => rfl
          | 1, _ => rfl
          | 2, _ => rfl
          | 3, _ => rfl
          | 4, _ => rfl
        exact hb2.1 this
      | succ k =>
        have hh := fV_h vs0 p.t.n.toNat (inpE p y.1) y.2 k q j hj5
        rw [← e] at hh
        rcases hh with hh | ⟨hh, _⟩
        · exact hb2.1 hh
        · rcases hb2.2 with h | h
          · have := hpr.2; omega
          · omega
    · rintro ⟨h1, h2⟩
      apply h2
      rw [e]
      cases k with
      | zero => have := hpr.2; omega
      | succ k => rfl
    · unfold begOut
      have h3 : v.r = 0 → 0 ≤ v.i ∧ v.i < 8 := fun hr => by
        have hk0 : k = 0 := by have := hpr.2; omega
        subst hk0
        rw [e]
        have hql : q < c.inp.length := by omega
        have h9 : (inpE p y.1).getD q 0 = c.inp[q] := by rw [hcin, List.getD_eq_getElem?_getD, List.getElem?_eq_getElem hql]; rfl
        have h10 := hci _ (List.getElem_mem hql)
        rw [← h9] at h10
        exact h10
      have h6 := hF.k6
      simp only [decide_eq_true_eq]
      omega
  have hchk : checkE (builtE p).n ((builtE p).vs.take i) v = 0 := by
    by_cases hr0 : v.r = 0
    · unfold checkE; rw [if_pos (.inr hr0)]; exact hbeg
    have hlink : ∀ q, q < 5 → linkE ((builtE p).vs.take i) v q = 0 := fun j hj => by
      unfold linkE
      rcases hgood with h | h
      · exact absurd h hr0
      · rcases h j hj with h | ⟨u, h1, h2, h3⟩
        · rw [if_pos h]
        · have hlt := h1.lt
          rw [if_neg (by omega), if_neg (by omega), at_getV h1, if_neg (by omega)]
    unfold checkE
    rw [if_neg (by intro h; rcases h with h | h; exact h hbeg; exact hr0 h), if_neg (by rw [fstE_zero.2 hlink]; simp)]
    obtain ⟨u, hu, _, _⟩ := hown (by omega)
    rw [if_neg (by have := hu.1; omega), if_pos]
    -- what is reached lies in one execution
    have htk : ∀ a, a < i → getV ((builtE p).vs.take i) a = getV (builtE p).vs a := fun a ha => getV_take ha
    let S : Nat → Prop := fun a => ∃ k' q' : Nat, k' ≤ y.2.length ∧ q' < N ∧ ((a : Nat) : Int) = (rowK vs0 p.t.n.toNat (inpE p y.1) y.2 k').getD q' 0
    have hac : Acyc ((builtE p).vs.take i) := fun a ha b hb => by
      have ha2 : a < i ∧ a < (builtE p).vs.length := by rw [List.length_take] at ha; omega
      rw [htk a ha2.1, getV_eq ha2.2] at hb
      obtain ⟨g1, j, hj, g2, rfl⟩ := mem_kids.1 hb
      rcases hinv a ha2.2 with h | h
      · omega
      · rcases h j hj with h | ⟨u, h1, _⟩
        · omega
        · have := h1.lt; rw [List.length_take] at this; omega
    have hkid : ∀ w k' q', k' ≤ y.2.length → q' < N → w = fV vs0 p.t.n.toNat (inpE p y.1) y.2 k' q' → ∀ b, b ∈ kids w → S b := fun w k' q' hk' hq' ew b hb => by
      obtain ⟨g1, j, hj, g2, rfl⟩ := mem_kids.1 hb
      cases k' with
      | zero => rw [ew] at g1; exact absurd g1 (by show ¬ (0 : Int) < 0; omega)
      | succ k' =>
        have hh := fV_h vs0 p.t.n.toNat (inpE p y.1) y.2 k' q' j hj
        rw [← ew] at hh
        rcases hh with hh | ⟨h1, h2⟩
        · omega
        · exact ⟨k', j, by omega, by omega, by omega⟩
    have hS : ∀ a, a < ((builtE p).vs.take i).length → S a → ∀ b, b ∈ kids (getV ((builtE p).vs.take i) a) → S b := fun a ha hSa b hb => by
      have ha2 : a < i := by rw [List.length_take] at ha; omega
      obtain ⟨k', q', h1, h2, h3⟩ := hSa
      rw [htk a ha2] at hb
      refine hkid _ k' q' h1 h2 ?_ b hb
      have h4 := at_getV (hat k' q' h1 h2)
      rw [← h3, Int.toNat_natCast] at h4
      exact h4
    have hin : ∀ x, x ∈ pastL ((builtE p).vs.take i) (kids v) → S x ∧ x < i := fun x hx => by
      obtain ⟨g1, c', hc', hre⟩ := mem_pastL.1 hx
      have hSc := hkid v k q hk (by omega) e c' hc'
      have hcl' : c' < ((builtE p).vs.take i).length := by
        obtain ⟨g1, j, hj, g2, rfl⟩ := mem_kids.1 hc'
        rcases hgood with h | h
        · exact absurd h hr0
        · rcases h j hj with h | ⟨u, h1, _⟩
          · omega
          · have := h1.lt; omega
      exact ⟨reach_closed hac hS hcl' hSc hre, by rw [List.length_take] at g1; omega⟩
    refine consB_pw ?_
    refine List.Pairwise.imp_of_mem (fun {a b} ha hb hab => ?_) (pastL_lt _ _)
    obtain ⟨⟨k1, q1, a1, a2, a3⟩, a4⟩ := hin a ha
    obtain ⟨⟨k2, q2, b1, b2, b3⟩, b4⟩ := hin b hb
    unfold clash
    rw [decide_eq_false_iff_not]
    rintro ⟨e1, e2⟩
    rw [htk a a4, htk b b4] at e1 e2
    have h4 := at_getV (hat k1 q1 a1 a2)
    rw [← a3, Int.toNat_natCast] at h4
    have h5 := at_getV (hat k2 q2 b1 b2)
    rw [← b3, Int.toNat_natCast] at h5
    rw [h4, h5, (fV_pr ..).1, (fV_pr ..).1] at e1
    rw [h4, h5, (fV_pr ..).2, (fV_pr ..).2] at e2
    obtain rfl : q1 = q2 := by omega
    obtain rfl : k1 = k2 := by omega
    rw [← b3] at a3
    omega
  unfold rowE
  rw [hg, if_neg (by rw [hchk]; simp), if_neg]
  intro hm
  obtain ⟨a, ha, ea⟩ := List.getElem_of_mem hm
  rw [List.getElem_take] at ea
  have ha2 : a < i := by rw [List.length_take] at ha; omega
  have hi' : i < (runW p (pairsE p)).1.length := hi
  have := nodup_idx f3 (show a < (runW p (pairsE p)).1.length by omega) hi' (ea.trans hv.symm)
  omega
end Go.Proofs.YtnikmmdadflefaaGreatDoor
namespace Go.Proofs.YtnikmmdadflefaaGreatDoor
open Go.RowKit Go.Shelf
attribute [local go_sem] Oper.semAt_some
def RetBt (p : Pb) (A : Option Addr) (kc : Nat) (SV : Option Addr) (ks : Nat) (w : World) (e : Ending) (w' : World) : Prop :=
  ∃ AV kv AE ke, e = .returned (.agg #[.int .i64 p.t.n, .int .i64 p.t.ins, .int .i64 p.t.outs, .slice A p.t.cases.length kc, .int .i64 p.a.n, .slice SV p.a.sts.length ks, .int .i64 p.k, .int .i64 p.t.n, .slice AV (runW p (pairsE p)).1.length kv, .slice AE (runW p (pairsE p)).2.length ke]) ∧
    OwnV w' w.heap.size (.slice AV (runW p (pairsE p)).1.length kv) (runW p (pairsE p)).1 ∧ OwnX cXn (fun k => w.heap.size ≤ k) w' w.heap.size (.slice AE (runW p (pairsE p)).2.length ke) (runW p (pairsE p)).2 ∧ Below w.heap.size w w'
set_option maxRecDepth 100000 in
set_option maxHeartbeats 4000000 in
theorem built_any (p : Pb) (hf : FewX p) (hpe : probE p = 0) (h60 : execT p ≤ 60) (A : Option Addr) (kc : Nat) (SV : Option Addr) (ks : Nat) (w : World) (hA : CAt w w.heap.size A p.t.cases) (hS : SAt w w.heap.size SV p.a.sts) :
    Calls Tryz.prog 62 #[.agg (p.vs A kc SV ks)] w (RetBt p A kc SV ks w) := by
  obtain ⟨hpt, hpa, hpn, hpk0, hpk6⟩ := prob_fine hpe
  obtain ⟨K, hK⟩ := Int.eq_ofNat_of_zero_le hpk0
  obtain ⟨hcs1, hn1, hn5⟩ := task_cases hpt
  have hK6 : K ≤ 6 := by omega
  have hexT : execT p = cntT p.a K 0 * p.t.cases.length := by unfold execT; rw [hK]; rfl
  have hcnt : cntT p.a K 0 ≤ 60 := by
    have := Nat.le_mul_of_pos_right (cntT p.a K 0) hcs1
    omega
  obtain ⟨hz, hs1⟩ : statesRun p.a p.a.sts = 0 ∧ 1 ≤ p.a.sts.length := ⟨(adv_fine hf.1.2 hpa).1, (adv_fine hf.1.2 hpa).2.1⟩
  obtain ⟨N, hN⟩ := Int.eq_ofNat_of_zero_le (show 0 ≤ p.t.n by omega)
  have HFX := Lib.hid hf
  have HPA := Lib.hid hpa
  have HPN := Lib.hid hpn
  have HTI := Lib.hid (task_inp hpt)
  obtain ⟨w1, hw1, d0, d1, d2, hsz, hBw⟩ := threeboxes w (p.vs A kc SV ks) #[.int .i64 0, .int .i64 0, .int .i64 0, .slice none 0 0, .int .i64 0, .slice none 0 0, .int .i64 0, .int .i64 0, .slice none 0 0, .slice none 0 0] #[.int .i64 p.t.n, .int .i64 p.t.ins, .int .i64 p.t.outs, .slice A p.t.cases.length kc, .int .i64 p.a.n, .slice SV p.a.sts.length ks, .int .i64 p.k, .int .i64 p.t.n, .slice none 0 0, .slice none 0 0] 29 36 36
  have hFR := fromR_any p.a SV ks hz hf.1.2 K hK6 0 w1 (by by_cases h : K = 0; exact .inl h; exact .inr ⟨by omega, by omega⟩) (by rw [wordsE_len]; omega) ((hS.keep hBw).more hBw.size)
  have HFR := Lib.hid hFR
  have HA := Lib.hid hA
  have HS := Lib.hid hS
  have HBW := Lib.hid hBw
  have HD0 := Lib.hid d0
  have HD1 := Lib.hid d1
  have HD2 := Lib.hid d2
  have HW1 := Lib.hid hw1
  have HKE := Lib.hid hK
  have HNN := Lib.hid hN
  have HEX := Lib.hid hexT
  have H60 := Lib.hid h60
  have HCS := Lib.hid hcs1
  have hN1 : 1 ≤ N ∧ N ≤ 5 := by omega
  clear hw1 d0 d1 d2 hBw hA hS hf hK hN hexT h60 hpe hpt hpa hpn hpk0 hpk6 hn1 hn5 hz hs1 hFR hcs1
  unfold Pb.vs at HW1 HD0 ⊢
  go_enter Tryz.func62, Tryz.ntmps62
  go_wp2_with fail
  rw [HW1.out]
  have hFR := HFR.out
  unfold FromRSaid at HFR
  rw [← HKE.out] at hFR
  refine hFR.mono ?_
  rintro e wr ⟨v, rfl, hW, hb⟩
  have hbw := HBW.out.size
  obtain ⟨words, hwords⟩ : ∃ words, wordsE p.a K 0 = words := ⟨_, rfl⟩
  rw [hwords] at hW
  obtain ⟨AW, cw, rfl, hWD⟩ := WdsAt.of (bs := w.heap.size + 1 + 1) hW (by omega) rfl
  obtain ⟨SC, hSC⟩ : ∃ SC : Value → Value → Array Value, SC = fun V E => #[.int .i64 p.t.n, .int .i64 p.t.ins, .int .i64 p.t.outs, .slice A p.t.cases.length kc, .int .i64 p.a.n, .slice SV p.a.sts.length ks, .int .i64 p.k, .int .i64 p.t.n, V, E] := ⟨_, rfl⟩
  obtain ⟨WR, rfl⟩ : ∃ x, x = wr := ⟨_, rfl⟩
  obtain ⟨D, hD⟩ : ∃ D, D = WR.heap.size := ⟨_, rfl⟩
  have hDb : w.heap.size + 3 ≤ D := by have := hb.size; omega
  have H0 : Hid (Bt D (w.heap.size + 1 + 1) SC WR [] [] (.slice none 0 0) (.slice none 0 0) WR) :=
    ⟨Wrote.refl _ _, by omega, by omega, by omega, by rw [hSC]; exact (hb.block _ (by omega)).trans HD2.out, OwnV.nil _ _, OwnX.nil _ _ _ _, fun k e => (by cases e)⟩
  have HP0 : Hid (WR.heap[w.heap.size]? = some (.cells #[.int .i64 p.t.n, .int .i64 p.t.ins, .int .i64 p.t.outs, .slice A p.t.cases.length kc, .int .i64 p.a.n, .slice SV p.a.sts.length ks, .int .i64 p.k] 29 (0, 0))) := (hb.block _ (by omega)).trans HD0.out
  have HP1 : Hid (WR.heap[w.heap.size + 1]? = some (.cells #[.int .i64 0, .int .i64 0, .int .i64 0, .slice none 0 0, .int .i64 0, .slice none 0 0, .int .i64 0, .int .i64 0, .slice none 0 0, .slice none 0 0] 36 (0, 0))) := (hb.block _ (by omega)).trans HD1.out
  have HBR : Hid (Below w.heap.size w WR) := HBW.out.trans (hb.mono (by omega))
  have HWD := Lib.hid hWD
  rw [← hD] at HWD
  have HSC := Lib.hid hSC
  have HWE := Lib.hid hwords
  have HDD := Lib.hid hD
  have hc30 : p.t.cases.length ≤ 30 := HFX.out.1.1.1
  have hwl : words.length ≤ 60 := by rw [← hwords, wordsE_len]; exact hcnt
  have HW6 : Hid (∀ x ∈ words, x.length ≤ 6) := fun x hx => by rw [← hwords] at hx; rw [wordsE_k p.a K 0 x hx]; exact hK6
  clear hW hb hSC hwords hD hWD HD0 HD1 HD2 HW1 HBW HFR hFR hbw hsz
  go_wp2_with fail
  go_loopw [5] (fun i wx => ∃ (c : Nat) (V E : Value), c ≤ p.t.cases.length ∧ i = .int .i64 (c : Int) ∧ Hid (Bt D (w.heap.size + 1 + 1) SC WR (runW p (pcs words c)).1 (runW p (pcs words c)).2 V E wx)) (fun i _ => p.t.cases.length - (intOf i).toNat)
  case atStart => exact ⟨0, _, _, by omega, rfl, H0.out⟩
  case round =>
    clear H0
    obtain ⟨c, V0, E0, hc, rfl, HB0⟩ := hrel
    have hbig := HB0.out.big
    have hsame : ∀ k, k < D → k ≠ w.heap.size + 1 + 1 → wr.heap[k]? = WR.heap[k]? := fun k h1 h2 => HB0.out.wr.block k (by have := HDD.out; omega) h2
    have P0 := (hsame _ (by omega) (by omega)).trans HP0.out
    have p0 : wr.cell? ⟨w.heap.size, 0, none⟩ = some (.int .i64 p.t.n) := blk_cell P0 0 rfl
    have p3 : wr.cell? ⟨w.heap.size, 3, none⟩ = some (.slice A p.t.cases.length kc) := blk_cell P0 3 rfl
    have p6 : wr.cell? ⟨w.heap.size, 6, none⟩ = some (.int .i64 p.k) := blk_cell P0 6 rfl
    by_cases hcM : c < p.t.cases.length
    case neg =>
      obtain rfl : c = p.t.cases.length := by omega
      have hcs60 : p.t.cases.length * words.length ≤ 60 := by have h1 := HEX.out; have h2 := H60.out; have h3 := congrArg List.length HWE.out; rw [wordsE_len] at h3; rw [h3, Nat.mul_comm] at h1; omega
      obtain ⟨AV, kv, rfl, _⟩ := HB0.out.tb.form (by have := run_smallc p words (by have := HNN.out; omega) HW6.out p.t.cases.length hcs60; omega)
      obtain ⟨AE, ke, rfl, _, _, _⟩ := HB0.out.out.form cXn_ok
      have hres := (hsame (w.heap.size + 1) (by omega) (by omega)).trans HP1.out
      have hsys := HB0.out.sys
      rw [HSC.out] at hsys
      have s0 : wr.cell? ⟨w.heap.size + 1 + 1, 0, none⟩ = some (.int .i64 p.t.n) := blk_cell hsys 0 rfl
      have s1 : wr.cell? ⟨w.heap.size + 1 + 1, 1, none⟩ = some (.int .i64 p.t.ins) := blk_cell hsys 1 rfl
      have s2 : wr.cell? ⟨w.heap.size + 1 + 1, 2, none⟩ = some (.int .i64 p.t.outs) := blk_cell hsys 2 rfl
      have s3 : wr.cell? ⟨w.heap.size + 1 + 1, 3, none⟩ = some (.slice A p.t.cases.length kc) := blk_cell hsys 3 rfl
      have s4 : wr.cell? ⟨w.heap.size + 1 + 1, 4, none⟩ = some (.int .i64 p.a.n) := blk_cell hsys 4 rfl
      have s5 : wr.cell? ⟨w.heap.size + 1 + 1, 5, none⟩ = some (.slice SV p.a.sts.length ks) := blk_cell hsys 5 rfl
      have s6 : wr.cell? ⟨w.heap.size + 1 + 1, 6, none⟩ = some (.int .i64 p.k) := blk_cell hsys 6 rfl
      have s7 : wr.cell? ⟨w.heap.size + 1 + 1, 7, none⟩ = some (.int .i64 p.t.n) := blk_cell hsys 7 rfl
      have s8 : wr.cell? ⟨w.heap.size + 1 + 1, 8, none⟩ = some (.slice AV (runW p (pcs words p.t.cases.length)).1.length kv) := blk_cell hsys 8 rfl
      have s9 : wr.cell? ⟨w.heap.size + 1 + 1, 9, none⟩ = some (.slice AE (runW p (pcs words p.t.cases.length)).2.length ke) := blk_cell hsys 9 rfl
      have y0 : wr.cell? ⟨w.heap.size + 1, 0, none⟩ = some (.int .i64 0) := blk_cell hres 0 rfl
      have f0 := blk_froz hres 0
      have y1 : wr.cell? ⟨w.heap.size + 1, 1, none⟩ = some (.int .i64 0) := blk_cell hres 1 rfl
      have f1 := blk_froz hres 1
      have y2 : wr.cell? ⟨w.heap.size + 1, 2, none⟩ = some (.int .i64 0) := blk_cell hres 2 rfl
      have f2 := blk_froz hres 2
      have y3 : wr.cell? ⟨w.heap.size + 1, 3, none⟩ = some (.slice none 0 0) := blk_cell hres 3 rfl
      have f3 := blk_froz hres 3
      have y4 : wr.cell? ⟨w.heap.size + 1, 4, none⟩ = some (.int .i64 0) := blk_cell hres 4 rfl
      have f4 := blk_froz hres 4
      have y5 : wr.cell? ⟨w.heap.size + 1, 5, none⟩ = some (.slice none 0 0) := blk_cell hres 5 rfl
      have f5 := blk_froz hres 5
      have y6 : wr.cell? ⟨w.heap.size + 1, 6, none⟩ = some (.int .i64 0) := blk_cell hres 6 rfl
      have f6 := blk_froz hres 6
      have y7 : wr.cell? ⟨w.heap.size + 1, 7, none⟩ = some (.int .i64 0) := blk_cell hres 7 rfl
      have f7 := blk_froz hres 7
      have y8 : wr.cell? ⟨w.heap.size + 1, 8, none⟩ = some (.slice none 0 0) := blk_cell hres 8 rfl
      have f8 := blk_froz hres 8
      have y9 : wr.cell? ⟨w.heap.size + 1, 9, none⟩ = some (.slice none 0 0) := blk_cell hres 9 rfl
      have f9 := blk_froz hres 9
      have HFN := Lib.hid HB0.out
      have hbl : Below w.heap.size w wr := HBR.out.trans (HB0.out.wr.below (by have := HBR.out.size; omega) (fun k h1 h2 => by have h3 : k = w.heap.size + 1 + 1 := h2; omega))
      obtain ⟨k1, k2, k3, k4, k5⟩ := sys_store10 (.int .i64 p.t.n) (.int .i64 p.t.ins) (.int .i64 p.t.outs) (.slice A p.t.cases.length kc) (.int .i64 p.a.n) (.slice SV p.a.sts.length ks) (.int .i64 p.k) (.int .i64 p.t.n) (.slice AV (runW p (pcs words p.t.cases.length)).1.length kv) (.slice AE (runW p (pcs words p.t.cases.length)).2.length ke) hres hbl (by omega : w.heap.size ≤ w.heap.size + 1)
      obtain ⟨WF, hWF⟩ : ∃ WF, ((((((((((wr.setCell ⟨w.heap.size + 1, 0, none⟩ (.int .i64 p.t.n)).setCell ⟨w.heap.size + 1, 1, none⟩ (.int .i64 p.t.ins)).setCell ⟨w.heap.size + 1, 2, none⟩ (.int .i64 p.t.outs)).setCell ⟨w.heap.size + 1, 3, none⟩ (.slice A p.t.cases.length kc)).setCell ⟨w.heap.size + 1, 4, none⟩ (.int .i64 p.a.n)).setCell ⟨w.heap.size + 1, 5, none⟩ (.slice SV p.a.sts.length ks)).setCell ⟨w.heap.size + 1, 6, none⟩ (.int .i64 p.k)).setCell ⟨w.heap.size + 1, 7, none⟩ (.int .i64 p.t.n)).setCell ⟨w.heap.size + 1, 8, none⟩ (.slice AV (runW p (pcs words p.t.cases.length)).1.length kv)).setCell ⟨w.heap.size + 1, 9, none⟩ (.slice AE (runW p (pcs words p.t.cases.length)).2.length ke)) = WF := ⟨_, rfl⟩
      rw [hWF] at k1 k2 k3 k4 k5
      have K1 := Lib.hid k1
      have K2 := Lib.hid k2
      have K4 := Lib.hid k4
      have K5 := Lib.hid k5
      have HWF := Lib.hid hWF
      clear hres hsys P0 hbl k1 k2 k3 k4 k5 hWF
      go_wp2_with fail
      rw [HWF.out]
      have z0 := blk_cell K1.out 0 rfl
      have z1 := blk_cell K1.out 1 rfl
      have z2 := blk_cell K1.out 2 rfl
      have z3 := blk_cell K1.out 3 rfl
      have z4 := blk_cell K1.out 4 rfl
      have z5 := blk_cell K1.out 5 rfl
      have z6 := blk_cell K1.out 6 rfl
      have z7 := blk_cell K1.out 7 rfl
      have z8 := blk_cell K1.out 8 rfl
      have z9 := blk_cell K1.out 9 rfl
      refine bodyPost_ret (v := .agg #[.int .i64 p.t.n, .int .i64 p.t.ins, .int .i64 p.t.outs, .slice A p.t.cases.length kc, .int .i64 p.a.n, .slice SV p.a.sts.length ks, .int .i64 p.k, .int .i64 p.t.n, .slice AV (runW p (pcs words p.t.cases.length)).1.length kv, .slice AE (runW p (pcs words p.t.cases.length)).2.length ke]) (by simp [results, Tryz.results62, go_sem, z0, z1, z2, z3, z4, z5, z6, z7, z8, z9]) rfl ?_
      have hpe : pairsE p = pcs words p.t.cases.length := by rw [pcs_all, ← HWE.out, show p.k.toNat = K by have := HKE.out; omega]
      unfold RetBt
      rw [hpe]
      have hbw := HFN.out.big
      refine ⟨AV, kv, AE, ke, rfl, ?_, ?_, K2.out⟩
      · exact (HFN.out.tb.of_same fun k hk => K4.out k (by have := (HFN.out.tb.lt' k hk).1; omega)).low (by omega)
      · exact (OwnX.mono cXn_ok (HFN.out.out.keep cXn_ok ⟨by have := K5.out; omega, fun k hs _ => K4.out k (by omega)⟩ fun k hk => K4.out k (by have := (HFN.out.out.lt k hk).1; omega)) fun k _ hs => (by omega)).low (by omega)
    case pos =>
      have hc1 : (c : Int) < (p.t.cases.length : Int) := by omega
      have HSM := Lib.hid hsame
      clear hsame P0
      go_wp2_with fail
      obtain ⟨wo, rfl⟩ : ∃ x, x = wr := ⟨_, rfl⟩
      go_loopw [6] (fun i wx => ∃ (j : Nat) (V E : Value), j ≤ words.length ∧ i = .int .i64 (j : Int) ∧ Hid (Bt D (w.heap.size + 1 + 1) SC WR (runW p (pcw words c j)).1 (runW p (pcw words c j)).2 V E wx)) (fun i _ => words.length - (intOf i).toNat)
      case atStart => exact ⟨0, V0, E0, by omega, rfl, by rw [pcw_zero]; exact HB0.out⟩
      case round =>
        obtain ⟨j, V1, E1, hj, rfl, HB1⟩ := hrel
        by_cases hjW : j < words.length
        case neg =>
          obtain rfl : j = words.length := by omega
          have HBe := Lib.hid (by have h := HB1.out; rw [pcw_end] at h; exact h)
          clear HB1
          go_wp2_with fail
          go_roundw
          case rel => exact ⟨c + 1, V1, E1, by omega, by go_num, HBe.out⟩
          case measure => simp [intOf]; omega
        case pos =>
          obtain ⟨gw, A2, c2, eAW, hg1, hg2, hcw, hR2⟩ := HWD.out j hjW
          subst eAW
          have hKp : KeepB (fun k => k < D ∧ k ≠ w.heap.size + 1 + 1) WR wr := HB1.out.wr.keep fun k _ hs => hs.2
          have hw0 : wr.cell? ⟨gw, j, none⟩ = some (.slice A2 words[j].length c2) := keep_cell hKp ⟨hg2, by omega⟩ hcw
          have hst : c * words.length + j < 60 := by
            have h1 := HEX.out
            have h2 := H60.out
            have h3 := congrArg List.length HWE.out
            rw [wordsE_len] at h3
            rw [h3, Nat.mul_comm] at h1
            have h4 := Nat.mul_le_mul_right words.length (show c + 1 ≤ p.t.cases.length by omega)
            rw [Nat.succ_mul] at h4
            omega
          obtain ⟨hv0, hx0⟩ := run_small p words (by have := HNN.out; omega) HW6.out c j (by omega) (by omega)
          have hrs := runW_snoc p (pcw words c j) (c, words[j])
          rw [← pcw_succ words c j hjW] at hrs
          obtain ⟨word, hword⟩ : ∃ word, words[j] = word := ⟨_, rfl⟩
          rw [hword] at hw0 hR2 hrs hcw
          have hwm : word ∈ wordsE p.a K 0 := by rw [HWE.out, ← hword]; exact List.getElem_mem hjW
          have hwk := wordsE_k p.a K 0 word hwm
          have HWF : Hid (∀ r ∈ word, roundE r = 0 ∧ r.n = (N : Int)) := fun r hr => by
            obtain ⟨m, hm, rfl⟩ := wordsE_mem p.a K 0 word hwm r hr
            obtain ⟨z1, z2, _⟩ := mvs_zero (adv_fine HFX.out.1.2 HPA.out).1 m hm
            exact ⟨z1, by rw [z2, ← HPN.out, HNN.out]⟩
          obtain ⟨AE, ke, rfl, _, _, _⟩ := HB1.out.out.form cXn_ok
          obtain ⟨vs0, hvs0⟩ : ∃ vs0, (runW p (pcw words c j)).1 = vs0 := ⟨_, rfl⟩
          obtain ⟨xs0, hxs0⟩ : ∃ xs0, (runW p (pcw words c j)).2 = xs0 := ⟨_, rfl⟩
          rw [hvs0, hxs0] at hrs HB1
          rw [hvs0] at hv0
          rw [hxs0] at hx0
          have hinp : inpE p c = p.t.cases[c].inp := by unfold inpE; rw [List.getD_eq_getElem?_getD, List.getElem?_eq_getElem hcM]; rfl
          have HRUN : Hid (runW p (pcw words c (j + 1)) = ((stQ vs0 N p.t.cases[c].inp word (K + 1)).1, xs0 ++ [⟨(c : Int), word, (stQ vs0 N p.t.cases[c].inp word (K + 1)).2⟩])) := by
            rw [hrs]
            show (_, _) = _
            rw [hinp, hwk, show p.t.n.toNat = N by have := HNN.out; omega]
            rfl
          obtain ⟨bc, oc, A0, c0, A1', c1', A2', c2', eA, hbcl, hcc0, _, _, hIn, _, _⟩ := HA.out.row c hcM
          subst eA
          have hinl : p.t.cases[c].inp.length = N := by have h1 := HTI.out _ (List.getElem_mem hcM); have := HNN.out; omega
          obtain ⟨inp, hinpe⟩ : ∃ inp, p.t.cases[c].inp = inp := ⟨_, rfl⟩
          rw [hinpe] at hcc0 hIn HRUN hinl
          have HIN := Lib.hid hIn
          have HGW := Lib.hid hcw
          have HC0 := Lib.hid hcc0
          have HR2 := Lib.hid hR2
          have HIL := Lib.hid hinl
          have HX0 : Hid (xs0.length < 60) := by show xs0.length < 60; omega
          have HV0 := Lib.hid hv0
          have HWK := Lib.hid hwk
          have hj1 : (j : Int) < (words.length : Int) := by omega
          have hgwl : gw < wr.heap.size := by have := HB1.out.big; omega
          clear hinl hinpe hrs hinp hIn hcc0 hR2 hcw hKp hvs0 hxs0 hword hwm hx0 hv0 hwk
          go_wp2_with fail
          clear hw0
          obtain ⟨W1, hW1, x1, hs1, hB1⟩ := onebox wr #[.int .i64 c, .slice A2 word.length c2, .slice none 0 0] 42
          rw [hW1]
          have HQ0 : Hid (Bq D (w.heap.size + 1 + 1) wr.heap.size SC WR c (.slice A2 word.length c2) vs0 xs0 [] [] V1 (.slice AE xs0.length ke) (.slice none 0 0) (.slice none 0 0) W1) := Bt.start HB1.out hB1 x1
          clear hW1 x1 hs1 hB1 HB1
          obtain ⟨bx, hbx⟩ : ∃ bx, bx = wr.heap.size := ⟨_, rfl⟩
          rw [← hbx] at HQ0 ⊢
          clear hbx
          go_loopw [8] (fun i wx => ∃ (k : Nat) (V Y : Value), k ≤ K + 1 ∧ i = .int .i64 (k : Int) ∧ Hid (Bq D (w.heap.size + 1 + 1) bx SC WR c (.slice A2 word.length c2) (stQ vs0 N inp word k).1 xs0 (stQ vs0 N inp word k).2 [] V (.slice AE xs0.length ke) Y (.slice none 0 0) wx)) (fun i _ => K + 1 - (intOf i).toNat)
          case atStart => exact ⟨0, V1, _, by omega, rfl, HQ0.out⟩
          case round =>
            clear HQ0
            obtain ⟨k, V2, Y2, hk, rfl, HQ⟩ := hrel
            have hbig := HQ.out.big
            have P0 := (HQ.out.wr.block _ (by have := HDD.out; omega) (by omega)).trans HP0.out
            have p0 : wr.cell? ⟨w.heap.size, 0, none⟩ = some (.int .i64 p.t.n) := blk_cell P0 0 rfl
            have p3 : wr.cell? ⟨w.heap.size, 3, none⟩ = some (.slice (some ⟨bc, oc, none⟩) p.t.cases.length kc) := blk_cell P0 3 rfl
            have p6 : wr.cell? ⟨w.heap.size, 6, none⟩ = some (.int .i64 p.k) := blk_cell P0 6 rfl
            clear P0
            by_cases hkK : k ≤ K
            case neg =>
              have HKQ : Hid (k = K + 1) := by show k = K + 1; omega
              have hle : ¬ ((k : Int) ≤ p.k) := by have := HKE.out; omega
              obtain ⟨AY, ky, rfl, _, _, _⟩ := HQ.out.vw.form cIs_ok
              have hsys := HQ.out.sys
              rw [HSC.out] at hsys
              have HSY := Lib.hid hsys
              have s9 : wr.cell? ⟨w.heap.size + 1 + 1, 9, none⟩ = some (.slice AE xs0.length ke) := blk_cell hsys 9 rfl
              have f9 := blk_froz hsys 9
              have x0 : wr.cell? ⟨bx, 0, none⟩ = some (.int .i64 c) := blk_cell HQ.out.x 0 rfl
              have x1 : wr.cell? ⟨bx, 1, none⟩ = some (.slice A2 word.length c2) := blk_cell HQ.out.x 1 rfl
              have x2 : wr.cell? ⟨bx, 2, none⟩ = some (.slice AY (stQ vs0 N inp word k).2.length ky) := blk_cell HQ.out.x 2 rfl
              have HG4 := Lib.hid (blk_new wr (.cells #[.int .i64 c, .slice A2 word.length c2, .slice AY (stQ vs0 N inp word k).2.length ky] 42))
              have HO4 := Lib.hid (HQ.out.out.below cXn_ok (bel1 wr (.cells #[.int .i64 c, .slice A2 word.length c2, .slice AY (stQ vs0 N inp word k).2.length ky] 42)) (Nat.le_refl _))
              have hbsl := HQ.out.bsl
              have hbsw : w.heap.size + 1 + 1 < wr.heap.size := by omega
              have hbxl := HQ.out.bxl
              clear hsys
              go_wp2_with (at_builtin; obtain ⟨css, hcl, hcr, hcs⟩ := HO4.out; refine wpList_appR kXn_ok rfl (.tmp 110) (.tmp 112) rfl D (.slice AE xs0.length ke) xs0.length css.flatten rfl hcr wr.heap.size #[.int .i64 c, .slice A2 word.length c2, .slice AY (stQ vs0 N inp word k).2.length ky] rfl HG4.out rfl (by simp [Value.oneCell']) (Nat.le_trans (Nat.le_of_lt HX0.out) (by decide)) (by simp; omega) _ rfl ?_; intro g' cap w7 hr7 hg7 hat7 hlt7; have b7 := (hg7.block _ (by simp; omega) (fun e => HO4.out.ne hbsl e.symm)).trans (blk_old HSY.out _); have c7 := blk_cell b7 9 rfl; have fr7 := blk_froz b7 9; have HDN := Lib.hid (Bq.done HQ.out (bel1 wr _) hcl hcs rfl rfl HR2.out hr7 hg7 hat7 (by rw [HSC.out]; rfl)); clear hr7 hg7 hat7 hcl hcs hcr b7)
              go_roundw
              case rel => exact ⟨j + 1, V2, _, by omega, by go_num, by rw [HRUN.out, ← HKQ.out]; exact HDN.out⟩
              case measure => simp [intOf]; omega
            case pos =>
              have hle : (k : Int) ≤ p.k := by have := HKE.out; omega
              have hkw : k ≤ 6 := by omega
              obtain ⟨vk, hvk⟩ : ∃ vk, (stQ vs0 N inp word k).1 = vk := ⟨_, rfl⟩
              obtain ⟨yk, hyk⟩ : ∃ yk, (stQ vs0 N inp word k).2 = yk := ⟨_, rfl⟩
              obtain ⟨f, hf⟩ : ∃ f, fQ inp word yk k = f := ⟨_, rfl⟩
              have hyl := stQ_len vs0 N inp word k
              have hvl := stQ_few vs0 N inp word k
              have hyr := stQ_row vs0 N inp word k
              have hss := stQ_succ vs0 N inp word k
              rw [hvk, hyk] at HQ
              rw [hyk] at hyl hyr
              rw [hvk] at hvl
              rw [hvk, hyk, hf] at hss
              have HSS := Lib.hid hss
              have HYR := Lib.hid hyr
              have HYL := Lib.hid hyl
              have HVL : Hid (vk.length ≤ 2100 + 30) := by
                have h1 := Nat.mul_le_mul hkw hN1.2
                have h2 := HV0.out
                show vk.length ≤ 2130
                omega
              have HFF := Lib.hid hf
              clear hvk hyk hf hyl hvl hyr hss
              obtain ⟨AY, ky, rfl, _, _, _⟩ := HQ.out.vw.form cIs_ok
              go_wp2_with fail
              clear p0 p3 p6
              go_loopw [9, 10] (fun l i wx => ∃ (q : Nat) (V : Value), q ≤ N ∧ i = .int .i64 (q : Int) ∧ Hid (Bq D (w.heap.size + 1 + 1) bx SC WR c (.slice A2 word.length c2) (rowW f vk q).1 xs0 yk (rowW f vk q).2 V (.slice AE xs0.length ke) (.slice AY yk.length ky) l wx)) (fun _ i _ => N - (intOf i).toNat)
              case atStart => exact ⟨0, V2, by omega, rfl, HQ.out⟩
              case round =>
                clear HQ
                obtain ⟨q, V3, hq, rfl, HQ⟩ := hrel
                have hbig := HQ.out.big
                have P0 := (HQ.out.wr.block _ (by have := HDD.out; omega) (by omega)).trans HP0.out
                have p0 : wr.cell? ⟨w.heap.size, 0, none⟩ = some (.int .i64 p.t.n) := blk_cell P0 0 rfl
                have p3 : wr.cell? ⟨w.heap.size, 3, none⟩ = some (.slice (some ⟨bc, oc, none⟩) p.t.cases.length kc) := blk_cell P0 3 rfl
                clear P0
                obtain ⟨AL, kl, eL, hkl1, hkl2, _⟩ := HQ.out.row.form
                subst eL
                by_cases hqN : q < N
                case neg =>
                  have HQQ : Hid (q = N) := by show q = N; omega
                  have hqn : ¬ ((q : Int) < p.t.n) := by have := HNN.out; omega
                  have x2 : wr.cell? ⟨bx, 2, none⟩ = some (.slice AY yk.length ky) := blk_cell HQ.out.x 2 rfl
                  have HG4 := Lib.hid (blk_new wr (.cells #[.slice AL (rowW f vk q).2.length kl] 49))
                  have HO4 := Lib.hid (HQ.out.vw.below cIs_ok (bel1 wr (.cells #[.slice AL (rowW f vk q).2.length kl] 49)) (Nat.le_refl _))
                  have hbxl := HQ.out.bxl
                  have hbxD := HQ.out.hx
                  go_wp2_with (at_builtin; obtain ⟨css, hcl, hcr, hcs⟩ := HO4.out; refine wpList_appR kIs_ok rfl (.tmp 104) (.tmp 106) rfl D (.slice AY yk.length ky) yk.length css.flatten rfl hcr wr.heap.size #[.slice AL (rowW f vk q).2.length kl] rfl HG4.out rfl (by simp [Value.oneCell']) (by rw [HYL.out]; omega) (by simp; omega) _ rfl ?_; intro g' cap w7 hr7 hg7 hat7 hlt7; have b7 := (hg7.block bx (by simp; omega) (fun e => (HQ.out.nY bx e.symm).1 rfl)).trans (blk_old HQ.out.x _); have c7 := blk_cell b7 2 rfl; have fr7 := blk_froz b7 2; have HCL := Lib.hid (Bq.close HQ.out (bel1 wr _) hcl hcs hr7 hg7 hat7); clear hr7 hg7 hat7 hcl hcs hcr b7)
                  go_roundw
                  case rel => exact ⟨k + 1, V3, _, by omega, by go_num, by rw [HSS.out, ← HQQ.out]; exact HCL.out⟩
                  case measure => simp [intOf]; omega
                case pos =>
                  have hqn : (q : Int) < p.t.n := by have := HNN.out; omega
                  have hbel : Below w.heap.size w wr := HBR.out.trans (HQ.out.wr.below (by have := HBR.out.size; omega) (fun k h1 h2 => by have h3 : k = w.heap.size + 1 + 1 := h2; omega))
                  have hcw := (hbel.cell (p := ⟨bc, oc + c * 3, none⟩) hbcl).trans HC0.out
                  have hqi : q < inp.length := by have := HIL.out; omega
                  obtain ⟨bi, oi, eI, hbil, hci⟩ := HIN.out.at_ q hqi
                  subst eI
                  have hiw := (hbel.cell (p := ⟨bi, oi + q, none⟩) hbil).trans hci
                  obtain ⟨iv, hiv⟩ : ∃ iv, inp[q] = iv := ⟨_, rfl⟩
                  rw [hiv] at hiw
                  have HIV : Hid (inp.getD q 0 = iv) := by show _ = _; rw [List.getD_eq_getElem?_getD, List.getElem?_eq_getElem hqi, ← hiv]; rfl
                  have hq0 : (0 : Int) ≤ (q : Int) := by omega
                  have hq1 : (q : Int) < (inp.length : Int) := by omega
                  have hcp : (0 : Int) ≤ (c : Int) := by omega
                  have HF1 := Lib.hid (first_any q iv wr)
                  have HPO := Lib.hid (stQ_few vs0 N inp word k)
                  have hbxl := HQ.out.bxl
                  clear hbel hci hiv
                  go_wp2_with fail
                  refine HF1.out.mono ?_
                  rintro e w5 ⟨rfl, hb5⟩
                  obtain ⟨W6, hW6, b6, hs6, hB6⟩ := onebox w5 (firstE q iv).cells 92
                  have hb6 : Below wr.heap.size wr W6 := hb5.trans (hB6.mono hb5.size)
                  have hs5 := hb5.size
                  have HW6 := Lib.hid hW6
                  have HB6 := Lib.hid hb6
                  have H11 := Lib.hid b6
                  unfold Vw.cells at HW6
                  unfold Vw.cells
                  clear HF1 hb5 hW6 b6 hB6 hb6 hcw hiw p0 p3
                  go_simp
                  rename_i hKK
                  refine hKK _ _ ?_
                  clear hKK
                  refine wpList_plain rfl fun K5 hK5 => ?_
                  go_simp
                  refine hK5 _ _ ?_
                  clear hK5 K5
                  refine wpList_plain rfl fun K5 hK5 => ?_
                  go_simp
                  rw [HW6.out]
                  refine hK5 _ _ ?_
                  clear hK5 K5 HW6
                  rcases Nat.eq_zero_or_pos k with hk0 | hkp
                  case' inl =>
                    have hkt : ¬ ((0 : Int) < (k : Int)) := by omega
                    have HFV : Hid (f q = firstE q iv) := by
                      show f q = _
                      rw [← HFF.out, hk0]
                      show firstE q (inp.getD q 0) = _
                      rw [HIV.out]
                    rw [← HFV.out] at H11
                    have H11 : Hid (W6.heap[w5.heap.size]? = some (.cells (f q).cells 92 (0, 0))) := H11
                    obtain ⟨W9, hW9⟩ : ∃ W9, W6 = W9 := ⟨_, rfl⟩
                    rw [hW9] at HB6 H11 ⊢
                    clear hW9 HFV hk0
                  case' inr =>
                    obtain ⟨k', hk'⟩ : ∃ k', k = k' + 1 := ⟨k - 1, by omega⟩
                    have hkt : (0 : Int) < (k : Int) := by omega
                    have hksub : IntKind.i64.wrap ((k : Int) - 1) = (k' : Int) := by rw [IntKind.wrap_i64]; omega
                    have hk'w : k' < word.length := by have := HWK.out; omega
                    have hk'y : k' < yk.length := by have := HYL.out; omega
                    have HFV : Hid (f q = seenE word[k'] k q yk[k']) := by
                      show f q = _
                      rw [← HFF.out, hk']
                      show seenE (word.getD k' default) (k' + 1) q (yk.getD k' []) = _
                      rw [List.getD_eq_getElem?_getD, List.getElem?_eq_getElem hk'w, List.getD_eq_getElem?_getD, List.getElem?_eq_getElem hk'y]
                      rfl
                    have Q6 := HQ.out.on HB6.out
                    have hR6 : RAtS (fun k => w.heap.size + 1 + 1 < k ∧ k < D) W6 A2 word := HR2.out.keep (Q6.wr.keep fun k _ hs e => by have h3 : k = w.heap.size + 1 + 1 := e; omega)
                    have hw6 : W6.cell? ⟨gw, j, none⟩ = some (.slice A2 word.length c2) := keep_cell (S := fun k => w.heap.size + 1 + 1 < k ∧ k < D) (Q6.wr.keep fun k _ hs e => by have h3 : k = w.heap.size + 1 + 1 := e; omega) ⟨hg1, hg2⟩ HGW.out
                    obtain ⟨br, or_, eA2, hbr, r0, r1, r2, r3, r4, r5, r6⟩ := hR6.rat.row k' hk'w
                    subst eA2
                    obtain ⟨AYx, kyx, eY, _, _, hYc⟩ := Q6.vw.form cIs_ok
                    cases eY
                    obtain ⟨gy, eAY, _, hgy, hyc⟩ := hYc (by omega)
                    subst eAY
                    obtain ⟨cs, ⟨A3, c3, rfl, hI3⟩, hcell⟩ := hyc k' hk'y
                    have hy6 : W6.cell? ⟨gy, k', none⟩ = some (.slice A3 yk[k'].length c3) := by simpa [cIs, kIs] using hcell 0 _ rfl
                    have x6 : W6.cell? ⟨bx, 2, none⟩ = some (.slice (some ⟨gy, 0, none⟩) yk.length ky) := blk_cell Q6.x 2 rfl
                    have hrl := HYR.out k' hk'y
                    obtain ⟨row, hrow⟩ : ∃ row, yk[k'] = row := ⟨_, rfl⟩
                    obtain ⟨rd, hrd⟩ : ∃ rd, word[k'] = rd := ⟨_, rfl⟩
                    have hrf := HWF.out word[k'] (List.getElem_mem hk'w)
                    rw [hrow] at hy6 hI3 hrl HFV
                    rw [hrd] at r0 r1 r2 r3 r4 r5 r6 hrf HFV
                    have hhs := hears_small (round_zero hrf.1).2.2.1 q (by omega)
                    have HSE := Lib.hid (fun (X : World) (hX : Below W6.heap.size W6 X) => seen_any rd k q (by omega) hhs A3 c3 row (by rw [hrf.2, hrl]) (by omega) X ((hI3.iat.keep hX).more hX.size))
                    have hk'0 : (0 : Int) ≤ (k' : Int) := by omega
                    have hk'1 : (k' : Int) < (word.length : Int) := by omega
                    have hk'2 : (k' : Int) < (yk.length : Int) := by omega
                    have hjp : (0 : Int) ≤ (j : Int) := by omega
                    have HKS := Lib.hid hk'
                    have h11l : w5.heap.size < W6.heap.size := blk_lt H11.out
                    clear hkp hk' Q6 hR6 hYc hyc hcell hI3 hrow hrd hrf hhs hrl
                    go_wp2_with fail
                    go_still_tail 17, (by kernel_rfl)
                    change wpList _ _ _ _ _ W6.drew
                    obtain ⟨W7, hW7⟩ : ∃ W7, W7 = W6.drew := ⟨_, rfl⟩
                    have HB7 : Hid (Below W6.heap.size W6 W7) := by rw [hW7]; exact (Below.refl _ _).drew
                    rw [← hW7]
                    clear hW7 r0 r1 r2 r3 r4 r5 r6 hw6 hy6 x6
                    go_wp2_with fail
                    refine (HSE.out W7 HB7.out).mono ?_
                    rintro e w8 ⟨rfl, hb8⟩
                    obtain ⟨vv, hvv⟩ : ∃ vv, seenE rd k q row = vv := ⟨_, rfl⟩
                    rw [hvv] at HFV ⊢
                    have hb68 : Below W6.heap.size W6 w8 := HB7.out.trans (hb8.mono HB7.out.size)
                    have b8 := (hb68.block _ h11l).trans H11.out
                    unfold Vw.cells at b8
                    obtain ⟨k1, k2⟩ := vw_store8 vv b8 (HB6.out.trans (hb68.mono HB6.out.size)) (by omega : wr.heap.size ≤ w5.heap.size)
                    obtain ⟨W9, hW9⟩ : ∃ W9, ((((((((w8.setCell ⟨w5.heap.size, 0, none⟩ (.int .i64 vv.p)).setCell ⟨w5.heap.size, 1, none⟩ (.int .i64 vv.r)).setCell ⟨w5.heap.size, 2, none⟩ (.int .i64 vv.i)).setCell ⟨w5.heap.size, 3, none⟩ (.int .i64 vv.h0)).setCell ⟨w5.heap.size, 4, none⟩ (.int .i64 vv.h1)).setCell ⟨w5.heap.size, 5, none⟩ (.int .i64 vv.h2)).setCell ⟨w5.heap.size, 6, none⟩ (.int .i64 vv.h3)).setCell ⟨w5.heap.size, 7, none⟩ (.int .i64 vv.h4)) = W9 := ⟨_, rfl⟩
                    rw [hW9] at k1 k2
                    have HW9 := Lib.hid hW9
                    have y0 : w8.cell? ⟨w5.heap.size, 0, none⟩ = some (.int .i64 (firstE q iv).p) := blk_cell b8 0 rfl
                    have fr0 := blk_froz b8 0
                    have y1 : w8.cell? ⟨w5.heap.size, 1, none⟩ = some (.int .i64 (firstE q iv).r) := blk_cell b8 1 rfl
                    have fr1 := blk_froz b8 1
                    have y2 : w8.cell? ⟨w5.heap.size, 2, none⟩ = some (.int .i64 (firstE q iv).i) := blk_cell b8 2 rfl
                    have fr2 := blk_froz b8 2
                    have y3 : w8.cell? ⟨w5.heap.size, 3, none⟩ = some (.int .i64 (firstE q iv).h0) := blk_cell b8 3 rfl
                    have fr3 := blk_froz b8 3
                    have y4 : w8.cell? ⟨w5.heap.size, 4, none⟩ = some (.int .i64 (firstE q iv).h1) := blk_cell b8 4 rfl
                    have fr4 := blk_froz b8 4
                    have y5 : w8.cell? ⟨w5.heap.size, 5, none⟩ = some (.int .i64 (firstE q iv).h2) := blk_cell b8 5 rfl
                    have fr5 := blk_froz b8 5
                    have y6 : w8.cell? ⟨w5.heap.size, 6, none⟩ = some (.int .i64 (firstE q iv).h3) := blk_cell b8 6 rfl
                    have fr6 := blk_froz b8 6
                    have y7 : w8.cell? ⟨w5.heap.size, 7, none⟩ = some (.int .i64 (firstE q iv).h4) := blk_cell b8 7 rfl
                    have fr7 := blk_froz b8 7
                    have H11 : Hid (W9.heap[w5.heap.size]? = some (.cells (f q).cells 92 (0, 0))) := by rw [HFV.out]; exact k1
                    have HB6 : Hid (Below wr.heap.size wr W9) := k2
                    clear hb68 b8 k1 k2 hW9 hvv hb8 HSE HB7 HFV
                    unfold Vw.cells
                    go_simp
                    rename_i hKK
                    refine hKK _ _ ?_
                    refine wpList_plain rfl fun K5 hK5 => ?_
                    go_simp
                    rw [HW9.out]
                    refine hK5 _ _ ?_
                    clear HW9 HKS hkt hksub y0 y1 y2 y3 y4 y5 y6 y7 fr0 fr1 fr2 fr3 fr4 fr5 fr6 fr7
                  all_goals
                    have Q9 := HQ.out.on HB6.out
                    have hrf := rowW_few f vk q
                    have hrl2 := rowW_len f vk q
                    obtain ⟨AV, kv, eV, hT⟩ := Q9.tb.form (by have := HVL.out; omega)
                    subst eV
                    have HPU := Lib.hid (put_any p.t.n AV kv (rowW f vk q).1 (f q) W9 hT (by have := HVL.out; omega))
                    have hsys := Q9.sys
                    rw [HSC.out] at hsys
                    have s7 : W9.cell? ⟨w.heap.size + 1 + 1, 7, none⟩ = some (.int .i64 p.t.n) := blk_cell hsys 7 rfl
                    have s8 : W9.cell? ⟨w.heap.size + 1 + 1, 8, none⟩ = some (.slice AV (rowW f vk q).1.length kv) := blk_cell hsys 8 rfl
                    have HQ9 := Lib.hid Q9
                    have HRL2 := Lib.hid hrl2
                    obtain ⟨v, hv⟩ : ∃ v, f q = v := ⟨_, rfl⟩
                    have HFQ := Lib.hid hv
                    rw [hv] at HPU H11
                    have x0 : W9.cell? ⟨w5.heap.size, 0, none⟩ = some (.int .i64 v.p) := blk_cell H11.out 0 rfl
                    have x1 : W9.cell? ⟨w5.heap.size, 1, none⟩ = some (.int .i64 v.r) := blk_cell H11.out 1 rfl
                    have x2 : W9.cell? ⟨w5.heap.size, 2, none⟩ = some (.int .i64 v.i) := blk_cell H11.out 2 rfl
                    have x3 : W9.cell? ⟨w5.heap.size, 3, none⟩ = some (.int .i64 v.h0) := blk_cell H11.out 3 rfl
                    have x4 : W9.cell? ⟨w5.heap.size, 4, none⟩ = some (.int .i64 v.h1) := blk_cell H11.out 4 rfl
                    have x5 : W9.cell? ⟨w5.heap.size, 5, none⟩ = some (.int .i64 v.h2) := blk_cell H11.out 5 rfl
                    have x6 : W9.cell? ⟨w5.heap.size, 6, none⟩ = some (.int .i64 v.h3) := blk_cell H11.out 6 rfl
                    have x7 : W9.cell? ⟨w5.heap.size, 7, none⟩ = some (.int .i64 v.h4) := blk_cell H11.out 7 rfl
                    clear hv hrf hrl2 hT hsys Q9
                    go_wp2_with fail
                    all_goals first | (exfalso; omega) | skip
                    refine HPU.out.mono ?_
                    rintro e w10 hput
                    obtain ⟨A3, k3, rfl, hO3, hV3, hb10⟩ := put_out hput HQ9.out.tb HQ9.out.big
                    have B10 := HB6.out.trans (hb10.mono HB6.out.size)
                    have hsys := (HQ.out.on B10).sys
                    rw [HSC.out] at hsys
                    have s7 : w10.cell? ⟨w.heap.size + 1 + 1, 7, none⟩ = some (.int .i64 p.t.n) := blk_cell hsys 7 rfl
                    have s8 : w10.cell? ⟨w.heap.size + 1 + 1, 8, none⟩ = some (.slice AV (rowW f vk q).1.length kv) := blk_cell hsys 8 rfl
                    have f7 := blk_froz hsys 7
                    have f8 := blk_froz hsys 8
                    have HS10 := Lib.hid hsys
                    obtain ⟨vs', hvs'⟩ : ∃ vs', (putW (rowW f vk q).1 v).1 = vs' := ⟨_, rfl⟩
                    obtain ⟨iz, hiz⟩ : ∃ iz, (putW (rowW f vk q).1 v).2 = iz := ⟨_, rfl⟩
                    rw [hvs'] at hO3 hV3
                    have HVS := Lib.hid hvs'
                    have HIZ := Lib.hid hiz
                    have HO3 := Lib.hid hO3
                    have HV3 := Lib.hid hV3
                    have HB10 := Lib.hid B10
                    have hs10 := B10.size
                    have hbsl := HQ.out.bsl
                    rw [hvs', hiz]
                    clear hput hO3 hV3 hb10 B10 hsys hvs' hiz HPU x0 x1 x2 x3 x4 x5 x6 x7 H11
                    obtain ⟨W11, hW11, b11, hs11, hB11⟩ := onebox w10 #[.int .i64 p.t.n, .slice A3 vs'.length k3] 33
                    have HW11 := Lib.hid hW11
                    have HB11 : Hid (Below wr.heap.size wr W11) := HB10.out.trans (hB11.mono hs10)
                    have t0 : W11.cell? ⟨w10.heap.size, 0, none⟩ = some (.int .i64 p.t.n) := blk_cell b11 0 rfl
                    have t1 : W11.cell? ⟨w10.heap.size, 1, none⟩ = some (.slice A3 vs'.length k3) := blk_cell b11 1 rfl
                    have hsys := (HQ.out.on HB11.out).sys
                    rw [HSC.out] at hsys
                    have e7 : W11.cell? ⟨w.heap.size + 1 + 1, 7, none⟩ = some (.int .i64 p.t.n) := blk_cell hsys 7 rfl
                    have e8 : W11.cell? ⟨w.heap.size + 1 + 1, 8, none⟩ = some (.slice AV (rowW f vk q).1.length kv) := blk_cell hsys 8 rfl
                    have fe7 := blk_froz hsys 7
                    have fe8 := blk_froz hsys 8
                    have hbs11 : w.heap.size + 1 + 1 < W11.heap.size := by omega
                    have HPT := Lib.hid (Bq.put HQ.out HB11.out (u := .int .i64 p.t.n) (HO3.out.of_same fun k hk => hB11.block k (HO3.out.lt' k hk).2) (fun k hk => by
                      rcases HV3.out k hk with e | e
                      · exact .inl e
                      · exact .inr (by have := HB6.out.size; omega)) (by rw [HSC.out]; rfl) (by rw [HSC.out]; rfl))
                    obtain ⟨Y10, hY10⟩ : ∃ Y10, (W11.setCell ⟨w.heap.size + 1 + 1, 7, none⟩ (.int .i64 p.t.n)).setCell ⟨w.heap.size + 1 + 1, 8, none⟩ (.slice A3 vs'.length k3) = Y10 := ⟨_, rfl⟩
                    rw [hY10] at HPT
                    have HY10 := Lib.hid hY10
                    have hsz10 : Y10.heap.size = W11.heap.size := by rw [← hY10]; simp
                    have HGN : Hid ((Y10.alloc (.cells #[.int .i64 iz] 3)).heap[w10.heap.size + 1]? = some (.cells #[.int .i64 iz] 3 (0, 0))) := by show _ = _; rw [← hs11, ← hsz10]; exact blk_new Y10 _
                    have HRN := Lib.hid (HPT.out.row.alloc (.cells #[.int .i64 iz] 3))
                    have HDY := Lib.hid HPT.out.big
                    have HRW : Hid (rowW f vk (q + 1) = (vs', (rowW f vk q).2 ++ [iz])) := by
                      show (_, _) = _
                      rw [HFQ.out, HVS.out, HIZ.out]
                    clear hW11 b11 hB11 hsys hY10 s7 s8 f7 f8 HS10 HO3 HV3 HVS HIZ HFQ HQ9
                    go_simp
                    rename_i hKK
                    refine hKK _ _ ?_
                    clear hKK
                    refine wpList_plain rfl fun K5 hK5 => ?_
                    go_simp
                    refine hK5 _ _ ?_
                    clear hK5 K5
                    refine wpList_plain rfl fun K5 hK5 => ?_
                    go_simp
                    refine hK5 _ _ ?_
                    clear hK5 K5
                    refine wpList_plain rfl fun K5 hK5 => ?_
                    go_simp
                    refine hK5 _ _ ?_
                    clear hK5 K5
                    refine wpList_plain rfl fun K5 hK5 => ?_
                    go_simp
                    refine hK5 _ _ ?_
                    clear hK5 K5
                    refine wpList_plain rfl fun K5 hK5 => ?_
                    go_simp
                    rw [HW11.out]
                    refine hK5 _ _ ?_
                    clear hK5 K5 HW11
                    have HRL3 : Hid ((rowW f vk q).2.length ≤ 1000000000) := by show _ ≤ _; rw [HRL2.out]; omega
                    have HDZ : Hid (D ≤ (Y10.alloc (.cells #[.int .i64 iz] 3)).heap.size) := by show _ ≤ _; have := HDY.out; simp; omega
                    go_wp2_with (at_builtin; go_loud (rw [HY10.out]; refine wpList_appR kIn_ok rfl (.tmp 99) (.tmp 101) rfl D (.slice AL (rowW f vk q).2.length kl) (rowW f vk q).2.length ((rowW f vk q).2.map (Value.int .i64)) rfl HRN.out (w10.heap.size + 1) #[.int .i64 iz] rfl HGN.out rfl (by simp [Value.oneCell']) HRL3.out HDZ.out _ rfl ?_; intro g' cap w12 hr7 hg7 hat7 hlt7; have HPS := Lib.hid (Bq.push HPT.out (bel1 Y10 _) hr7 hg7 hat7); clear hr7 hg7 hat7))
                    go_roundw
                    case rel => exact ⟨q + 1, _, by omega, by go_num, by rw [HRW.out]; exact HPS.out⟩
                    case measure => simp [intOf]; omega
end Go.Proofs.YtnikmmdadflefaaGreatDoor
namespace Go.Proofs.YtnikmmdadflefaaGreatDoor
open Go.RowKit
attribute [local go_sem] Oper.semAt_some
theorem num_many {p : Pb} (h : probE p = 0) : 4096 < numP p ↔ 4096 < execT p := by
  obtain ⟨hpt, _⟩ := prob_fine h
  obtain ⟨h1, _⟩ := task_cases hpt
  have e : execT p = p.t.cases.length * cntT p.a p.k.toNat 0 := by unfold execT; rw [Nat.mul_comm]
  rw [e]
  exact sat_mul 4096 p.t.cases.length (cntT p.a p.k.toNat 0) h1
set_option maxRecDepth 100000 in
set_option maxHeartbeats 4000000 in
theorem rbuild_any (p : Pb) (hf : FewX p) (A : Option Addr) (kc : Nat) (SV : Option Addr) (ks : Nat) (w : World) (hA : CAt w w.heap.size A p.t.cases) (hS : SAt w w.heap.size SV p.a.sts) :
    Calls Tryz.prog 20 #[.agg (p.vs A kc SV ks)] w (RetSys (buildE p) w) := by
  have HC := Lib.hid (fun (w' : World) (h1 : CAt w' w'.heap.size A p.t.cases) (h2 : SAt w' w'.heap.size SV p.a.sts) => rpcheck_any p hf.1 A kc SV ks w' h1 h2)
  have HN := Lib.hid (fun (w' : World) (h0 : probE p = 0) (h : SAt w' w'.heap.size SV p.a.sts) =>
    rnum3_any p hf.1 (adv_fine hf.1.2 (prob_fine h0).2.1).1 (adv_fine hf.1.2 (prob_fine h0).2.1).2.1 p.k.toNat 4096 (by have := (prob_fine h0).2.2.2.1; omega) (by have := (prob_fine h0).2.2.2.2; omega) (by decide) A kc SV ks w' h)
  have HB := Lib.hid (fun (h0 : probE p = 0) (h60 : execT p ≤ 60) (w' : World) (h1 : CAt w' w'.heap.size A p.t.cases) (h2 : SAt w' w'.heap.size SV p.a.sts) => built_any p hf h0 h60 A kc SV ks w' h1 h2)
  have HBad := Lib.hid (@buildE_bad p)
  have HMany := Lib.hid (@buildE_many p)
  have HOk := Lib.hid (@buildE_ok p)
  have HNM := Lib.hid (@num_many p)
  have HFX := Lib.hid hf.2
  obtain ⟨R, hR⟩ : ∃ R, buildE p = R := ⟨_, rfl⟩
  rw [hR] at HBad HMany HOk ⊢
  obtain ⟨w1, hw1, d0, d1, hs1, hB1⟩ := cboxes w (p.vs A kc SV ks) #[.int .i64 0, .int .i64 0, .int .i64 0, .slice none 0 0, .int .i64 0, .slice none 0 0, .int .i64 0, .int .i64 0, .slice none 0 0, .slice none 0 0] 29 36
  have HAW := Lib.hid hA
  have HSW := Lib.hid hS
  have HA := Lib.hid ((hA.keep hB1).more hB1.size)
  have HS := Lib.hid ((hS.keep hB1).more hB1.size)
  unfold Pb.vs at hw1 d0 ⊢
  have HW1 := Lib.hid hw1
  have HD0 := Lib.hid d0
  have HD1 := Lib.hid d1
  have HB1 := Lib.hid hB1
  have p0 := blk_cell d0 0 rfl
  have p1 := blk_cell d0 1 rfl
  have p2 := blk_cell d0 2 rfl
  have p3 := blk_cell d0 3 rfl
  have p4 := blk_cell d0 4 rfl
  have p5 := blk_cell d0 5 rfl
  have p6 := blk_cell d0 6 rfl
  obtain ⟨E, hE⟩ : ∃ E, probE p = E := ⟨_, rfl⟩
  have HPE := Lib.hid hE
  rw [hE] at HC HBad
  obtain ⟨M, hM⟩ : ∃ M, p.t.cases.length * satN 4096 (cntT p.a p.k.toNat 0) = M := ⟨_, rfl⟩
  have HMM : Hid (numP p = M) := hM
  rw [hM] at HN
  clear hw1 d0 d1 hB1 hA hS hf hR hE hM
  go_enter Tryz.func20, Tryz.ntmps20
  go_wp2_with fail
  rw [HW1.out]
  go_wp2_with fail
  refine (HC.out w1 HA.out HS.out).mono ?_
  rintro e w2 ⟨rfl, hb2⟩
  have B2 := Lib.hid (HB1.out.trans (hb2.mono (by omega)))
  have HA2 := Lib.hid ((HA.out.keep hb2).more hb2.size)
  have HS2 := Lib.hid ((HS.out.keep hb2).more hb2.size)
  have hs2 := hb2.size
  have d0 := (hb2.block _ (blk_lt HD0.out)).trans HD0.out
  have d1 := (hb2.block _ (blk_lt HD1.out)).trans HD1.out
  have HE0 := Lib.hid d0
  have HE1 := Lib.hid d1
  clear hb2 HC HW1 HD0 HD1 HA HS p0 p1 p2 p3 p4 p5 p6
  have p0 := blk_cell d0 0 rfl
  have p1 := blk_cell d0 1 rfl
  have p2 := blk_cell d0 2 rfl
  have p3 := blk_cell d0 3 rfl
  have p4 := blk_cell d0 4 rfl
  have p5 := blk_cell d0 5 rfl
  have p6 := blk_cell d0 6 rfl
  by_cases h0 : E = 0
  case neg =>
    have hR := Lib.hid (HBad.out h0)
    have e0 : (E != 0) = true := by simpa using h0
    have y0 := blk_cell d1 0 rfl
    have f0 := blk_froz d1 0
    have y1 := blk_cell d1 1 rfl
    have f1 := blk_froz d1 1
    have y2 := blk_cell d1 2 rfl
    have f2 := blk_froz d1 2
    have y3 := blk_cell d1 3 rfl
    have f3 := blk_froz d1 3
    have y4 := blk_cell d1 4 rfl
    have f4 := blk_froz d1 4
    have y5 := blk_cell d1 5 rfl
    have f5 := blk_froz d1 5
    have y6 := blk_cell d1 6 rfl
    have f6 := blk_froz d1 6
    have y7 := blk_cell d1 7 rfl
    have f7 := blk_froz d1 7
    have y8 := blk_cell d1 8 rfl
    have f8 := blk_froz d1 8
    have y9 := blk_cell d1 9 rfl
    have f9 := blk_froz d1 9
    obtain ⟨k1, k2, k3⟩ := sys_store10 (.int .i64 0) (.int .i64 0) (.int .i64 0) (.slice none 0 0) (.int .i64 0) (.slice none 0 0) (.int .i64 0) (.int .i64 0) (.slice none 0 0) (.slice none 0 0) d1 B2.out (by omega : w.heap.size ≤ w.heap.size + 1)
    obtain ⟨WF, hWF⟩ : ∃ WF, ((((((((((w2.setCell ⟨w.heap.size + 1, 0, none⟩ (.int .i64 0)).setCell ⟨w.heap.size + 1, 1, none⟩ (.int .i64 0)).setCell ⟨w.heap.size + 1, 2, none⟩ (.int .i64 0)).setCell ⟨w.heap.size + 1, 3, none⟩ (.slice none 0 0)).setCell ⟨w.heap.size + 1, 4, none⟩ (.int .i64 0)).setCell ⟨w.heap.size + 1, 5, none⟩ (.slice none 0 0)).setCell ⟨w.heap.size + 1, 6, none⟩ (.int .i64 0)).setCell ⟨w.heap.size + 1, 7, none⟩ (.int .i64 0)).setCell ⟨w.heap.size + 1, 8, none⟩ (.slice none 0 0)).setCell ⟨w.heap.size + 1, 9, none⟩ (.slice none 0 0)) = WF := ⟨_, rfl⟩
    rw [hWF] at k1 k2 k3
    have HK1 := Lib.hid k1
    have HK2 := Lib.hid k2
    have HK3 := Lib.hid k3
    have HWF := Lib.hid hWF
    clear k1 k2 k3 hWF
    clear HMany HOk HNM HN HB HFX h0 d0 d1
    go_wp2_with fail
    rw [HWF.out]
    have z0 := blk_cell HK1.out 0 rfl
    have z1 := blk_cell HK1.out 1 rfl
    have z2 := blk_cell HK1.out 2 rfl
    have z3 := blk_cell HK1.out 3 rfl
    have z4 := blk_cell HK1.out 4 rfl
    have z5 := blk_cell HK1.out 5 rfl
    have z6 := blk_cell HK1.out 6 rfl
    have z7 := blk_cell HK1.out 7 rfl
    have z8 := blk_cell HK1.out 8 rfl
    have z9 := blk_cell HK1.out 9 rfl
    refine bodyPost_ret (v := .tuple #[.agg #[.int .i64 0, .int .i64 0, .int .i64 0, .slice none 0 0, .int .i64 0, .slice none 0 0, .int .i64 0, .int .i64 0, .slice none 0 0, .slice none 0 0], .int .i64 E]) (by simp [results, Tryz.results20, go_sem, z0, z1, z2, z3, z4, z5, z6, z7, z8, z9]) rfl ?_
    rw [hR.out]
    exact RetSys.zero _ HK2.out
  case pos =>
  subst h0
  clear HBad
  go_wp2_with fail
  refine (HN.out w2 HPE.out HS2.out).mono ?_
  rintro e w3 ⟨rfl, hb3⟩
  have B3 := Lib.hid (B2.out.trans (hb3.mono (by omega)))
  have HA3 := Lib.hid ((HA2.out.keep hb3).more hb3.size)
  have HS3 := Lib.hid ((HS2.out.keep hb3).more hb3.size)
  have hs3 := hb3.size
  have d0 := (hb3.block _ (blk_lt HE0.out)).trans HE0.out
  have d1 := (hb3.block _ (blk_lt HE1.out)).trans HE1.out
  have HF0 := Lib.hid d0
  have HF1 := Lib.hid d1
  clear hb3 HN HE0 HE1 HA2 HS2 p0 p1 p2 p3 p4 p5 p6
  by_cases hm : 4096 < M
  case pos =>
    have hR := Lib.hid (HMany.out HPE.out ((HNM.out HPE.out).1 (by rw [HMM.out]; exact hm)))
    have hmi : (4096 : Int) < (M : Int) := by omega
    have y0 := blk_cell d1 0 rfl
    have f0 := blk_froz d1 0
    have y1 := blk_cell d1 1 rfl
    have f1 := blk_froz d1 1
    have y2 := blk_cell d1 2 rfl
    have f2 := blk_froz d1 2
    have y3 := blk_cell d1 3 rfl
    have f3 := blk_froz d1 3
    have y4 := blk_cell d1 4 rfl
    have f4 := blk_froz d1 4
    have y5 := blk_cell d1 5 rfl
    have f5 := blk_froz d1 5
    have y6 := blk_cell d1 6 rfl
    have f6 := blk_froz d1 6
    have y7 := blk_cell d1 7 rfl
    have f7 := blk_froz d1 7
    have y8 := blk_cell d1 8 rfl
    have f8 := blk_froz d1 8
    have y9 := blk_cell d1 9 rfl
    have f9 := blk_froz d1 9
    obtain ⟨k1, k2, k3⟩ := sys_store10 (.int .i64 0) (.int .i64 0) (.int .i64 0) (.slice none 0 0) (.int .i64 0) (.slice none 0 0) (.int .i64 0) (.int .i64 0) (.slice none 0 0) (.slice none 0 0) d1 B3.out (by omega : w.heap.size ≤ w.heap.size + 1)
    obtain ⟨WF, hWF⟩ : ∃ WF, ((((((((((w3.setCell ⟨w.heap.size + 1, 0, none⟩ (.int .i64 0)).setCell ⟨w.heap.size + 1, 1, none⟩ (.int .i64 0)).setCell ⟨w.heap.size + 1, 2, none⟩ (.int .i64 0)).setCell ⟨w.heap.size + 1, 3, none⟩ (.slice none 0 0)).setCell ⟨w.heap.size + 1, 4, none⟩ (.int .i64 0)).setCell ⟨w.heap.size + 1, 5, none⟩ (.slice none 0 0)).setCell ⟨w.heap.size + 1, 6, none⟩ (.int .i64 0)).setCell ⟨w.heap.size + 1, 7, none⟩ (.int .i64 0)).setCell ⟨w.heap.size + 1, 8, none⟩ (.slice none 0 0)).setCell ⟨w.heap.size + 1, 9, none⟩ (.slice none 0 0)) = WF := ⟨_, rfl⟩
    rw [hWF] at k1 k2 k3
    have HK1 := Lib.hid k1
    have HK2 := Lib.hid k2
    have HK3 := Lib.hid k3
    have HWF := Lib.hid hWF
    clear k1 k2 k3 hWF
    clear HMany HOk HNM HB HFX d0 d1
    go_wp2_with fail
    rw [HWF.out]
    have z0 := blk_cell HK1.out 0 rfl
    have z1 := blk_cell HK1.out 1 rfl
    have z2 := blk_cell HK1.out 2 rfl
    have z3 := blk_cell HK1.out 3 rfl
    have z4 := blk_cell HK1.out 4 rfl
    have z5 := blk_cell HK1.out 5 rfl
    have z6 := blk_cell HK1.out 6 rfl
    have z7 := blk_cell HK1.out 7 rfl
    have z8 := blk_cell HK1.out 8 rfl
    have z9 := blk_cell HK1.out 9 rfl
    refine bodyPost_ret (v := .tuple #[.agg #[.int .i64 0, .int .i64 0, .int .i64 0, .slice none 0 0, .int .i64 0, .slice none 0 0, .int .i64 0, .int .i64 0, .slice none 0 0, .slice none 0 0], .int .i64 17]) (by simp [results, Tryz.results20, go_sem, z0, z1, z2, z3, z4, z5, z6, z7, z8, z9]) rfl ?_
    rw [hR.out]
    exact RetSys.zero _ HK2.out
  case neg =>
  have hex : ¬ (4096 < execT p) := fun h => hm (by rw [← HMM.out]; exact (HNM.out HPE.out).2 h)
  have h60 : execT p ≤ 60 := by
    rcases HFX.out HPE.out with h | h
    · exact h
    · exact absurd h hex
  have hR := Lib.hid (HOk.out HPE.out (by omega))
  have hmi : ¬ ((4096 : Int) < (M : Int)) := by omega
  have HB' := Lib.hid (HB.out HPE.out h60 w3 HA3.out HS3.out)
  have HFW := Lib.hid (run_all p HPE.out h60).1
  have p0 := blk_cell d0 0 rfl
  have p1 := blk_cell d0 1 rfl
  have p2 := blk_cell d0 2 rfl
  have p3 := blk_cell d0 3 rfl
  have p4 := blk_cell d0 4 rfl
  have p5 := blk_cell d0 5 rfl
  have p6 := blk_cell d0 6 rfl
  clear HMany HOk HNM HB HFX hex h60 d0 d1 HMM
  go_wp2_with fail
  all_goals first | (exfalso; omega) | skip
  refine HB'.out.mono ?_
  rintro e w4 ⟨AV, kv, AE, ke, rfl, hV, hX, hb4⟩
  have B4 := Lib.hid (B3.out.trans (hb4.mono (by omega)))
  have HVO := Lib.hid hV
  have HXO := Lib.hid hX
  have hs4 := hb4.size
  have d1 := (hb4.block _ (blk_lt HF1.out)).trans HF1.out
  have HG1 := Lib.hid d1
  have HA4 := Lib.hid ((HA3.out.keep hb4).more hb4.size)
  have HS4 := Lib.hid ((HS3.out.keep hb4).more hb4.size)
  clear hV hX hb4 HB' HF0 HF1 p0 p1 p2 p3 p4 p5 p6 d1
  obtain ⟨W5, hW5, b5, hs5, hB5⟩ := onebox w4 #[.int .i64 p.t.n, .int .i64 p.t.ins, .int .i64 p.t.outs, .slice A p.t.cases.length kc, .int .i64 p.a.n, .slice SV p.a.sts.length ks, .int .i64 p.k, .int .i64 p.t.n, .slice AV (runW p (pairsE p)).1.length kv, .slice AE (runW p (pairsE p)).2.length ke] 36
  have d1 := (hB5.block _ (blk_lt HG1.out)).trans HG1.out
  have B5 := Lib.hid (B4.out.trans (hB5.mono (by omega)))
  have HB5 := Lib.hid hB5
  have HW5 := Lib.hid hW5
  have x0 := blk_cell b5 0 rfl
  have x1 := blk_cell b5 1 rfl
  have x2 := blk_cell b5 2 rfl
  have x3 := blk_cell b5 3 rfl
  have x4 := blk_cell b5 4 rfl
  have x5 := blk_cell b5 5 rfl
  have x6 := blk_cell b5 6 rfl
  have x7 := blk_cell b5 7 rfl
  have x8 := blk_cell b5 8 rfl
  have x9 := blk_cell b5 9 rfl
  have hfv : ¬ ((8192 : Int) < ((runW p (pairsE p)).1.length : Int)) := by have := HFW.out; omega
  clear hW5 hB5 b5
  go_simp
  rename_i hKK
  refine hKK _ _ ?_
  clear hKK
  refine wpList_plain rfl fun K5 hK5 => ?_
  go_simp
  refine hK5 _ _ ?_
  clear hK5 K5
  refine wpList_plain rfl fun K5 hK5 => ?_
  go_simp
  rw [HW5.out]
  refine hK5 _ _ ?_
  clear hK5 K5 HW5
  have y0 := blk_cell d1 0 rfl
  have f0 := blk_froz d1 0
  have y1 := blk_cell d1 1 rfl
  have f1 := blk_froz d1 1
  have y2 := blk_cell d1 2 rfl
  have f2 := blk_froz d1 2
  have y3 := blk_cell d1 3 rfl
  have f3 := blk_froz d1 3
  have y4 := blk_cell d1 4 rfl
  have f4 := blk_froz d1 4
  have y5 := blk_cell d1 5 rfl
  have f5 := blk_froz d1 5
  have y6 := blk_cell d1 6 rfl
  have f6 := blk_froz d1 6
  have y7 := blk_cell d1 7 rfl
  have f7 := blk_froz d1 7
  have y8 := blk_cell d1 8 rfl
  have f8 := blk_froz d1 8
  have y9 := blk_cell d1 9 rfl
  have f9 := blk_froz d1 9
  obtain ⟨k1, k2, k3⟩ := sys_store10 (.int .i64 p.t.n) (.int .i64 p.t.ins) (.int .i64 p.t.outs) (.slice A p.t.cases.length kc) (.int .i64 p.a.n) (.slice SV p.a.sts.length ks) (.int .i64 p.k) (.int .i64 p.t.n) (.slice AV (runW p (pairsE p)).1.length kv) (.slice AE (runW p (pairsE p)).2.length ke) d1 B5.out (by omega : w.heap.size ≤ w.heap.size + 1)
  obtain ⟨WF, hWF⟩ : ∃ WF, ((((((((((W5.setCell ⟨w.heap.size + 1, 0, none⟩ (.int .i64 p.t.n)).setCell ⟨w.heap.size + 1, 1, none⟩ (.int .i64 p.t.ins)).setCell ⟨w.heap.size + 1, 2, none⟩ (.int .i64 p.t.outs)).setCell ⟨w.heap.size + 1, 3, none⟩ (.slice A p.t.cases.length kc)).setCell ⟨w.heap.size + 1, 4, none⟩ (.int .i64 p.a.n)).setCell ⟨w.heap.size + 1, 5, none⟩ (.slice SV p.a.sts.length ks)).setCell ⟨w.heap.size + 1, 6, none⟩ (.int .i64 p.k)).setCell ⟨w.heap.size + 1, 7, none⟩ (.int .i64 p.t.n)).setCell ⟨w.heap.size + 1, 8, none⟩ (.slice AV (runW p (pairsE p)).1.length kv)).setCell ⟨w.heap.size + 1, 9, none⟩ (.slice AE (runW p (pairsE p)).2.length ke)) = WF := ⟨_, rfl⟩
  rw [hWF] at k1 k2 k3
  have HK1 := Lib.hid k1
  have HK2 := Lib.hid k2
  have HK3 := Lib.hid k3
  have HWF := Lib.hid hWF
  clear k1 k2 k3 hWF
  clear d1
  go_wp2_with fail
  rw [HWF.out]
  have z0 := blk_cell HK1.out 0 rfl
  have z1 := blk_cell HK1.out 1 rfl
  have z2 := blk_cell HK1.out 2 rfl
  have z3 := blk_cell HK1.out 3 rfl
  have z4 := blk_cell HK1.out 4 rfl
  have z5 := blk_cell HK1.out 5 rfl
  have z6 := blk_cell HK1.out 6 rfl
  have z7 := blk_cell HK1.out 7 rfl
  have z8 := blk_cell HK1.out 8 rfl
  have z9 := blk_cell HK1.out 9 rfl
  refine bodyPost_ret (v := .tuple #[.agg #[.int .i64 p.t.n, .int .i64 p.t.ins, .int .i64 p.t.outs, .slice A p.t.cases.length kc, .int .i64 p.a.n, .slice SV p.a.sts.length ks, .int .i64 p.k, .int .i64 p.t.n, .slice AV (runW p (pairsE p)).1.length kv, .slice AE (runW p (pairsE p)).2.length ke], .int .i64 0]) (by simp [results, Tryz.results20, go_sem, z0, z1, z2, z3, z4, z5, z6, z7, z8, z9]) rfl ?_
  rw [hR.out]
  have hsame : ∀ k, k ≠ w.heap.size + 1 → k < w4.heap.size → WF.heap[k]? = w4.heap[k]? := fun k a b => (HK3.out.2.1 k a).trans (HB5.out.block k b)
  have hz : w4.heap.size ≤ WF.heap.size := by have := HB5.out.size; have := HK3.out.2.2; omega
  obtain ⟨AV', kv', eV, hT⟩ := (HVO.out.of_same fun k hk => hsame k (by have := (HVO.out.lt' k hk).1; omega) (HVO.out.lt' k hk).2).form (by have := HFW.out; omega)
  cases eV
  obtain ⟨AE', ke', eE, _, _, hXA⟩ := cXn_form (HXO.out.keep cXn_ok ⟨hz, fun k hs hl => hsame k (by omega) hl⟩ fun k hk => hsame k (by have := (HXO.out.lt k hk).1; omega) (HXO.out.lt k hk).2)
  cases eE
  exact ⟨A, kc, SV, ks, AV, kv, AE, ke, rfl, ⟨(HAW.out.keep HK2.out).more HK2.out.size, (HSW.out.keep HK2.out).more HK2.out.size, hT.rows, hXA⟩, hT.lec, hT.lem, HK2.out⟩
end Go.Proofs.YtnikmmdadflefaaGreatDoor
namespace Go.Proofs.YtnikmmdadflefaaGreatDoor
open Go.RowKit
attribute [local go_sem] Oper.semAt_some
set_option maxRecDepth 100000 in
set_option maxHeartbeats 4000000 in
theorem rver_any (s : Sy) (hs : LowS s) (hf : FewX s.p) (A SV AV AX : Option Addr) (kc ks kv kx : Nat) (w : World) (hS : SyAt w w.heap.size A SV AV AX s) :
    Calls Tryz.prog 26 #[.agg (s.vs_ A kc SV ks AV kv AX kx)] w fun e w' => e = .returned (.int .i64 (verE s)) ∧ Below w.heap.size w w' := by
  obtain ⟨w1, hw1⟩ : ∃ w1, w.alloc (.cells (s.vs_ A kc SV ks AV kv AX kx) 36) = w1 := ⟨_, rfl⟩
  have hbb := blk_new w (.cells (s.vs_ A kc SV ks AV kv AX kx) 36)
  have hb01 : Below w.heap.size w w1 := by rw [← hw1]; exact bel1 w _
  have hsz1 : w1.heap.size = w.heap.size + 1 := by rw [← hw1]; simp
  rw [hw1] at hbb
  have HS1 := Lib.hid (hS.up hb01)
  have HB := Lib.hid (rbuild_any s.p hf A kc SV ks w1 (hS.up hb01).fc (hS.up hb01).fs)
  have HLB := Lib.hid (built_low hs.fp hf)
  have HLS := Lib.hid hs
  have HVE : Hid (verE s = if (buildE s.p).2 ≠ 0 then (buildE s.p).2 else if s = (buildE s.p).1 then 0 else 3) := rfl
  have HBO := Lib.hid (fun (h : (buildE s.p).2 = 0) => (by
    by_cases h0 : probE s.p = 0
    case neg => rw [buildE_bad h0] at h; exact absurd h h0
    case pos =>
      by_cases h1 : 4096 < execT s.p
      · rw [buildE_many h0 h1] at h; cases h
      · rw [buildE_ok h0 (by omega)]; exact ⟨rfl, rfl⟩ : (buildE s.p).1.p = s.p ∧ (buildE s.p).1.n = s.p.t.n))
  unfold Sy.vs_ at hw1 hbb ⊢
  unfold Pb.vs at HB
  have HW1 := Lib.hid hw1
  have HBB := Lib.hid hbb
  have HB01 := Lib.hid hb01
  have p0 := blk_cell hbb 0 rfl
  have p1 := blk_cell hbb 1 rfl
  have p2 := blk_cell hbb 2 rfl
  have p3 := blk_cell hbb 3 rfl
  have p4 := blk_cell hbb 4 rfl
  have p5 := blk_cell hbb 5 rfl
  have p6 := blk_cell hbb 6 rfl
  obtain ⟨R, hR⟩ : ∃ R, buildE s.p = R := ⟨_, rfl⟩
  rw [hR] at HB HLB HVE HBO
  obtain ⟨r, hr⟩ : ∃ r, verE s = r := ⟨_, rfl⟩
  rw [hr] at HVE ⊢
  clear hw1 hbb hb01 hS hs hf hR hr
  go_enter Tryz.func26, Tryz.ntmps26
  go_wp2_with fail
  rw [HW1.out]
  go_wp2_with fail
  refine HB.out.mono ?_
  rintro e w2 ⟨A2, kc2, SV2, ks2, AV2, kv2, AX2, kx2, rfl, hS2, hv1, hv2, hb2⟩
  obtain ⟨T, E⟩ := R
  obtain ⟨W3, hW3, b3, hs3, hB3⟩ := onebox w2 (T.vs_ A2 kc2 SV2 ks2 AV2 kv2 AX2 kx2) 36
  have HS3 := Lib.hid (hS2.up hB3)
  have HB3 := Lib.hid (HB01.out.trans ((hb2.trans (hB3.mono hb2.size)).mono (by omega)))
  have hs2 := hb2.size
  have d0 := (hB3.block _ (by omega : w.heap.size < w2.heap.size)).trans ((hb2.block _ (by omega : w.heap.size < w1.heap.size)).trans HBB.out)
  have HS13 := Lib.hid ((HS1.out.up hb2).up hB3)
  unfold Sy.vs_ at hW3 b3 ⊢
  have HW3 := Lib.hid hW3
  have HD0 := Lib.hid d0
  have HD3 := Lib.hid b3
  clear hb2 hS2 hv1 hv2 hB3 hW3 HB HW1 p0 p1 p2 p3 p4 p5 p6 HS1 HBB
  dsimp only at HVE HBO HLB HS3
  go_simp
  rename_i hKK
  refine hKK _ _ ?_
  clear hKK
  refine wpList_plain rfl fun K5 hK5 => ?_
  go_simp
  refine hK5 _ _ ?_
  clear hK5 K5
  refine wpList_plain rfl fun K5 hK5 => ?_
  go_simp
  refine hK5 _ _ ?_
  clear hK5 K5
  refine wpList_plain rfl fun K5 hK5 => ?_
  go_simp
  refine hK5 _ _ ?_
  clear hK5 K5
  refine wpList_plain rfl fun K5 hK5 => ?_
  go_simp
  refine hK5 _ _ ?_
  clear hK5 K5
  refine wpList_plain rfl fun K5 hK5 => ?_
  go_simp
  rw [HW3.out]
  refine hK5 _ _ ?_
  clear hK5 K5
  by_cases h0 : E = 0
  case neg =>
    have e0 : (E != 0) = true := by simpa using h0
    have hR : Hid (r = E) := HVE.out.trans (if_pos h0)
    clear HVE HBO h0 d0 b3
    go_wp2_with fail
    go_ret
    exact ⟨ret_int hR.out.symm, HB3.out⟩
  case pos =>
  subst h0
  obtain ⟨hTp, hTn⟩ := HBO.out rfl
  have hVE : r = if s = T then 0 else 3 := HVE.out.trans (if_neg (by simp))
  have H3 : Hid (s ≠ T → r = 3) := fun h => hVE.trans (if_neg h)
  have H0 : Hid (s = T → r = 0) := fun h => hVE.trans (if_pos h)
  have HTP := Lib.hid hTp
  have HEQ := Lib.hid (@sy_eq s T)
  have HSM := Lib.hid (rsameS_any s T HLS.out HLB.out A SV AV AX A2 SV2 AV2 AX2 kc ks kv kx kc2 ks2 kv2 kx2 W3 HS13.out HS3.out)
  have x0 : W3.cell? ⟨w.heap.size, 0, none⟩ = some (.int .i64 s.p.t.n) := blk_cell d0 0 rfl
  have y0 : W3.cell? ⟨w2.heap.size, 0, none⟩ = some (.int .i64 T.p.t.n) := blk_cell b3 0 rfl
  have x1 : W3.cell? ⟨w.heap.size, 1, none⟩ = some (.int .i64 s.p.t.ins) := blk_cell d0 1 rfl
  have y1 : W3.cell? ⟨w2.heap.size, 1, none⟩ = some (.int .i64 T.p.t.ins) := blk_cell b3 1 rfl
  have x2 : W3.cell? ⟨w.heap.size, 2, none⟩ = some (.int .i64 s.p.t.outs) := blk_cell d0 2 rfl
  have y2 : W3.cell? ⟨w2.heap.size, 2, none⟩ = some (.int .i64 T.p.t.outs) := blk_cell b3 2 rfl
  have x3 : W3.cell? ⟨w.heap.size, 3, none⟩ = some (.slice A s.p.t.cases.length kc) := blk_cell d0 3 rfl
  have y3 : W3.cell? ⟨w2.heap.size, 3, none⟩ = some (.slice A2 T.p.t.cases.length kc2) := blk_cell b3 3 rfl
  have x4 : W3.cell? ⟨w.heap.size, 4, none⟩ = some (.int .i64 s.p.a.n) := blk_cell d0 4 rfl
  have y4 : W3.cell? ⟨w2.heap.size, 4, none⟩ = some (.int .i64 T.p.a.n) := blk_cell b3 4 rfl
  have x5 : W3.cell? ⟨w.heap.size, 5, none⟩ = some (.slice SV s.p.a.sts.length ks) := blk_cell d0 5 rfl
  have y5 : W3.cell? ⟨w2.heap.size, 5, none⟩ = some (.slice SV2 T.p.a.sts.length ks2) := blk_cell b3 5 rfl
  have x6 : W3.cell? ⟨w.heap.size, 6, none⟩ = some (.int .i64 s.p.k) := blk_cell d0 6 rfl
  have y6 : W3.cell? ⟨w2.heap.size, 6, none⟩ = some (.int .i64 T.p.k) := blk_cell b3 6 rfl
  have x7 : W3.cell? ⟨w.heap.size, 7, none⟩ = some (.int .i64 s.n) := blk_cell d0 7 rfl
  have y7 : W3.cell? ⟨w2.heap.size, 7, none⟩ = some (.int .i64 T.n) := blk_cell b3 7 rfl
  have x8 : W3.cell? ⟨w.heap.size, 8, none⟩ = some (.slice AV s.vs.length kv) := blk_cell d0 8 rfl
  have y8 : W3.cell? ⟨w2.heap.size, 8, none⟩ = some (.slice AV2 T.vs.length kv2) := blk_cell b3 8 rfl
  have x9 : W3.cell? ⟨w.heap.size, 9, none⟩ = some (.slice AX s.xs.length kx) := blk_cell d0 9 rfl
  have y9 : W3.cell? ⟨w2.heap.size, 9, none⟩ = some (.slice AX2 T.xs.length kx2) := blk_cell b3 9 rfl
  unfold Sy.vs_ at HSM
  clear hTp hTn hVE HVE HBO d0 b3 HLB HLS HTP HEQ
  go_wp2_with fail
  refine HSM.out.mono ?_
  rintro e w4 ⟨rfl, hb4⟩
  have B4 := Lib.hid (HB3.out.trans (hb4.mono (by omega)))
  clear hb4 HSM x0 x1 x2 x3 x4 x5 x6 x7 x8 x9 y0 y1 y2 y3 y4 y5 y6 y7 y8 y9
  by_cases h2 : s = T
  case neg =>
    have hR := Lib.hid (H3.out h2)
    rw [decide_eq_false h2]
    clear H3 H0 h2
    go_wp2_with fail
    go_ret
    exact ⟨ret_int hR.out.symm, B4.out⟩
  case pos =>
    have hR := Lib.hid (H0.out h2)
    rw [decide_eq_true h2]
    clear H3 H0 h2
    go_wp2_with fail
    go_ret
    exact ⟨ret_int hR.out.symm, B4.out⟩
def rightB (p : Pb) : Bool := fewPB p && decide ((buildE p).2 = 0)
set_option maxRecDepth 100000 in
set_option maxHeartbeats 4000000 in
theorem right_any (p : Pb) (hl : LowP p) (A : Option Addr) (kc : Nat) (SV : Option Addr) (ks : Nat) (w : World) (hA : CAt w w.heap.size A p.t.cases) (hS : SAt w w.heap.size SV p.a.sts) :
    Calls Tryz.prog 47 #[.agg (p.vs A kc SV ks)] w fun e w' => e = .returned (.bool (rightB p)) ∧ Below w.heap.size w w' := by
  obtain ⟨w1, hw1⟩ : ∃ w1, w.alloc (.cells (p.vs A kc SV ks) 29) = w1 := ⟨_, rfl⟩
  have hbb := blk_new w (.cells (p.vs A kc SV ks) 29)
  have hb01 : Below w.heap.size w w1 := by rw [← hw1]; exact bel1 w _
  have hsz1 : w1.heap.size = w.heap.size + 1 := by rw [← hw1]; simp
  rw [hw1] at hbb
  have HF := Lib.hid (few_any p hl A kc SV ks w1 ((hA.keep hb01).more hb01.size) ((hS.keep hb01).more hb01.size))
  have HBD := Lib.hid (fun (h : fewPB p = true) (X : World) (hX : Below w1.heap.size w1 X) => rbuild_any p (few_x h).1 A kc SV ks X ((((hA.keep hb01).more hb01.size).keep hX).more hX.size) ((((hS.keep hb01).more hb01.size).keep hX).more hX.size))
  have HRB : Hid (rightB p = (fewPB p && decide ((buildE p).2 = 0))) := rfl
  obtain ⟨r, hr⟩ : ∃ r, rightB p = r := ⟨_, rfl⟩
  rw [hr] at HRB ⊢
  obtain ⟨R, hR⟩ : ∃ R, buildE p = R := ⟨_, rfl⟩
  rw [hR] at HBD HRB
  obtain ⟨b, hb⟩ : ∃ b, fewPB p = b := ⟨_, rfl⟩
  rw [hb] at HF HBD HRB
  unfold Pb.vs at hw1 hbb HF HBD ⊢
  have HW1 := Lib.hid hw1
  have HBB := Lib.hid hbb
  have HB01 := Lib.hid hb01
  have p0 := blk_cell hbb 0 rfl
  have p1 := blk_cell hbb 1 rfl
  have p2 := blk_cell hbb 2 rfl
  have p3 := blk_cell hbb 3 rfl
  have p4 := blk_cell hbb 4 rfl
  have p5 := blk_cell hbb 5 rfl
  have p6 := blk_cell hbb 6 rfl
  clear hw1 hbb hb01 hA hS hl hr hR hb
  go_enter Tryz.func47, Tryz.ntmps47
  go_wp2_with fail
  rw [HW1.out]
  go_wp2_with fail
  refine HF.out.mono ?_
  rintro e w2 ⟨rfl, hb2⟩
  have HB2 := Lib.hid (HB01.out.trans (hb2.mono (by omega)))
  have d0 := (hb2.block _ (by omega : w.heap.size < w1.heap.size)).trans HBB.out
  have hs2 := hb2.size
  cases b with
  | false =>
    have hRf : Hid (r = false) := HRB.out
    clear HRB HBD HF p0 p1 p2 p3 p4 p5 p6 d0 hb2 HBB HW1
    go_wp2_with fail
    go_ret
    exact ⟨ret_bool hRf.out.symm, HB2.out⟩
  | true =>
    have HB3 := Lib.hid (HBD.out rfl w2 hb2)
    have hRf : Hid (r = decide (R.2 = 0)) := HRB.out
    clear p0 p1 p2 p3 p4 p5 p6 hb2 HBD HF HBB HW1 HRB
    have p0 := blk_cell d0 0 rfl
    have p1 := blk_cell d0 1 rfl
    have p2 := blk_cell d0 2 rfl
    have p3 := blk_cell d0 3 rfl
    have p4 := blk_cell d0 4 rfl
    have p5 := blk_cell d0 5 rfl
    have p6 := blk_cell d0 6 rfl
    clear d0
    go_wp2_with fail
    refine HB3.out.mono ?_
    rintro e w3 ⟨A2, kc2, SV2, ks2, AV2, kv2, AX2, kx2, rfl, hS2, hv1, hv2, hb3⟩
    obtain ⟨T, E⟩ := R
    have HB4 := Lib.hid (HB2.out.trans ((hb3.trans (bel1 w3 (.cells (T.vs_ A2 kc2 SV2 ks2 AV2 kv2 AX2 kx2) 36) |>.mono hb3.size)).mono (by omega)))
    unfold Sy.vs_ at HB4 ⊢
    clear hb3 hS2 hv1 hv2 HB3 p0 p1 p2 p3 p4 p5 p6
    go_wp2_with fail
    go_ret
    exact ⟨ret_bool (by rw [hRf.out]; first | rfl | exact dec_eq Iff.rfl | (rw [Bool.eq_iff_iff]; simp)), HB4.out⟩
end Go.Proofs.YtnikmmdadflefaaGreatDoor
namespace Go.Proofs.YtnikmmdadflefaaGreatDoor
open Go.RowKit
attribute [local go_sem] Oper.semAt_some
def maskE (N : Nat) (x : Exn) : Int := match x.word.getLast? with
  | none => 2 ^ N - 1
  | some r => bits BinOp.andNot IntKind.i64 (2 ^ N - 1) r.f
theorem mask_none {N : Nat} {x : Exn} (h : x.word.length = 0) : maskE N x = 2 ^ N - 1 := by
  unfold maskE
  rw [List.eq_nil_of_length_eq_zero h]; rfl
theorem mask_last {N : Nat} {x : Exn} {k : Nat} (h : x.word.length = k + 1) : maskE N x = bits BinOp.andNot IntKind.i64 (2 ^ N - 1) (x.word[k]'(by omega)).f := by
  have e : x.word.getLast? = some (x.word[k]'(by omega)) := by
    rw [List.getLast?_eq_getElem?, show x.word.length - 1 = k by omega, List.getElem?_eq_getElem (by omega)]
  unfold maskE
  rw [e]
theorem round_f {r : Rd} (h : roundE r = 0) : ∃ f : Nat, r.f = (f : Int) ∧ f < 32 := faulty_small (m := ⟨r, 0⟩) h
theorem andnot_nat (N f : Nat) (h1 : 1 ≤ N) (h5 : N ≤ 5) (hf : f < 32) : ∃ m : Nat, bits BinOp.andNot IntKind.i64 (2 ^ N - 1) (f : Int) = (m : Int) ∧ m < 32 := by
  have key : ∀ N : Nat, N < 6 → (below32 fun f => decide (0 ≤ bits BinOp.andNot IntKind.i64 ((2 : Int) ^ N - 1) (f : Int) ∧ bits BinOp.andNot IntKind.i64 ((2 : Int) ^ N - 1) (f : Int) < 32)) = true := by decide +kernel
  have h := of_decide_eq_true (of32 (key N (by omega)) hf)
  exact ⟨(bits BinOp.andNot IntKind.i64 ((2 : Int) ^ N - 1) (f : Int)).toNat, by omega, by omega⟩
theorem mask_nat {N : Nat} {x : Exn} (h1 : 1 ≤ N) (h5 : N ≤ 5) (hx : ∀ r ∈ x.word, roundE r = 0 ∧ r.n = (N : Int)) : ∃ m : Nat, maskE N x = (m : Int) ∧ m < 32 := by
  rcases Nat.eq_zero_or_pos x.word.length with h | h
  · rw [mask_none h]
    have key : ∀ N : Nat, N < 6 → (0 : Int) ≤ 2 ^ N - 1 ∧ (2 : Int) ^ N - 1 < 32 := by decide
    obtain ⟨a, b⟩ := key N (by omega)
    exact ⟨((2 : Int) ^ N - 1).toNat, by omega, by omega⟩
  · obtain ⟨k, hk⟩ : ∃ k, x.word.length = k + 1 := ⟨x.word.length - 1, by omega⟩
    rw [mask_last hk]
    obtain ⟨f, e, hf⟩ := round_f (hx _ (List.getElem_mem (by omega : k < x.word.length))).1
    rw [e]
    exact andnot_nat N f h1 h5 hf
set_option maxRecDepth 100000 in
set_option maxHeartbeats 2000000 in
theorem obliged_any (s : Sy) (K N : Nat) (hF : Fine s K N) (x : Exn) (hx : x ∈ s.xs) (A SV AV AX A1 A2 : Option Addr) (kc ks kv kx a1 a2 : Nat) (w : World) (hW : RAt w w.heap.size A1 x.word) :
    Calls Tryz.prog 79 #[.agg (s.vs_ A kc SV ks AV kv AX kx), .agg #[.int .i64 x.c, .slice A1 x.word.length a1, .slice A2 x.views.length a2]] w fun e w' => e = .returned (.int .i64 (maskE N x)) ∧ Below w.heap.size w w' := by
  obtain ⟨w1, hw1, d0, d1, hs1, hB⟩ := cboxes w (s.vs_ A kc SV ks AV kv AX kx) #[.int .i64 x.c, .slice A1 x.word.length a1, .slice A2 x.views.length a2] 36 42
  have hW1 := (hW.keep hB).more hB.size
  obtain ⟨nz, hn⟩ : ∃ nz, s.n = nz := ⟨_, rfl⟩
  have h15 : (N = 1 ∧ nz = 1) ∨ (N = 2 ∧ nz = 2) ∨ (N = 3 ∧ nz = 3) ∨ (N = 4 ∧ nz = 4) ∨ (N = 5 ∧ nz = 5) := by have := hF.n1; have := hF.n5; have := hF.n; omega
  have hk6 := hF.k6
  obtain ⟨hwl, hwf⟩ := hF.word x hx
  unfold Sy.vs_ at hw1 d0 ⊢
  rw [hn] at hw1 d0 ⊢
  have HW1 := Lib.hid hw1
  have HB := Lib.hid hB
  have x7 : w1.cell? ⟨w.heap.size, 7, none⟩ = some (.int .i64 nz) := blk_cell d0 7 rfl
  have y1 : w1.cell? ⟨w.heap.size + 1, 1, none⟩ = some (.slice A1 x.word.length a1) := blk_cell d1 1 rfl
  obtain ⟨M, hM⟩ : ∃ M, maskE N x = M := ⟨_, rfl⟩
  rw [hM]
  have HM := Lib.hid hM
  clear hM hn hw1 d0 d1 hB hF hx
  rcases Nat.eq_zero_or_pos x.word.length with h0 | h0
  · have HM0 : Hid (2 ^ N - 1 = M) := (mask_none h0).symm.trans HM.out
    have h0' : ¬ ((0 : Int) < (x.word.length : Int)) := by omega
    clear HM hwf hwl hW1 hW
    obtain ⟨L, hL⟩ : ∃ L, x.word.length = L := ⟨_, rfl⟩
    rw [hL] at h0' y1 HW1 ⊢
    clear hL h0
    rcases h15 with ⟨rfl, rfl⟩ | ⟨rfl, rfl⟩ | ⟨rfl, rfl⟩ | ⟨rfl, rfl⟩ | ⟨rfl, rfl⟩
    all_goals
      go_enter Tryz.func79, Tryz.ntmps79
      go_wp2_with fail
      rw [HW1.out]
      go_wp2_with fail
      all_goals first | (exfalso; omega) | skip
      go_ret
      exact ⟨ret_int (by rw [← HM0.out]; rfl), HB.out⟩
  · obtain ⟨k, hk⟩ : ∃ k, x.word.length = k + 1 := ⟨x.word.length - 1, by omega⟩
    have HM0 : Hid (bits BinOp.andNot IntKind.i64 (2 ^ N - 1) (x.word[k]'(by omega)).f = M) := (mask_last hk).symm.trans HM.out
    obtain ⟨b, o, eA, hb, t0, t1, t2, t3, t4, t5, r6⟩ := hW.row k (by omega)
    clear t0 t1 t2 t3 t4 t5
    subst eA
    obtain ⟨f, ef, hf⟩ := round_f (hwf _ (List.getElem_mem (by omega : k < x.word.length))).1
    rw [ef] at r6 HM0
    have hsub : IntKind.i64.wrap (((k + 1 : Nat) : Int) - 1) = (k : Int) := by rw [IntKind.wrap_i64]; omega
    rw [hk] at y1 HW1 ⊢
    obtain ⟨L, hL⟩ : ∃ L, k + 1 = L := ⟨_, rfl⟩
    rw [hL] at y1 HW1 hsub ⊢
    have hL0 : (0 : Int) < (L : Int) := by omega
    have hkL : (k : Int) < (L : Int) := by omega
    have hk0 : (0 : Int) ≤ (k : Int) := by omega
    clear hL HM hwf hwl hW1 hW h0 hk ef y1 x7 HW1 HB
    rcases h15 with ⟨rfl, rfl⟩ | ⟨rfl, rfl⟩ | ⟨rfl, rfl⟩ | ⟨rfl, rfl⟩ | ⟨rfl, rfl⟩
    all_goals
      go_enter Tryz.func79, Tryz.ntmps79
      go_wp2_with fail
      all_goals first | (exfalso; omega) | skip
      go_ret
      exact ⟨ret_int HM0.out, bel2 w _ _⟩
def viewxE (s : Sy) (i : Int) : Int := if verE s ≠ 0 then verE s else if i < 0 ∨ (s.vs.length : Int) ≤ i then 6 else 0
set_option maxRecDepth 100000 in
set_option maxHeartbeats 2000000 in
theorem view_any (s : Sy) (hs : LowS s) (hf : FewX s.p) (i : Int) (A SV AV AX : Option Addr) (kc ks kv kx : Nat) (w : World) (hS : SyAt w w.heap.size A SV AV AX s) :
    Calls Tryz.prog 81 #[.agg (s.vs_ A kc SV ks AV kv AX kx), .int .i64 i] w fun e w' => e = .returned (.int .i64 (viewxE s i)) ∧ Below w.heap.size w w' := by
  obtain ⟨w1, hw1, d0, hs1, hB⟩ := onebox w (s.vs_ A kc SV ks AV kv AX kx) 36
  have HV := Lib.hid (ver_any s hs hf A SV AV AX kc ks kv kx w1 (hS.up hB))
  have HE : Hid (viewxE s i = if verE s ≠ 0 then verE s else if i < 0 ∨ (s.vs.length : Int) ≤ i then 6 else 0) := rfl
  obtain ⟨r, hr⟩ : ∃ r, viewxE s i = r := ⟨_, rfl⟩
  obtain ⟨E, hE⟩ : ∃ E, verE s = E := ⟨_, rfl⟩
  rw [hE] at HV HE
  rw [hr] at HE ⊢
  unfold Sy.vs_ at hw1 d0 HV ⊢
  have HW1 := Lib.hid hw1
  have HB := Lib.hid hB
  have HD := Lib.hid d0
  have p0 := blk_cell d0 0 rfl
  have p1 := blk_cell d0 1 rfl
  have p2 := blk_cell d0 2 rfl
  have p3 := blk_cell d0 3 rfl
  have p4 := blk_cell d0 4 rfl
  have p5 := blk_cell d0 5 rfl
  have p6 := blk_cell d0 6 rfl
  have p7 := blk_cell d0 7 rfl
  have p8 := blk_cell d0 8 rfl
  have p9 := blk_cell d0 9 rfl
  clear hw1 d0 hB hS hs hf hr hE
  go_enter Tryz.func81, Tryz.ntmps81
  go_wp2_with fail
  rw [HW1.out]
  go_wp2_with fail
  refine HV.out.mono ?_
  rintro e w2 ⟨rfl, hb2⟩
  have HB2 := Lib.hid (HB.out.trans (hb2.mono (by omega)))
  have d0 := (hb2.block _ (by omega : w.heap.size < w1.heap.size)).trans HD.out
  clear p0 p1 p2 p3 p4 p5 p6 p7 p8 p9 hb2 HV HW1
  have p8 : w2.cell? ⟨w.heap.size, 8, none⟩ = some (.slice AV s.vs.length kv) := blk_cell d0 8 rfl
  clear d0
  by_cases h0 : E = 0
  case neg =>
    have hR : Hid (r = E) := HE.out.trans (if_pos h0)
    have e0 : (E != 0) = true := by simpa using h0
    clear HE h0
    go_wp2_with fail
    go_ret
    exact ⟨ret_int hR.out.symm, HB2.out⟩
  case pos =>
  subst h0
  have hR : Hid (r = if i < 0 ∨ (s.vs.length : Int) ≤ i then 6 else 0) := HE.out.trans (if_neg (by simp))
  clear HE
  by_cases h1 : i < 0
  · have hR2 : Hid (r = 6) := hR.out.trans (if_pos (.inl h1))
    clear hR
    go_wp2_with fail
    all_goals first | (exfalso; omega) | skip
    all_goals
      go_ret
      exact ⟨ret_int hR2.out.symm, HB2.out⟩
  by_cases h2 : (s.vs.length : Int) ≤ i
  · have hR2 : Hid (r = 6) := hR.out.trans (if_pos (.inr h2))
    clear hR
    go_wp2_with fail
    all_goals first | (exfalso; omega) | skip
    all_goals
      go_ret
      exact ⟨ret_int hR2.out.symm, HB2.out⟩
  · have hR2 : Hid (r = 0) := hR.out.trans (if_neg (by omega))
    clear hR
    go_wp2_with fail
    all_goals first | (exfalso; omega) | skip
    all_goals
      go_ret
      exact ⟨ret_int hR2.out.symm, HB2.out⟩
end Go.Proofs.YtnikmmdadflefaaGreatDoor
namespace Go.Proofs.YtnikmmdadflefaaGreatDoor
open Go.RowKit
attribute [local go_sem] Oper.semAt_some
def RetLE (xs : List Int) (n : Int) (w : World) (e : Ending) (w' : World) : Prop := ∃ A c, e = .returned (.tuple #[.slice A xs.length c, .int .i64 n]) ∧ IAt w' w'.heap.size A xs ∧ Below w.heap.size w w'
theorem ver_fine {s : Sy} (hf : FewX s.p) (h : verE s = 0) : s = builtE s.p ∧ ∃ K N, Fine s K N := by
  unfold verE at h
  by_cases h1 : (buildE s.p).2 ≠ 0
  · rw [if_pos h1] at h; exact absurd h h1
  · rw [if_neg h1] at h
    by_cases h2 : s = (buildE s.p).1
    · have h0 : probE s.p = 0 := by
        by_cases h0 : probE s.p = 0
        · exact h0
        · rw [buildE_bad h0] at h1; exact absurd h0 h1
      have hm : ¬ 4096 < execT s.p := fun hm => by rw [buildE_many h0 hm] at h1; exact h1 (by decide)
      rw [buildE_ok h0 (by omega)] at h2
      obtain ⟨K, N, hF⟩ := built_fine hf h0 (by rcases hf.2 h0 with h | h; exact h; exact absurd h hm)
      exact ⟨h2, K, N, by rw [h2]; exact hF⟩
    · rw [if_neg h2] at h; cases h
def hasV (i : Int) (v : Vw) (x : Exn) : Bool := decide ((x.views.getD v.r.toNat []).getD v.p.toNat 0 = i)
def havK (s : Sy) (i : Int) (v : Vw) (k : Nat) : List Int := ((List.range k).filter fun e => hasV i v (s.xs.getD e default)).map fun (e : Nat) => (e : Int)
def havE (s : Sy) (i : Int) : List Int := if viewxE s i ≠ 0 then [] else havK s i (s.vs.getD i.toNat default) s.xs.length
theorem havK_yes {s : Sy} {i : Int} {v : Vw} {k : Nat} (h : hasV i v (s.xs.getD k default) = true) : havK s i v (k + 1) = havK s i v k ++ [(k : Int)] := by
  unfold havK; rw [List.range_succ, List.filter_append, List.map_append, List.filter_cons, if_pos h]; rfl
theorem havK_no {s : Sy} {i : Int} {v : Vw} {k : Nat} (h : hasV i v (s.xs.getD k default) = false) : havK s i v (k + 1) = havK s i v k := by
  unfold havK; rw [List.range_succ, List.filter_append, List.map_append, List.filter_cons, if_neg (by rw [h]; decide)]; simp
theorem havK_len (s : Sy) (i : Int) (v : Vw) (k : Nat) : (havK s i v k).length ≤ k := by
  unfold havK; rw [List.length_map]; exact Nat.le_trans (List.length_filter_le _ _) (by simp)
theorem own_iat {W : World} {D : Nat} {V : Value} {xs : List Int} (h : OwnR kIn W D V xs.length (xs.map (Value.int .i64))) : ∃ A c, V = .slice A xs.length c ∧ IAt W W.heap.size A xs := by
  obtain ⟨A, c, e, _, _, hc⟩ := h.form
  refine ⟨A, c, e, fun h0 => ?_⟩
  obtain ⟨g, eA, _, hg, hcell⟩ := hc h0
  exact ⟨g, 0, eA, hg, fun i hi => by rw [Nat.zero_add]; exact hcell i _ (by simp [hi])⟩
set_option maxRecDepth 100000 in
set_option maxHeartbeats 2000000 in
theorem having_any (s : Sy) (hs : LowS s) (hf : FewX s.p) (i : Int) (A SV AV AX : Option Addr) (kc ks kv kx : Nat) (w : World) (hS : SyAt w w.heap.size A SV AV AX s) :
    Calls Tryz.prog 32 #[.agg (s.vs_ A kc SV ks AV kv AX kx), .int .i64 i] w (RetLE (havE s i) (viewxE s i) w) := by
  obtain ⟨w1, hw1, d0, hs1, hB⟩ := onebox w (s.vs_ A kc SV ks AV kv AX kx) 36
  have HV := Lib.hid (view_any s hs hf i A SV AV AX kc ks kv kx w1 (hS.up hB))
  have HS1 := Lib.hid (hS.up hB)
  have HH : Hid (havE s i = if viewxE s i ≠ 0 then [] else havK s i (s.vs.getD i.toNat default) s.xs.length) := rfl
  have HE : Hid (viewxE s i = if verE s ≠ 0 then verE s else if i < 0 ∨ (s.vs.length : Int) ≤ i then 6 else 0) := rfl
  have HVF := Lib.hid (fun h => ver_fine hf h)
  obtain ⟨R, hR⟩ : ∃ R, havE s i = R := ⟨_, rfl⟩
  obtain ⟨r, hr⟩ : ∃ r, viewxE s i = r := ⟨_, rfl⟩
  rw [hr] at HV HE HH ⊢
  rw [hR] at HH ⊢
  unfold Sy.vs_ at hw1 d0 HV ⊢
  have HW1 := Lib.hid hw1
  have HB := Lib.hid hB
  have HD := Lib.hid d0
  have p0 := blk_cell d0 0 rfl
  have p1 := blk_cell d0 1 rfl
  have p2 := blk_cell d0 2 rfl
  have p3 := blk_cell d0 3 rfl
  have p4 := blk_cell d0 4 rfl
  have p5 := blk_cell d0 5 rfl
  have p6 := blk_cell d0 6 rfl
  have p7 := blk_cell d0 7 rfl
  have p8 := blk_cell d0 8 rfl
  have p9 := blk_cell d0 9 rfl
  clear hw1 d0 hB hS hr hR
  go_enter Tryz.func32, Tryz.ntmps32
  go_wp2_with fail
  rw [HW1.out]
  go_wp2_with fail
  refine HV.out.mono ?_
  rintro e w2 ⟨rfl, hb2⟩
  have HB2 := Lib.hid (HB.out.trans (hb2.mono (by omega)))
  have HS2 := Lib.hid (HS1.out.up hb2)
  have d0 := (hb2.block _ (by omega : w.heap.size < w1.heap.size)).trans HD.out
  have HD2 := Lib.hid d0
  have hs2 := hb2.size
  clear p0 p1 p2 p3 p4 p5 p6 p7 p8 p9 hb2 HV HW1 HS1 HD
  have p8 : w2.cell? ⟨w.heap.size, 8, none⟩ = some (.slice AV s.vs.length kv) := blk_cell d0 8 rfl
  have p9 : w2.cell? ⟨w.heap.size, 9, none⟩ = some (.slice AX s.xs.length kx) := blk_cell d0 9 rfl
  clear d0
  by_cases h0 : r = 0
  case neg =>
    have hR : Hid (R = []) := HH.out.symm.symm.trans (if_pos h0)
    have e0 : (r != 0) = true := by simpa using h0
    clear HH HE HVF h0
    go_wp2_with fail
    go_ret2
    rw [hR.out]
    exact ⟨none, 0, rfl, fun h => absurd h (by simp), HB2.out⟩
  case pos =>
  subst h0
  have hv0 : verE s = 0 := by
    by_cases h : verE s = 0
    · exact h
    · have := HE.out; rw [if_pos h] at this; exact absurd this.symm h
  have hi : ¬ (i < 0 ∨ (s.vs.length : Int) ≤ i) := fun h => by
    have := HE.out; rw [if_neg (by simpa using hv0), if_pos h] at this; cases this
  obtain ⟨hsb, K, N, hF⟩ := HVF.out hv0
  clear hsb
  obtain ⟨iN, rfl⟩ := Int.eq_ofNat_of_zero_le (show 0 ≤ i by omega)
  have hil : iN < s.vs.length := by omega
  have hRR : R = havK s iN (s.vs.getD ((iN : Int).toNat) default) s.xs.length := HH.out.trans (if_neg (by simp))
  obtain ⟨v, hv⟩ : ∃ v, s.vs[iN] = v := ⟨_, rfl⟩
  have hvd : s.vs.getD ((iN : Int).toNat) default = v := by rw [Int.toNat_natCast, List.getD_eq_getElem?_getD, List.getElem?_eq_getElem hil, ← hv]; rfl
  rw [hvd] at hRR
  obtain ⟨⟨q, hvp, hqN⟩, ⟨rn, hvr, hrK⟩, hown⟩ := hF.vs v (by rw [← hv]; exact List.getElem_mem hil)
  clear hown
  obtain ⟨bv, ov, eA, hbv, v0, v1, v2, v3, v4, v5, v6, v7⟩ := HS2.out.fv.row iN hil
  subst eA
  rw [hv] at v0 v1 v2 v3 v4 v5 v6 v7
  obtain ⟨W3, hW3, b3, hs3, hB3⟩ := onebox w2 v.cells 92
  unfold Vw.cells at hW3 b3
  rw [hvp] at v0 hW3 b3
  rw [hvr] at v1 hW3 b3
  have HW3 := Lib.hid hW3
  have HB3 := Lib.hid (HB2.out.trans (hB3.mono (by omega)))
  have HS3 := Lib.hid (HS2.out.up hB3)
  have d0 := (hB3.block _ (by omega : w.heap.size < w2.heap.size)).trans HD2.out
  have HD3 := Lib.hid d0
  have HV3 := Lib.hid b3
  have x9 : W3.cell? ⟨w.heap.size, 9, none⟩ = some (.slice AX s.xs.length kx) := blk_cell d0 9 rfl
  have HRR := Lib.hid hRR
  have HF := Lib.hid hF
  have HVP := Lib.hid hvp
  have HVR := Lib.hid hvr
  have hlx := hF.lx
  have hww : w.heap.size < w2.heap.size := by omega
  have hi0 : (0 : Int) ≤ (iN : Int) := by omega
  have hi1 : (iN : Int) < (s.vs.length : Int) := by omega
  clear HH HE HVF hW3 hB3 d0 b3 hv0 hi hRR hv hvd hvp hvr hF hf hs HB2 HS2 HD2
  go_wp2_with fail
  rw [HW3.out]
  clear v0 v1 v2 v3 v4 v5 v6 v7 p8 p9 x9 HW3
  go_loopw [8, 26] (fun o i wr => ∃ k : Nat, k ≤ s.xs.length ∧ i = .int .i64 (k : Int) ∧ Hid (OwnR kIn wr W3.heap.size o (havK s iN v k).length ((havK s iN v k).map (Value.int .i64))) ∧ Hid (Below W3.heap.size W3 wr)) (fun _ i _ => s.xs.length - (intOf i).toNat)
  case atStart => exact ⟨0, by omega, rfl, OwnR.nil _ _ _, Below.refl _ _⟩
  case round =>
    obtain ⟨k, hk, rfl, HO, hb⟩ := hrel
    by_cases hlt : k < s.xs.length
    case neg =>
      obtain rfl : k = s.xs.length := by omega
      obtain ⟨AO, ko, eO, hI⟩ := own_iat HO.out
      rw [eO]
      have HI := Lib.hid hI
      clear eO hI HO
      go_wp2_with fail
      go_ret2
      rw [HRR.out]
      exact ⟨AO, ko, rfl, HI.out, HB3.out.trans (hb.out.mono (by omega))⟩
    case pos =>
      obtain ⟨AO, ko, eO, _, _, _⟩ := HO.out.form
      subst eO
      obtain ⟨bx, ox, A1, c1, A2, c2, eA, hbx, y0, y1, y2, _, hL⟩ := (HS3.out.fx.keep hb.out).row k hlt
      subst eA
      obtain ⟨x, hx⟩ : ∃ x, s.xs[k] = x := ⟨_, rfl⟩
      have hgx : s.xs.getD k default = x := by rw [List.getD_eq_getElem?_getD, List.getElem?_eq_getElem hlt, ← hx]; rfl
      obtain ⟨hvl, hvr⟩ := HF.out.views _ (List.getElem_mem hlt)
      rw [hx] at y0 y1 y2 hL hvl hvr
      have hrl : rn < x.views.length := by omega
      obtain ⟨bl, ol, A3, c3, eA, hbl, v0, hI⟩ := hL.at_ rn hrl
      subst eA
      have hrow := hvr _ (List.getElem_mem hrl)
      have hql : q < (x.views[rn]).length := by omega
      obtain ⟨bi, oi, eA, hbi, u0⟩ := hI.at_ q hql
      subst eA
      obtain ⟨row, hrw⟩ : ∃ row, x.views[rn] = row := ⟨_, rfl⟩
      rw [hrw] at v0 hrow
      obtain ⟨y, hy⟩ : ∃ y, (x.views[rn])[q] = y := ⟨_, rfl⟩
      rw [hy] at u0
      have hhas : hasV iN v (s.xs.getD k default) = decide (y = (iN : Int)) := by
        unfold hasV
        rw [hgx, HVP.out, HVR.out, Int.toNat_natCast, Int.toNat_natCast, List.getD_eq_getElem?_getD (l := x.views), List.getElem?_eq_getElem hrl]
        show decide ((x.views[rn]).getD q 0 = _) = _
        rw [List.getD_eq_getElem?_getD, List.getElem?_eq_getElem hql, ← hy]; rfl
      have hsz := hb.out.size
      obtain ⟨W4, hW4, b4, hs4, hB4⟩ := onebox wr #[.int .i64 x.c, .slice A1 x.word.length c1, .slice (some ⟨bl, ol, none⟩) x.views.length c2] 42
      have HB4 := Lib.hid (hb.out.trans (hB4.mono hsz))
      have HW4 := Lib.hid hW4
      have HO4 := Lib.hid (HO.out.below hB4 (Nat.le_refl _))
      have z2 := blk_cell b4 2 rfl
      have z3 := (hB4.cell (p := ⟨bl, ol + rn, none⟩) (by show bl < _; omega)).trans v0
      have z4 := (hB4.cell (p := ⟨bi, oi + q, none⟩) (by show bi < _; omega)).trans u0
      have e3 := (HB4.out.block _ (blk_lt HV3.out)).trans HV3.out
      have z0 : W4.cell? ⟨w2.heap.size, 0, none⟩ = some (.int .i64 (q : Int)) := blk_cell e3 0 rfl
      have z1 : W4.cell? ⟨w2.heap.size, 1, none⟩ = some (.int .i64 (rn : Int)) := blk_cell e3 1 rfl
      have hbxw : bx < wr.heap.size := by omega
      have hk0 : (0 : Int) ≤ (k : Int) := by omega
      have hk1 : (k : Int) < (s.xs.length : Int) := by omega
      have hr0 : (0 : Int) ≤ (rn : Int) := by omega
      have hr1 : (rn : Int) < (x.views.length : Int) := by omega
      have hq0 : (0 : Int) ≤ (q : Int) := by omega
      have hq1 : (q : Int) < (row.length : Int) := by rw [← hrw]; omega
      have hlk := havK_len s iN v k
      have HLK := Lib.hid hlk
      have HHS := Lib.hid hhas
      clear hL hI hvl hvr hrow hql hrw hy hgx hx hW4 b4 hB4 v0 u0 e3 HO hb hhas hlk
      go_wp2_with fail
      rw [HW4.out]
      go_wp2_with fail
      by_cases hyi : y = (iN : Int)
      · have e0 : (y == (iN : Int)) = true := by simpa using hyi
        have HHY : Hid (havK s iN v (k + 1) = havK s iN v k ++ [(k : Int)]) := havK_yes (HHS.out.trans (decide_eq_true hyi))
        clear hyi
        go_quiet (fail)
        obtain ⟨X, hX⟩ : ∃ X, W4.drewN nq = X := ⟨_, rfl⟩
        rw [hX]
        have HBX : Hid (Below W3.heap.size W3 X) := by rw [← hX]; exact belN HB4.out nq
        have HOX : Hid (OwnR kIn X W3.heap.size (.slice AO (havK s iN v k).length ko) (havK s iN v k).length ((havK s iN v k).map (Value.int .i64))) := by rw [← hX]; exact HO4.out
        have HRN := Lib.hid (HOX.out.alloc (.cells #[.int .i64 k] 3))
        have HGN := Lib.hid (blk_new X (.cells #[.int .i64 k] 3))
        have HDZ : Hid (W3.heap.size ≤ (X.alloc (.cells #[.int .i64 k] 3)).heap.size) := by show _ ≤ _; have := HBX.out.size; simp; omega
        have HLZ : Hid ((havK s iN v k).length ≤ 1000000000) := by show _ ≤ _; have := HLK.out; omega
        have HLE : Hid ((havK s iN v (k + 1)).length = (havK s iN v k).length + 1) := by show _ = _; rw [HHY.out]; simp
        clear hX z0 z1 z2 z3 z4 e0
        go_wp2_with (at_builtin; refine wpList_appR kIn_ok rfl (.tmp 43) (.tmp 45) rfl W3.heap.size (.slice AO (havK s iN v k).length ko) (havK s iN v k).length ((havK s iN v k).map (Value.int .i64)) rfl HRN.out X.heap.size #[.int .i64 k] rfl HGN.out rfl (by simp [Value.oneCell']) HLZ.out HDZ.out _ rfl ?_; intro g' cap w12 hr7 hg7 hat7 hlt7; have HR7 := Lib.hid hr7; have HG7 : Hid (Below W3.heap.size W3 w12) := ((HBX.out.trans ((bel1 X _).mono HBX.out.size)).grown hg7 (by exact HDZ.out) (fun k hk => (HOX.out.lt k hk).1)); clear hr7 hg7 hat7 hlt7)
        go_roundw
        case rel => exact ⟨k + 1, by omega, by go_num, by rw [HLE.out, HHY.out, List.map_append]; exact HR7.out, HG7.out⟩
        case measure => simp [intOf]; omega
      · have e0 : (y == (iN : Int)) = false := by simpa using hyi
        have HHY : Hid (havK s iN v (k + 1) = havK s iN v k) := havK_no (HHS.out.trans (decide_eq_false hyi))
        clear hyi
        go_quiet (fail)
        go_wp2_with fail
        go_roundw
        case rel => exact ⟨k + 1, by omega, by go_num, by rw [HHY.out]; exact HO4.out, belN HB4.out nq⟩
        case measure => simp [intOf]; omega
end Go.Proofs.YtnikmmdadflefaaGreatDoor
namespace Go.Proofs.YtnikmmdadflefaaGreatDoor
open Go.RowKit
attribute [local go_sem] Oper.semAt_some
def FrI (D : Nat) (A : Option Addr) (n : Nat) : Prop := 0 < n → ∃ g o q, A = some ⟨g, o, q⟩ ∧ D ≤ g
theorem FrI.mono {D D' : Nat} {A : Option Addr} {n : Nat} (h : FrI D A n) (hd : D' ≤ D) : FrI D' A n := fun h0 => by
  obtain ⟨g, o, q, e, hg⟩ := h h0
  exact ⟨g, o, q, e, Nat.le_trans hd hg⟩
theorem own_fr {K : Kd} {w : World} {base : Nat} {v : Value} {n : Nat} {cs : List Value} (h : OwnR K w base v n cs) {A : Option Addr} {cap : Nat} (e : v = .slice A n cap) : FrI base A n := fun hn => by
  rcases h.2 with ⟨rfl, h0⟩ | ⟨g, cap', cur, rfl, hb, hg, hle, hcm, _⟩
  · omega
  · cases e; exact ⟨g, 0, none, rfl, hb⟩
def boolA (bs : List Bool) : Array Value := (bs.map Value.bool).toArray
theorem boolA_set (bs : List Bool) (i : Nat) (b : Bool) : (boolA bs).setIfInBounds i (.bool b) = boolA (bs.set i b) := by
  unfold boolA; rw [List.setIfInBounds_toArray, List.map_set]
theorem boolA_at (bs : List Bool) (i : Nat) (h : i < bs.length) : (boolA bs)[i]? = some (.bool bs[i]) := by
  unfold boolA; simp [h]
def yesRow (m : Nat) (row : List Int) (bs : List Bool) : Nat → List Bool
  | 0 => bs
  | q + 1 => if m.testBit q = true then (yesRow m row bs q).set (row.getD q 0).toNat true else yesRow m row bs q
theorem yesRow_len (m : Nat) (row : List Int) (bs : List Bool) : ∀ q, (yesRow m row bs q).length = bs.length
  | 0 => rfl
  | q + 1 => by unfold yesRow; split <;> simp [yesRow_len m row bs q]
def yesK (s : Sy) (K N : Nat) : Nat → List Bool
  | 0 => List.replicate s.vs.length false
  | k + 1 => yesRow (maskE N (s.xs.getD k default)).toNat ((s.xs.getD k default).views.getD K []) (yesK s K N k) N
theorem yesK_len (s : Sy) (K N : Nat) : ∀ k, (yesK s K N k).length = s.vs.length
  | 0 => by simp [yesK]
  | k + 1 => by rw [yesK, yesRow_len, yesK_len s K N k]
def relK (s : Sy) (K N : Nat) (acc : Nat → Bool) (j : Nat) : List Int := ((List.range j).filter fun i => (yesK s K N s.xs.length).getD i false && acc i).map fun (i : Nat) => (i : Int)
def relE (s : Sy) (K N : Nat) (acc : Nat → Bool) : List Int := relK s K N acc s.vs.length
theorem relK_yes {s : Sy} {K N : Nat} {acc : Nat → Bool} {j : Nat} (h : ((yesK s K N s.xs.length).getD j false && acc j) = true) : relK s K N acc (j + 1) = relK s K N acc j ++ [(j : Int)] := by
  unfold relK; rw [List.range_succ, List.filter_append, List.map_append, List.filter_cons, if_pos h]; rfl
theorem relK_no {s : Sy} {K N : Nat} {acc : Nat → Bool} {j : Nat} (h : ((yesK s K N s.xs.length).getD j false && acc j) = false) : relK s K N acc (j + 1) = relK s K N acc j := by
  unfold relK; rw [List.range_succ, List.filter_append, List.map_append, List.filter_cons, if_neg (by rw [h]; decide)]; simp
theorem relK_len (s : Sy) (K N : Nat) (acc : Nat → Bool) (j : Nat) : (relK s K N acc j).length ≤ j := by
  unfold relK; rw [List.length_map]; exact Nat.le_trans (List.length_filter_le _ _) (by simp)
def kBo : Kd := ⟨4, 94, 1, 1, .bool false⟩
theorem kBo_ok : KdOk Tryz.prog kBo := ⟨Tryz.underlying94, by kernel_rfl, by rfl, by decide, by decide⟩
theorem made_bools (n : Nat) : madeCells #[.bool false] (n * 1) = boolA (List.replicate n false) := by
  unfold madeCells boolA
  apply Array.ext
  · simp
  · intro i h1 h2
    simp [Nat.mod_one]
theorem make_bools (n : Nat) (hn : n ≤ 100000) (W : World) : (Instr.makeSlice 94 (.int .i64 n) (.int .i64 n)).run Tryz.prog W = .ok (.slice (some ⟨W.heap.size, 0, none⟩) n n) (W.alloc (.cells (boolA (List.replicate n false)) 4)) := by
  obtain ⟨i0, hi, hz0, hz1, hz2⟩ := kd_parts kBo_ok
  have hb : i0.bytes = 1 := hz2
  have hs : i0.size = 1 := hz1
  have h := run_make (P := Tryz.prog) W 94 4 i0 (.bool false) Tryz.underlying94 hi hz0 .i64 .i64 (n : Int) (n : Int) (by omega) (Int.le_refl _) (by rw [hb]; omega) (by omega)
  rw [h, hs]
  simp only [Int.toNat_natCast]
  rw [show (Value.bool false).cells = #[.bool false] from rfl, made_bools]
set_option maxRecDepth 100000 in
set_option maxHeartbeats 2000000 in
theorem relA_any (s : Sy) (K N : Nat) (hF : Fine s K N) (acc : Nat → Bool) (A SV AV AX : Option Addr) (kc ks kv kx : Nat) (w : World) (hS : SyAt w w.heap.size A SV AV AX s)
    (hAc : ∀ (i : Nat) (X : World), i < s.vs.length → Below w.heap.size w X → Calls Tryz.prog 84 #[.int .i64 (i : Int)] X fun e w' => e = .returned (.bool (acc i)) ∧ Below X.heap.size X w') :
    Calls Tryz.prog 83 #[.agg (s.vs_ A kc SV ks AV kv AX kx), .func (.func 84) #[] #[]] w fun e w' => ∃ AO ko, e = .returned (.slice AO (relE s K N acc).length ko) ∧ IAt w' w'.heap.size AO (relE s K N acc) ∧ FrI w.heap.size AO (relE s K N acc).length ∧ Below w.heap.size w w' := by
  obtain ⟨w1, hw1, d0, d1, hs1, hB⟩ := cboxes w (s.vs_ A kc SV ks AV kv AX kx) (boolA (List.replicate s.vs.length false)) 36 4
  have HS0 := Lib.hid hS
  have HAC := Lib.hid hAc
  have HF := Lib.hid hF
  have hmk := make_bools s.vs.length (by have := hF.lv; omega)
  unfold Sy.vs_ at hw1 d0 ⊢
  have hpk := hF.k
  rw [hpk] at hw1 d0 ⊢
  have HW1 := Lib.hid hw1
  have HB := Lib.hid hB
  have HD0 := Lib.hid d0
  have HD1 := Lib.hid d1
  have hlx := hF.lx
  have hlv := hF.lv
  have hk6 := hF.k6
  have hn5 := hF.n5
  clear hw1 d0 d1 hB hS hAc hF hpk
  go_enter Tryz.func83, Tryz.ntmps83
  go_wp2_with fail
  rw [HW1.out]
  go_loopw [22] (fun i wr => ∃ k : Nat, k ≤ s.xs.length ∧ i = .int .i64 (k : Int) ∧ Hid (wr.heap[w.heap.size + 1]? = some (.cells (boolA (yesK s K N k)) 4 (0, 0))) ∧ Hid (wr.heap[w.heap.size]? = w1.heap[w.heap.size]?) ∧ Hid (Below w.heap.size w wr)) (fun i _ => s.xs.length - (intOf i).toNat)
  case atStart => exact ⟨0, by omega, rfl, HD1.out, rfl, HB.out⟩
  case round =>
    obtain ⟨k, hk, rfl, HY, HS, HBL⟩ := hrel
    have hszr : w.heap.size + 1 < wr.heap.size := blk_lt HY.out
    have d0 := HS.out.trans HD0.out
    by_cases hlt : k < s.xs.length
    case neg =>
      obtain rfl : k = s.xs.length := by omega
      clear HW1 HB HD1
      go_wp2_with fail
      obtain ⟨w5, rfl⟩ : ∃ x, x = wr := ⟨_, rfl⟩
      have hyl := yesK_len s K N s.xs.length
      obtain ⟨yl, hyy⟩ : ∃ yl, yesK s K N s.xs.length = yl := ⟨_, rfl⟩
      rw [hyy] at HY hyl
      have HYY := Lib.hid hyy
      have HYL := Lib.hid hyl
      clear hyy hyl
      go_loopw [11, 54] (fun o i wx => ∃ j : Nat, j ≤ s.vs.length ∧ i = .int .i64 (j : Int) ∧ Hid (OwnR kIn wx w5.heap.size o (relK s K N acc j).length ((relK s K N acc j).map (Value.int .i64))) ∧ Hid (Below w5.heap.size w5 wx)) (fun _ i _ => s.vs.length - (intOf i).toNat)
      case atStart => exact ⟨0, by omega, rfl, OwnR.nil _ _ _, Below.refl _ _⟩
      case round =>
        obtain ⟨j, hj, rfl, HO, hb⟩ := hrel
        by_cases hjl : j < s.vs.length
        case neg =>
          obtain rfl : j = s.vs.length := by omega
          obtain ⟨AO, ko, eO, hI⟩ := own_iat HO.out
          rw [eO]
          have HI := Lib.hid hI
          have HFR := Lib.hid ((own_fr HO.out eO).mono HBL.out.size)
          clear eO hI HO
          go_wp2_with fail
          go_ret
          exact ⟨AO, ko, rfl, HI.out, HFR.out, HBL.out.trans (hb.out.mono (by omega))⟩
        case pos =>
          obtain ⟨AO, ko, eO, hu1, hu2, hu3⟩ := HO.out.form
          subst eO
          clear hu1 hu2 hu3
          have hsz := hb.out.size
          have hjy : j < yl.length := by have := HYL.out; omega
          have y0 : wr.cell? ⟨w.heap.size + 1, j, none⟩ = some (.bool yl[j]) := blk_cell ((hb.out.block _ (by omega)).trans HY.out) j (boolA_at yl j hjy)
          have hgy : (yesK s K N s.xs.length).getD j false = yl[j] := by rw [HYY.out, List.getD_eq_getElem?_getD, List.getElem?_eq_getElem hjy]; rfl
          have hj0 : (0 : Int) ≤ (j : Int) := by omega
          have hj1 : (j : Int) < (s.vs.length : Int) := by omega
          have HKN := Lib.hid (@relK_no s K N acc j)
          have HKY := Lib.hid (@relK_yes s K N acc j)
          rw [hgy] at HKN HKY
          have HLK := Lib.hid (relK_len s K N acc j)
          have HCC := Lib.hid (HAC.out j wr hjl (HBL.out.trans (hb.out.mono (by omega))))
          obtain ⟨yb, hyb⟩ : ∃ yb, yl[j] = yb := ⟨_, rfl⟩
          rw [hyb] at y0 HKN HKY
          clear hgy hyb
          cases yb with
          | false =>
            have HHY : Hid (relK s K N acc (j + 1) = relK s K N acc j) := HKN.out rfl
            clear HKN HKY HCC
            go_wp2_with fail
            go_roundw
            case rel => exact ⟨j + 1, by omega, by go_num, by rw [HHY.out]; exact HO.out, hb.out⟩
            case measure => simp [intOf]; omega
          | true =>
            go_wp2_with fail
            refine HCC.out.mono ?_
            rintro e w6 ⟨rfl, hb6⟩
            have HB6 := Lib.hid (hb.out.trans (hb6.mono hsz))
            have HO6 := Lib.hid (HO.out.below hb6 (Nat.le_refl _))
            clear hb6 HCC y0
            obtain ⟨ab, hab⟩ : ∃ ab, acc j = ab := ⟨_, rfl⟩
            rw [hab] at HKN HKY
            rw [hab]
            clear hab
            cases ab with
            | false =>
              have HHY : Hid (relK s K N acc (j + 1) = relK s K N acc j) := HKN.out rfl
              clear HKN HKY
              go_wp2_with fail
              go_roundw
              case rel => exact ⟨j + 1, by omega, by go_num, by rw [HHY.out]; exact HO6.out, HB6.out⟩
              case measure => simp [intOf]; omega
            | true =>
              have HHY : Hid (relK s K N acc (j + 1) = relK s K N acc j ++ [(j : Int)]) := HKY.out rfl
              have HRN := Lib.hid (HO6.out.alloc (.cells #[.int .i64 j] 3))
              have HGN := Lib.hid (blk_new w6 (.cells #[.int .i64 j] 3))
              have HDZ : Hid (w5.heap.size ≤ (w6.alloc (.cells #[.int .i64 j] 3)).heap.size) := by show _ ≤ _; have := HB6.out.size; simp; omega
              have HLZ : Hid ((relK s K N acc j).length ≤ 1000000000) := by show _ ≤ _; have := HLK.out; omega
              have HLE : Hid ((relK s K N acc (j + 1)).length = (relK s K N acc j).length + 1) := by show _ = _; rw [HHY.out]; simp
              clear HKN HKY
              go_wp2_with (at_builtin; refine wpList_appR kIn_ok rfl (.tmp 65) (.tmp 67) rfl w5.heap.size (.slice AO (relK s K N acc j).length ko) (relK s K N acc j).length ((relK s K N acc j).map (Value.int .i64)) rfl HRN.out w6.heap.size #[.int .i64 j] rfl HGN.out rfl (by simp [Value.oneCell']) HLZ.out HDZ.out _ rfl ?_; intro g' cap w12 hr7 hg7 hat7 hlt7; have HR7 := Lib.hid hr7; have HG7 : Hid (Below w5.heap.size w5 w12) := ((HB6.out.trans ((bel1 w6 _).mono HB6.out.size)).grown hg7 (by exact HDZ.out) (fun k hk => (HO6.out.lt k hk).1)); clear hr7 hg7 hat7 hlt7)
              go_roundw
              case rel => exact ⟨j + 1, by omega, by go_num, by rw [HLE.out, HHY.out, List.map_append]; exact HR7.out, HG7.out⟩
              case measure => simp [intOf]; omega
    case pos =>
      obtain ⟨bx, ox, A1, c1, A2, c2, eA, hbx, y0, y1, y2, hWd, hL⟩ := (HS0.out.fx.keep HBL.out).row k hlt
      subst eA
      have hxm := List.getElem_mem hlt
      obtain ⟨hvl, hvr⟩ := HF.out.views _ hxm
      obtain ⟨m, hm, hm32⟩ := mask_nat HF.out.n1 HF.out.n5 (HF.out.word _ hxm).2
      have hyk : yesK s K N (k + 1) = yesRow m (s.xs[k].views.getD K []) (yesK s K N k) N := by
        rw [yesK, List.getD_eq_getElem?_getD, List.getElem?_eq_getElem hlt]
        show yesRow (maskE N s.xs[k]).toNat (s.xs[k].views.getD K []) _ N = _
        rw [hm, Int.toNat_natCast]
      obtain ⟨W3, hW3, b3, hs3, hB3⟩ := onebox wr #[.int .i64 s.xs[k].c, .slice A1 s.xs[k].word.length c1, .slice A2 s.xs[k].views.length c2] 42
      have HOB := Lib.hid (fun kc ks kv kx => obliged_any s K N HF.out s.xs[k] hxm A SV AV (some ⟨bx, ox, none⟩) A1 A2 kc ks kv kx c1 c2 W3 (((hWd.more (by omega)).keep hB3).more hB3.size))
      rw [hm] at HOB
      obtain ⟨x, hx⟩ : ∃ x, s.xs[k] = x := ⟨_, rfl⟩
      rw [hx] at y0 y1 y2 hL hvl hvr hyk hW3 b3 HOB
      unfold Sy.vs_ at HOB
      rw [HF.out.k] at HOB
      have hKl : K < x.views.length := by omega
      obtain ⟨bl, ol, A3, c3, eA, hbl, v0, hI⟩ := hL.at_ K hKl
      subst eA
      have hrow := hvr _ (List.getElem_mem hKl)
      have hgr : x.views.getD K [] = x.views[K] := by rw [List.getD_eq_getElem?_getD, List.getElem?_eq_getElem hKl]; rfl
      obtain ⟨row, hrw⟩ : ∃ row, x.views[K] = row := ⟨_, rfl⟩
      rw [hgr, hrw] at hyk
      rw [hrw] at v0 hI hrow
      obtain ⟨hrl, hri⟩ := hrow
      have HW3 := Lib.hid hW3
      have HB3 := Lib.hid hB3
      have HX3 := Lib.hid b3
      have d3 := (hB3.block _ (by omega : w.heap.size < wr.heap.size)).trans d0
      have HD3 := Lib.hid d3
      have HY3 := Lib.hid ((hB3.block _ hszr).trans HY.out)
      have HYK := Lib.hid hyk
      have HRI := Lib.hid hri
      have HII := Lib.hid hI
      have HV0 := Lib.hid v0
      have hww : w.heap.size < wr.heap.size := by omega
      have hbxw : bx < wr.heap.size := by omega
      have hk0 : (0 : Int) ≤ (k : Int) := by omega
      have hk1 : (k : Int) < (s.xs.length : Int) := by omega
      have p9 : wr.cell? ⟨w.heap.size, 9, none⟩ = some (.slice (some ⟨bx, ox, none⟩) s.xs.length kx) := blk_cell d0 9 rfl
      have p0 := blk_cell d0 0 rfl
      have p1 := blk_cell d0 1 rfl
      have p2 := blk_cell d0 2 rfl
      have p3 := blk_cell d0 3 rfl
      have p4 := blk_cell d0 4 rfl
      have p5 := blk_cell d0 5 rfl
      have p6 : wr.cell? ⟨w.heap.size, 6, none⟩ = some (.int .i64 (K : Int)) := blk_cell d0 6 rfl
      have p7 := blk_cell d0 7 rfl
      have p8 := blk_cell d0 8 rfl
      clear hW3 b3 hB3 hL hI v0 hrw hgr hx hxm hvl hvr hm hyk hri hWd d3 d0 HY
      go_wp2_with fail
      rw [HW3.out]
      refine (HOB.out _ _ _ _).mono ?_
      rintro e w4 ⟨rfl, hb4⟩
      have hs4 := hb4.size
      have HB4 := Lib.hid (HBL.out.trans ((HB3.out.trans (hb4.mono (by omega))).mono (by omega)))
      have d4 := (hb4.block _ (by omega : w.heap.size < W3.heap.size)).trans HD3.out
      have b4 := (hb4.block _ (blk_lt HX3.out)).trans HX3.out
      have HY4 := Lib.hid ((hb4.block _ (by omega : w.heap.size + 1 < W3.heap.size)).trans HY3.out)
      have HD4 := Lib.hid d4
      have HI4 := Lib.hid ((HII.out.keep (HB3.out.mono (by omega))).keep (hb4.mono (by omega)))
      clear p0 p1 p2 p3 p4 p5 p6 p7 p8 p9
      have p6 : w4.cell? ⟨w.heap.size, 6, none⟩ = some (.int .i64 (K : Int)) := blk_cell d4 6 rfl
      have z2 : w4.cell? ⟨wr.heap.size, 2, none⟩ = some (.slice (some ⟨bl, ol, none⟩) x.views.length c2) := blk_cell b4 2 rfl
      have v4 : w4.cell? ⟨bl, ol + K, none⟩ = some (.slice A3 row.length c3) := (hb4.cell (p := ⟨bl, ol + K, none⟩) (by show bl < _; omega)).trans ((HB3.out.cell (p := ⟨bl, ol + K, none⟩) (by show bl < _; omega)).trans HV0.out)
      have hK0 : (0 : Int) ≤ (K : Int) := by omega
      have hK1 : (K : Int) < (x.views.length : Int) := by omega
      clear hb4 d4 b4 HOB HW3 HY3 HX3 HII HV0 y0 y1 y2
      go_wp2_with fail
      clear p6 z2 v4
      have HRL := Lib.hid hrl
      have hb14 : w.heap.size + 1 < w4.heap.size := by omega
      obtain ⟨wp, rfl⟩ : ∃ x, x = wr := ⟨_, rfl⟩
      go_loopw [37] (fun i wx => ∃ q : Nat, q ≤ N ∧ i = .int .i64 (q : Int) ∧ Hid (wx.heap[w.heap.size + 1]? = some (.cells (boolA (yesRow m row (yesK s K N k) q)) 4 (0, 0))) ∧ Hid (Wrote (fun b => b = w.heap.size + 1) w4 wx)) (fun i _ => N - (intOf i).toNat)
      case atStart => exact ⟨0, by omega, rfl, HY4.out, Wrote.refl _ _⟩
      case round =>
        obtain ⟨q, hq, rfl, HQ, HWx⟩ := hrel
        have hszx := HWx.out.size
        have HBX : Hid (Below w.heap.size w4 wr) := HWx.out.below (by omega) (fun b h1 h2 => by have h3 : b = w.heap.size + 1 := h2; omega)
        by_cases hqN : q < N
        case neg =>
          obtain rfl : q = N := by omega
          have hqr : ¬ ((q : Int) < (row.length : Int)) := by omega
          have HYN : Hid (wr.heap[w.heap.size + 1]? = some (.cells (boolA (yesK s K q (k + 1))) 4 (0, 0))) := by show _ = _; rw [HYK.out]; exact HQ.out
          have HSN : Hid (wr.heap[w.heap.size]? = w1.heap[w.heap.size]?) := (HWx.out.block _ (by omega) (fun h => by have h3 : w.heap.size = w.heap.size + 1 := h; omega)).trans (HD4.out.trans HD0.out.symm)
          clear HQ
          go_wp2_with fail
          go_roundw
          case rel => exact ⟨k + 1, by omega, by go_num, HYN, HSN, HB4.out.trans HBX.out⟩
          case measure => simp [intOf]; omega
        case pos =>
          have hqr : (q : Int) < (row.length : Int) := by omega
          have hql : q < row.length := by omega
          obtain ⟨br, orr, eA, hbr, u0⟩ := HI4.out.at_ q hql
          subst eA
          have u1 := (HBX.out.cell (p := ⟨br, orr + q, none⟩) hbr).trans u0
          have hyi := HRI.out _ (List.getElem_mem hql)
          obtain ⟨y, hy⟩ : ∃ y, row[q] = y := ⟨_, rfl⟩
          rw [hy] at u1 hyi
          obtain ⟨yN, rfl⟩ := Int.eq_ofNat_of_zero_le hyi.1
          have hgy : (row.getD q 0).toNat = yN := by rw [List.getD_eq_getElem?_getD, List.getElem?_eq_getElem hql, hy]; rfl
          have hyl : yN < (yesRow m row (yesK s K N k) q).length := by rw [yesRow_len, yesK_len]; omega
          obtain ⟨yb, c0⟩ : ∃ yb, wr.cell? ⟨w.heap.size + 1, yN, none⟩ = some (.bool yb) := ⟨_, blk_cell HQ.out yN (boolA_at _ _ hyl)⟩
          have f0 := blk_froz HQ.out yN
          have hbt := bit_test hm32 (show q < 5 by omega)
          have hq0 : (0 : Int) ≤ (q : Int) := by omega
          have hq5 : (q : Int) < 5 := by omega
          have hm0 : (0 : Int) ≤ (m : Int) := by omega
          have hy0 : (0 : Int) ≤ (yN : Int) := by omega
          have hy1 : (yN : Int) < (s.vs.length : Int) := by omega
          clear u0 hy hyi
          by_cases hbit : m.testBit q = true
          · rw [hbit] at hbt
            have HYQ : Hid (yesRow m row (yesK s K N k) (q + 1) = (yesRow m row (yesK s K N k) q).set yN true) := by show _ = _; rw [yesRow, if_pos hbit, hgy]
            have HQS : Hid ((wr.setCell ⟨w.heap.size + 1, yN, none⟩ (.bool true)).heap[w.heap.size + 1]? = some (.cells (boolA (yesRow m row (yesK s K N k) (q + 1))) 4 (0, 0))) := by show _ = _; rw [heap_setCell_same wr _ yN _ _ _ HQ.out, boolA_set, HYQ.out]
            have HWS : Hid (Wrote (fun b => b = w.heap.size + 1) w4 (wr.setCell ⟨w.heap.size + 1, yN, none⟩ (.bool true))) := HWx.out.trans (wrote_set wr (w.heap.size + 1) yN _) (fun _ _ h => h)
            clear hbit hgy hyl
            go_wp2_with fail
            go_roundw
            case rel => exact ⟨q + 1, by omega, by go_num, HQS, HWS⟩
            case measure => simp [intOf]; omega
          · have hbf : m.testBit q = false := by simpa using hbit
            rw [hbf] at hbt
            have HYQ : Hid (yesRow m row (yesK s K N k) (q + 1) = yesRow m row (yesK s K N k) q) := by show _ = _; rw [yesRow, if_neg hbit]
            clear hbit hbf hgy hyl
            go_wp2_with fail
            go_roundw
            case rel => exact ⟨q + 1, by omega, by go_num, by rw [HYQ.out]; exact HQ.out, HWx.out⟩
            case measure => simp [intOf]; omega
set_option maxRecDepth 100000 in
set_option maxHeartbeats 2000000 in
theorem relC_any (s : Sy) (K N : Nat) (hF : Fine s K N) (acc : Nat → Bool) (g1 g2 : Nat) (A SV AV AX : Option Addr) (kc ks kv kx : Nat) (w : World) (hS : SyAt w w.heap.size A SV AV AX s)
    (hAc : ∀ (i : Nat) (X : World), i < s.vs.length → Below w.heap.size w X → Calls Tryz.prog 86 #[.int .i64 (i : Int), .pointer (some ⟨g1, 0, none⟩), .pointer (some ⟨g2, 0, none⟩)] X fun e w' => e = .returned (.bool (acc i)) ∧ Below X.heap.size X w') :
    Calls Tryz.prog 83 #[.agg (s.vs_ A kc SV ks AV kv AX kx), .func (.func 86) #[] #[.pointer (some ⟨g1, 0, none⟩), .pointer (some ⟨g2, 0, none⟩)]] w fun e w' => ∃ AO ko, e = .returned (.slice AO (relE s K N acc).length ko) ∧ IAt w' w'.heap.size AO (relE s K N acc) ∧ FrI w.heap.size AO (relE s K N acc).length ∧ Below w.heap.size w w' := by
  obtain ⟨w1, hw1, d0, d1, hs1, hB⟩ := cboxes w (s.vs_ A kc SV ks AV kv AX kx) (boolA (List.replicate s.vs.length false)) 36 4
  have HS0 := Lib.hid hS
  have HAC := Lib.hid hAc
  have HF := Lib.hid hF
  have hmk := make_bools s.vs.length (by have := hF.lv; omega)
  unfold Sy.vs_ at hw1 d0 ⊢
  have hpk := hF.k
  rw [hpk] at hw1 d0 ⊢
  have HW1 := Lib.hid hw1
  have HB := Lib.hid hB
  have HD0 := Lib.hid d0
  have HD1 := Lib.hid d1
  have hlx := hF.lx
  have hlv := hF.lv
  have hk6 := hF.k6
  have hn5 := hF.n5
  clear hw1 d0 d1 hB hS hAc hF hpk
  go_enter Tryz.func83, Tryz.ntmps83
  go_wp2_with fail
  rw [HW1.out]
  go_loopw [22] (fun i wr => ∃ k : Nat, k ≤ s.xs.length ∧ i = .int .i64 (k : Int) ∧ Hid (wr.heap[w.heap.size + 1]? = some (.cells (boolA (yesK s K N k)) 4 (0, 0))) ∧ Hid (wr.heap[w.heap.size]? = w1.heap[w.heap.size]?) ∧ Hid (Below w.heap.size w wr)) (fun i _ => s.xs.length - (intOf i).toNat)
  case atStart => exact ⟨0, by omega, rfl, HD1.out, rfl, HB.out⟩
  case round =>
    obtain ⟨k, hk, rfl, HY, HS, HBL⟩ := hrel
    have hszr : w.heap.size + 1 < wr.heap.size := blk_lt HY.out
    have d0 := HS.out.trans HD0.out
    by_cases hlt : k < s.xs.length
    case neg =>
      obtain rfl : k = s.xs.length := by omega
      clear HW1 HB HD1
      go_wp2_with fail
      obtain ⟨w5, rfl⟩ : ∃ x, x = wr := ⟨_, rfl⟩
      have hyl := yesK_len s K N s.xs.length
      obtain ⟨yl, hyy⟩ : ∃ yl, yesK s K N s.xs.length = yl := ⟨_, rfl⟩
      rw [hyy] at HY hyl
      have HYY := Lib.hid hyy
      have HYL := Lib.hid hyl
      clear hyy hyl
      go_loopw [11, 54] (fun o i wx => ∃ j : Nat, j ≤ s.vs.length ∧ i = .int .i64 (j : Int) ∧ Hid (OwnR kIn wx w5.heap.size o (relK s K N acc j).length ((relK s K N acc j).map (Value.int .i64))) ∧ Hid (Below w5.heap.size w5 wx)) (fun _ i _ => s.vs.length - (intOf i).toNat)
      case atStart => exact ⟨0, by omega, rfl, OwnR.nil _ _ _, Below.refl _ _⟩
      case round =>
        obtain ⟨j, hj, rfl, HO, hb⟩ := hrel
        by_cases hjl : j < s.vs.length
        case neg =>
          obtain rfl : j = s.vs.length := by omega
          obtain ⟨AO, ko, eO, hI⟩ := own_iat HO.out
          rw [eO]
          have HI := Lib.hid hI
          have HFR := Lib.hid ((own_fr HO.out eO).mono HBL.out.size)
          clear eO hI HO
          go_wp2_with fail
          go_ret
          exact ⟨AO, ko, rfl, HI.out, HFR.out, HBL.out.trans (hb.out.mono (by omega))⟩
        case pos =>
          obtain ⟨AO, ko, eO, hu1, hu2, hu3⟩ := HO.out.form
          subst eO
          clear hu1 hu2 hu3
          have hsz := hb.out.size
          have hjy : j < yl.length := by have := HYL.out; omega
          have y0 : wr.cell? ⟨w.heap.size + 1, j, none⟩ = some (.bool yl[j]) := blk_cell ((hb.out.block _ (by omega)).trans HY.out) j (boolA_at yl j hjy)
          have hgy : (yesK s K N s.xs.length).getD j false = yl[j] := by rw [HYY.out, List.getD_eq_getElem?_getD, List.getElem?_eq_getElem hjy]; rfl
          have hj0 : (0 : Int) ≤ (j : Int) := by omega
          have hj1 : (j : Int) < (s.vs.length : Int) := by omega
          have HKN := Lib.hid (@relK_no s K N acc j)
          have HKY := Lib.hid (@relK_yes s K N acc j)
          rw [hgy] at HKN HKY
          have HLK := Lib.hid (relK_len s K N acc j)
          have HCC := Lib.hid (HAC.out j wr hjl (HBL.out.trans (hb.out.mono (by omega))))
          obtain ⟨yb, hyb⟩ : ∃ yb, yl[j] = yb := ⟨_, rfl⟩
          rw [hyb] at y0 HKN HKY
          clear hgy hyb
          cases yb with
          | false =>
            have HHY : Hid (relK s K N acc (j + 1) = relK s K N acc j) := HKN.out rfl
            clear HKN HKY HCC
            go_wp2_with fail
            go_roundw
            case rel => exact ⟨j + 1, by omega, by go_num, by rw [HHY.out]; exact HO.out, hb.out⟩
            case measure => simp [intOf]; omega
          | true =>
            go_wp2_with fail
            refine HCC.out.mono ?_
            rintro e w6 ⟨rfl, hb6⟩
            have HB6 := Lib.hid (hb.out.trans (hb6.mono hsz))
            have HO6 := Lib.hid (HO.out.below hb6 (Nat.le_refl _))
            clear hb6 HCC y0
            obtain ⟨ab, hab⟩ : ∃ ab, acc j = ab := ⟨_, rfl⟩
            rw [hab] at HKN HKY
            rw [hab]
            clear hab
            cases ab with
            | false =>
              have HHY : Hid (relK s K N acc (j + 1) = relK s K N acc j) := HKN.out rfl
              clear HKN HKY
              go_wp2_with fail
              go_roundw
              case rel => exact ⟨j + 1, by omega, by go_num, by rw [HHY.out]; exact HO6.out, HB6.out⟩
              case measure => simp [intOf]; omega
            | true =>
              have HHY : Hid (relK s K N acc (j + 1) = relK s K N acc j ++ [(j : Int)]) := HKY.out rfl
              have HRN := Lib.hid (HO6.out.alloc (.cells #[.int .i64 j] 3))
              have HGN := Lib.hid (blk_new w6 (.cells #[.int .i64 j] 3))
              have HDZ : Hid (w5.heap.size ≤ (w6.alloc (.cells #[.int .i64 j] 3)).heap.size) := by show _ ≤ _; have := HB6.out.size; simp; omega
              have HLZ : Hid ((relK s K N acc j).length ≤ 1000000000) := by show _ ≤ _; have := HLK.out; omega
              have HLE : Hid ((relK s K N acc (j + 1)).length = (relK s K N acc j).length + 1) := by show _ = _; rw [HHY.out]; simp
              clear HKN HKY
              go_wp2_with (at_builtin; refine wpList_appR kIn_ok rfl (.tmp 65) (.tmp 67) rfl w5.heap.size (.slice AO (relK s K N acc j).length ko) (relK s K N acc j).length ((relK s K N acc j).map (Value.int .i64)) rfl HRN.out w6.heap.size #[.int .i64 j] rfl HGN.out rfl (by simp [Value.oneCell']) HLZ.out HDZ.out _ rfl ?_; intro g' cap w12 hr7 hg7 hat7 hlt7; have HR7 := Lib.hid hr7; have HG7 : Hid (Below w5.heap.size w5 w12) := ((HB6.out.trans ((bel1 w6 _).mono HB6.out.size)).grown hg7 (by exact HDZ.out) (fun k hk => (HO6.out.lt k hk).1)); clear hr7 hg7 hat7 hlt7)
              go_roundw
              case rel => exact ⟨j + 1, by omega, by go_num, by rw [HLE.out, HHY.out, List.map_append]; exact HR7.out, HG7.out⟩
              case measure => simp [intOf]; omega
    case pos =>
      obtain ⟨bx, ox, A1, c1, A2, c2, eA, hbx, y0, y1, y2, hWd, hL⟩ := (HS0.out.fx.keep HBL.out).row k hlt
      subst eA
      have hxm := List.getElem_mem hlt
      obtain ⟨hvl, hvr⟩ := HF.out.views _ hxm
      obtain ⟨m, hm, hm32⟩ := mask_nat HF.out.n1 HF.out.n5 (HF.out.word _ hxm).2
      have hyk : yesK s K N (k + 1) = yesRow m (s.xs[k].views.getD K []) (yesK s K N k) N := by
        rw [yesK, List.getD_eq_getElem?_getD, List.getElem?_eq_getElem hlt]
        show yesRow (maskE N s.xs[k]).toNat (s.xs[k].views.getD K []) _ N = _
        rw [hm, Int.toNat_natCast]
      obtain ⟨W3, hW3, b3, hs3, hB3⟩ := onebox wr #[.int .i64 s.xs[k].c, .slice A1 s.xs[k].word.length c1, .slice A2 s.xs[k].views.length c2] 42
      have HOB := Lib.hid (fun kc ks kv kx => obliged_any s K N HF.out s.xs[k] hxm A SV AV (some ⟨bx, ox, none⟩) A1 A2 kc ks kv kx c1 c2 W3 (((hWd.more (by omega)).keep hB3).more hB3.size))
      rw [hm] at HOB
      obtain ⟨x, hx⟩ : ∃ x, s.xs[k] = x := ⟨_, rfl⟩
      rw [hx] at y0 y1 y2 hL hvl hvr hyk hW3 b3 HOB
      unfold Sy.vs_ at HOB
      rw [HF.out.k] at HOB
      have hKl : K < x.views.length := by omega
      obtain ⟨bl, ol, A3, c3, eA, hbl, v0, hI⟩ := hL.at_ K hKl
      subst eA
      have hrow := hvr _ (List.getElem_mem hKl)
      have hgr : x.views.getD K [] = x.views[K] := by rw [List.getD_eq_getElem?_getD, List.getElem?_eq_getElem hKl]; rfl
      obtain ⟨row, hrw⟩ : ∃ row, x.views[K] = row := ⟨_, rfl⟩
      rw [hgr, hrw] at hyk
      rw [hrw] at v0 hI hrow
      obtain ⟨hrl, hri⟩ := hrow
      have HW3 := Lib.hid hW3
      have HB3 := Lib.hid hB3
      have HX3 := Lib.hid b3
      have d3 := (hB3.block _ (by omega : w.heap.size < wr.heap.size)).trans d0
      have HD3 := Lib.hid d3
      have HY3 := Lib.hid ((hB3.block _ hszr).trans HY.out)
      have HYK := Lib.hid hyk
      have HRI := Lib.hid hri
      have HII := Lib.hid hI
      have HV0 := Lib.hid v0
      have hww : w.heap.size < wr.heap.size := by omega
      have hbxw : bx < wr.heap.size := by omega
      have hk0 : (0 : Int) ≤ (k : Int) := by omega
      have hk1 : (k : Int) < (s.xs.length : Int) := by omega
      have p9 : wr.cell? ⟨w.heap.size, 9, none⟩ = some (.slice (some ⟨bx, ox, none⟩) s.xs.length kx) := blk_cell d0 9 rfl
      have p0 := blk_cell d0 0 rfl
      have p1 := blk_cell d0 1 rfl
      have p2 := blk_cell d0 2 rfl
      have p3 := blk_cell d0 3 rfl
      have p4 := blk_cell d0 4 rfl
      have p5 := blk_cell d0 5 rfl
      have p6 : wr.cell? ⟨w.heap.size, 6, none⟩ = some (.int .i64 (K : Int)) := blk_cell d0 6 rfl
      have p7 := blk_cell d0 7 rfl
      have p8 := blk_cell d0 8 rfl
      clear hW3 b3 hB3 hL hI v0 hrw hgr hx hxm hvl hvr hm hyk hri hWd d3 d0 HY
      go_wp2_with fail
      rw [HW3.out]
      refine (HOB.out _ _ _ _).mono ?_
      rintro e w4 ⟨rfl, hb4⟩
      have hs4 := hb4.size
      have HB4 := Lib.hid (HBL.out.trans ((HB3.out.trans (hb4.mono (by omega))).mono (by omega)))
      have d4 := (hb4.block _ (by omega : w.heap.size < W3.heap.size)).trans HD3.out
      have b4 := (hb4.block _ (blk_lt HX3.out)).trans HX3.out
      have HY4 := Lib.hid ((hb4.block _ (by omega : w.heap.size + 1 < W3.heap.size)).trans HY3.out)
      have HD4 := Lib.hid d4
      have HI4 := Lib.hid ((HII.out.keep (HB3.out.mono (by omega))).keep (hb4.mono (by omega)))
      clear p0 p1 p2 p3 p4 p5 p6 p7 p8 p9
      have p6 : w4.cell? ⟨w.heap.size, 6, none⟩ = some (.int .i64 (K : Int)) := blk_cell d4 6 rfl
      have z2 : w4.cell? ⟨wr.heap.size, 2, none⟩ = some (.slice (some ⟨bl, ol, none⟩) x.views.length c2) := blk_cell b4 2 rfl
      have v4 : w4.cell? ⟨bl, ol + K, none⟩ = some (.slice A3 row.length c3) := (hb4.cell (p := ⟨bl, ol + K, none⟩) (by show bl < _; omega)).trans ((HB3.out.cell (p := ⟨bl, ol + K, none⟩) (by show bl < _; omega)).trans HV0.out)
      have hK0 : (0 : Int) ≤ (K : Int) := by omega
      have hK1 : (K : Int) < (x.views.length : Int) := by omega
      clear hb4 d4 b4 HOB HW3 HY3 HX3 HII HV0 y0 y1 y2
      go_wp2_with fail
      clear p6 z2 v4
      have HRL := Lib.hid hrl
      have hb14 : w.heap.size + 1 < w4.heap.size := by omega
      obtain ⟨wp, rfl⟩ : ∃ x, x = wr := ⟨_, rfl⟩
      go_loopw [37] (fun i wx => ∃ q : Nat, q ≤ N ∧ i = .int .i64 (q : Int) ∧ Hid (wx.heap[w.heap.size + 1]? = some (.cells (boolA (yesRow m row (yesK s K N k) q)) 4 (0, 0))) ∧ Hid (Wrote (fun b => b = w.heap.size + 1) w4 wx)) (fun i _ => N - (intOf i).toNat)
      case atStart => exact ⟨0, by omega, rfl, HY4.out, Wrote.refl _ _⟩
      case round =>
        obtain ⟨q, hq, rfl, HQ, HWx⟩ := hrel
        have hszx := HWx.out.size
        have HBX : Hid (Below w.heap.size w4 wr) := HWx.out.below (by omega) (fun b h1 h2 => by have h3 : b = w.heap.size + 1 := h2; omega)
        by_cases hqN : q < N
        case neg =>
          obtain rfl : q = N := by omega
          have hqr : ¬ ((q : Int) < (row.length : Int)) := by omega
          have HYN : Hid (wr.heap[w.heap.size + 1]? = some (.cells (boolA (yesK s K q (k + 1))) 4 (0, 0))) := by show _ = _; rw [HYK.out]; exact HQ.out
          have HSN : Hid (wr.heap[w.heap.size]? = w1.heap[w.heap.size]?) := (HWx.out.block _ (by omega) (fun h => by have h3 : w.heap.size = w.heap.size + 1 := h; omega)).trans (HD4.out.trans HD0.out.symm)
          clear HQ
          go_wp2_with fail
          go_roundw
          case rel => exact ⟨k + 1, by omega, by go_num, HYN, HSN, HB4.out.trans HBX.out⟩
          case measure => simp [intOf]; omega
        case pos =>
          have hqr : (q : Int) < (row.length : Int) := by omega
          have hql : q < row.length := by omega
          obtain ⟨br, orr, eA, hbr, u0⟩ := HI4.out.at_ q hql
          subst eA
          have u1 := (HBX.out.cell (p := ⟨br, orr + q, none⟩) hbr).trans u0
          have hyi := HRI.out _ (List.getElem_mem hql)
          obtain ⟨y, hy⟩ : ∃ y, row[q] = y := ⟨_, rfl⟩
          rw [hy] at u1 hyi
          obtain ⟨yN, rfl⟩ := Int.eq_ofNat_of_zero_le hyi.1
          have hgy : (row.getD q 0).toNat = yN := by rw [List.getD_eq_getElem?_getD, List.getElem?_eq_getElem hql, hy]; rfl
          have hyl : yN < (yesRow m row (yesK s K N k) q).length := by rw [yesRow_len, yesK_len]; omega
          obtain ⟨yb, c0⟩ : ∃ yb, wr.cell? ⟨w.heap.size + 1, yN, none⟩ = some (.bool yb) := ⟨_, blk_cell HQ.out yN (boolA_at _ _ hyl)⟩
          have f0 := blk_froz HQ.out yN
          have hbt := bit_test hm32 (show q < 5 by omega)
          have hq0 : (0 : Int) ≤ (q : Int) := by omega
          have hq5 : (q : Int) < 5 := by omega
          have hm0 : (0 : Int) ≤ (m : Int) := by omega
          have hy0 : (0 : Int) ≤ (yN : Int) := by omega
          have hy1 : (yN : Int) < (s.vs.length : Int) := by omega
          clear u0 hy hyi
          by_cases hbit : m.testBit q = true
          · rw [hbit] at hbt
            have HYQ : Hid (yesRow m row (yesK s K N k) (q + 1) = (yesRow m row (yesK s K N k) q).set yN true) := by show _ = _; rw [yesRow, if_pos hbit, hgy]
            have HQS : Hid ((wr.setCell ⟨w.heap.size + 1, yN, none⟩ (.bool true)).heap[w.heap.size + 1]? = some (.cells (boolA (yesRow m row (yesK s K N k) (q + 1))) 4 (0, 0))) := by show _ = _; rw [heap_setCell_same wr _ yN _ _ _ HQ.out, boolA_set, HYQ.out]
            have HWS : Hid (Wrote (fun b => b = w.heap.size + 1) w4 (wr.setCell ⟨w.heap.size + 1, yN, none⟩ (.bool true))) := HWx.out.trans (wrote_set wr (w.heap.size + 1) yN _) (fun _ _ h => h)
            clear hbit hgy hyl
            go_wp2_with fail
            go_roundw
            case rel => exact ⟨q + 1, by omega, by go_num, HQS, HWS⟩
            case measure => simp [intOf]; omega
          · have hbf : m.testBit q = false := by simpa using hbit
            rw [hbf] at hbt
            have HYQ : Hid (yesRow m row (yesK s K N k) (q + 1) = yesRow m row (yesK s K N k) q) := by show _ = _; rw [yesRow, if_neg hbit]
            clear hbit hbf hgy hyl
            go_wp2_with fail
            go_roundw
            case rel => exact ⟨q + 1, by omega, by go_num, by rw [HYQ.out]; exact HQ.out, HWx.out⟩
            case measure => simp [intOf]; omega
end Go.Proofs.YtnikmmdadflefaaGreatDoor
namespace Go.Proofs.YtnikmmdadflefaaGreatDoor
open Go.RowKit
attribute [local go_sem] Oper.semAt_some
def climbE (vs : List Vw) (r : Int) : Nat → Int → Int
  | 0, l => l
  | n + 1, l => if r < (vs.getD l.toNat default).r then climbE vs r n ((vs.getD l.toNat default).h (vs.getD l.toNat default).p.toNat) else l
def clB (vs : List Vw) (i later : Int) : Bool := decide (climbE vs (vs.getD i.toNat default).r 7 later = i)
set_option maxRecDepth 100000 in
set_option maxHeartbeats 2000000 in
theorem xcont_any (s : Sy) (K N : Nat) (hF : Fine s K N) (n : Int) (AV : Option Addr) (kv i l0 : Nat) (hi : i < s.vs.length) (hl0 : l0 < s.vs.length) (w : World) (hV : VAt w w.heap.size AV s.vs) :
    Calls Tryz.prog 87 #[.agg #[.int .i64 n, .slice AV s.vs.length kv], .int .i64 (i : Int), .int .i64 (l0 : Int)] w fun e w' => e = .returned (.bool (clB s.vs i l0)) ∧ Below w.heap.size w w' := by
  obtain ⟨w1, hw1, d0, hs1, hB⟩ := onebox w #[.int .i64 n, .slice AV s.vs.length kv] 33
  have HV1 := Lib.hid ((hV.keep hB).more hB.size)
  have HF := Lib.hid hF
  obtain ⟨vi, hvi⟩ : ∃ vi, s.vs[i] = vi := ⟨_, rfl⟩
  have hgi : s.vs.getD ((i : Int).toNat) default = vi := by rw [Int.toNat_natCast, List.getD_eq_getElem?_getD, List.getElem?_eq_getElem hi, hvi]; rfl
  have HC : Hid (clB s.vs i l0 = decide (climbE s.vs vi.r 7 l0 = (i : Int))) := by show _ = _; unfold clB; rw [hgi]
  obtain ⟨R, hR⟩ : ∃ R, clB s.vs i l0 = R := ⟨_, rfl⟩
  rw [hR] at HC ⊢
  have HW1 := Lib.hid hw1
  have HB := Lib.hid hB
  have HD := Lib.hid d0
  have hlv := hF.lv
  obtain ⟨⟨qi, hvp, hqN⟩, ⟨ri, hvr, hrK⟩, hown⟩ := hF.vs vi (by rw [← hvi]; exact List.getElem_mem hi)
  have hk6 := hF.k6
  have hn5 := hF.n5
  have HVI := Lib.hid hvi
  have HVR := Lib.hid hvr
  have hstart : ∃ m : Nat, (s.vs.getD ((l0 : Int).toNat) default).r < m ∧ climbE s.vs vi.r 7 l0 = climbE s.vs vi.r m l0 := ⟨7, by
    rw [Int.toNat_natCast, List.getD_eq_getElem?_getD, List.getElem?_eq_getElem hl0]
    obtain ⟨_, ⟨r, hr, hrk⟩, _⟩ := hF.vs s.vs[l0] (List.getElem_mem hl0)
    show (s.vs[l0]).r < _
    omega, rfl⟩
  have HST := Lib.hid hstart
  clear hw1 d0 hB hV hF hvi hgi hR hown hstart hvr hvp
  go_enter Tryz.func87, Tryz.ntmps87
  go_wp2_with fail
  rw [HW1.out]
  go_loopw [2] (fun c wr => ∃ l : Nat, l < s.vs.length ∧ c = .int .i64 (l : Int) ∧ Hid (∃ m : Nat, (s.vs.getD ((l : Int).toNat) default).r < m ∧ climbE s.vs vi.r 7 l0 = climbE s.vs vi.r m l) ∧ Hid (Below w1.heap.size w1 wr)) (fun c _ => ((s.vs.getD (intOf c).toNat default).r).toNat)
  case atStart => exact ⟨l0, hl0, rfl, HST.out, Below.refl _ _⟩
  case round =>
    obtain ⟨l, hl, rfl, HM, hb⟩ := hrel
    obtain ⟨v, hv⟩ : ∃ v, s.vs[l] = v := ⟨_, rfl⟩
    have hgl : s.vs.getD ((l : Int).toNat) default = v := by rw [Int.toNat_natCast, List.getD_eq_getElem?_getD, List.getElem?_eq_getElem hl, hv]; rfl
    obtain ⟨⟨q, hvp, hqN'⟩, ⟨r, hvr, hrK'⟩, hown⟩ := HF.out.vs v (by rw [← hv]; exact List.getElem_mem hl)
    obtain ⟨m, hm, hcl⟩ := HM.out
    rw [hgl] at hm
    have hsz := hb.out.size
    have d0 := (hb.out.block _ (by omega : w.heap.size < w1.heap.size)).trans HD.out
    have x1 : wr.cell? ⟨w.heap.size, 1, none⟩ = some (.slice AV s.vs.length kv) := blk_cell d0 1 rfl
    have HVW := Lib.hid (HV1.out.keep hb.out)
    obtain ⟨b, o, eA, hbv, c0, c1, c2, c3, c4, c5, c6, c7⟩ := HVW.out.row l hl
    obtain ⟨b', o', eA', hbv', e0, e1, e2, e3, e4, e5, e6, e7⟩ := HVW.out.row i hi
    rw [eA] at eA'
    cases eA'
    subst eA
    rw [hv] at c0 c1 c2 c3 c4 c5 c6 c7
    rw [HVI.out] at e1
    rw [hvp] at c0
    rw [hvr] at c1
    rw [HVR.out] at e1
    have hi0 : (0 : Int) ≤ (i : Int) := by omega
    have hi1 : (i : Int) < (s.vs.length : Int) := by omega
    have hl0' : (0 : Int) ≤ (l : Int) := by omega
    have hl1 : (l : Int) < (s.vs.length : Int) := by omega
    clear d0 e0 e2 e3 e4 e5 e6 e7
    by_cases hgt : ri < r
    case neg =>
      have hgt' : ¬ ((ri : Int) < (r : Int)) := by omega
      have hRf : Hid (R = decide ((l : Int) = (i : Int))) := HC.out.trans (by
        rw [hcl]
        cases m with
        | zero => rfl
        | succ m => rw [climbE, hgl, if_neg (by rw [hvr, HVR.out]; exact hgt')])
      clear hgl hm hcl hown hv hvp hvr HM
      go_wp2_with fail
      go_quiet (fail)
      go_wp2_with fail
      go_ret
      exact ⟨ret_bool (by rw [hRf.out]; first | rfl | (rw [Bool.eq_iff_iff]; simp)), HB.out.trans ((belN hb.out nq).mono (by omega))⟩
    case pos =>
      have hgt' : (ri : Int) < (r : Int) := by omega
      obtain ⟨u, ⟨hu0, hu1⟩, hup, hur⟩ := hown (by rw [hvr]; omega)
      obtain ⟨l', hl'⟩ := Int.eq_ofNat_of_zero_le hu0
      have hhq : v.h v.p.toNat = v.h q := by rw [hvp]; rfl
      rw [hhq] at hl' hu1
      rw [hl', Int.toNat_natCast] at hu1
      obtain ⟨hll, hue⟩ := List.getElem?_eq_some_iff.1 hu1
      have hgl2 : s.vs.getD ((l' : Int).toNat) default = u := by rw [Int.toNat_natCast, List.getD_eq_getElem?_getD, hu1]; rfl
      have HN : Hid (∃ m : Nat, (s.vs.getD ((l' : Int).toNat) default).r < m ∧ climbE s.vs vi.r 7 l0 = climbE s.vs vi.r m l') := by
        obtain ⟨m', rfl⟩ : ∃ m', m = m' + 1 := ⟨m - 1, by omega⟩
        refine ⟨m', by rw [hgl2]; omega, ?_⟩
        rw [hcl, climbE, hgl, if_pos (by rw [hvr, HVR.out]; exact hgt'), hhq, hl']
      have HMS : Hid (((s.vs.getD ((l' : Int).toNat) default).r).toNat < ((s.vs.getD ((l : Int).toNat) default).r).toNat) := by show _ < _; rw [hgl, hgl2]; omega
      have hq0 : (0 : Int) ≤ (q : Int) := by omega
      have hq5 : (q : Int) < 5 := by omega
      have HHL := Lib.hid hl'
      have HQH := Lib.hid (Vw.cells_h v q (by omega))
      have HVP := Lib.hid hvp
      have HVRR := Lib.hid hvr
      have hbw : b < wr.heap.size := by omega
      have hww : w.heap.size < wr.heap.size := by omega
      clear hgl hm hcl hown hv hvp hvr HM hgl2 hue hu1 hup hur hu0 hhq hl'
      go_wp2_with fail
      go_quiet (fail)
      obtain ⟨X, hX⟩ : ∃ X, wr.drewN nq = X := ⟨_, rfl⟩
      rw [hX]
      have HBX : Hid (Below w1.heap.size w1 X) := by rw [← hX]; exact belN hb.out nq
      have x1' : X.cell? ⟨w.heap.size, 1, none⟩ = some (.slice (some ⟨b, o, none⟩) s.vs.length kv) := by rw [← hX]; exact x1
      have c0' : X.cell? ⟨b, o + l * 8, none⟩ = some (.int .i64 (q : Int)) := by rw [← hX]; exact c0
      have c1' : X.cell? ⟨b, o + l * 8 + 1, none⟩ = some (.int .i64 (r : Int)) := by rw [← hX]; exact c1
      have c2' : X.cell? ⟨b, o + l * 8 + 2, none⟩ = some (.int .i64 v.i) := by rw [← hX]; exact c2
      have c3' : X.cell? ⟨b, o + l * 8 + 3, none⟩ = some (.int .i64 v.h0) := by rw [← hX]; exact c3
      have c4' : X.cell? ⟨b, o + l * 8 + 4, none⟩ = some (.int .i64 v.h1) := by rw [← hX]; exact c4
      have c5' : X.cell? ⟨b, o + l * 8 + 5, none⟩ = some (.int .i64 v.h2) := by rw [← hX]; exact c5
      have c6' : X.cell? ⟨b, o + l * 8 + 6, none⟩ = some (.int .i64 v.h3) := by rw [← hX]; exact c6
      have c7' : X.cell? ⟨b, o + l * 8 + 7, none⟩ = some (.int .i64 v.h4) := by rw [← hX]; exact c7
      have hbX : b < X.heap.size := by rw [← hX]; exact hbw
      have hwX : w.heap.size < X.heap.size := by rw [← hX]; exact hww
      clear hX
      obtain ⟨W5, hW5, b5, hs5, hB5⟩ := onebox X #[.int .i64 (q : Int), .int .i64 (r : Int), .int .i64 v.i, .int .i64 v.h0, .int .i64 v.h1, .int .i64 v.h2, .int .i64 v.h3, .int .i64 v.h4] 92
      have HW5 := Lib.hid hW5
      have HB5 : Hid (Below w1.heap.size w1 W5) := HBX.out.trans (hB5.mono HBX.out.size)
      have z2 : (#[.int .i64 (q : Int), .int .i64 (r : Int), .int .i64 v.i, .int .i64 v.h0, .int .i64 v.h1, .int .i64 v.h2, .int .i64 v.h3, .int .i64 v.h4] : Array Value)[3 + q]? = some (.int .i64 (l' : Int)) := by
        rw [← HHL.out]
        have e : (v.cells : Array Value) = #[.int .i64 (q : Int), .int .i64 (r : Int), .int .i64 v.i, .int .i64 v.h0, .int .i64 v.h1, .int .i64 v.h2, .int .i64 v.h3, .int .i64 v.h4] := by
          unfold Vw.cells; rw [HVP.out, HVRR.out]
        rw [← e]; exact HQH.out
      have z1 : (X.alloc (.cells #[.int .i64 (q : Int), .int .i64 (r : Int), .int .i64 v.i, .int .i64 v.h0, .int .i64 v.h1, .int .i64 v.h2, .int .i64 v.h3, .int .i64 v.h4] 92)).cell? ⟨X.heap.size, 3 + q, none⟩ = some (.int .i64 (l' : Int)) := by rw [hW5]; exact blk_cell b5 (3 + q) z2
      clear hW5 b5 hB5
      go_wp2_with fail
      rw [HW5.out]
      go_roundw
      case rel => exact ⟨l', hll, rfl, HN.out, HB5.out⟩
      case measure => exact HMS.out
end Go.Proofs.YtnikmmdadflefaaGreatDoor
namespace Go.Proofs.YtnikmmdadflefaaGreatDoor
open Go.RowKit
attribute [local go_sem] Oper.semAt_some
theorem relT_any (i : Nat) (w : World) : Calls Tryz.prog 84 #[.int .i64 (i : Int)] w fun e w' => e = .returned (.bool true) ∧ Below w.heap.size w w' := by
  go_enter Tryz.func84, Tryz.ntmps84
  go_wp2_with fail
  go_ret
  exact ⟨rfl, Below.refl _ _⟩
set_option maxRecDepth 100000 in
set_option maxHeartbeats 2000000 in
theorem conF_any (s : Sy) (K N : Nat) (hF : Fine s K N) (A SV AV AX : Option Addr) (kc ks kv kx : Nat) (i j : Nat) (hi : i < s.vs.length) (hj : j < s.vs.length) (g1 g2 : Nat) (w : World) (hV : VAt w w.heap.size AV s.vs)
    (h1 : w.heap[g1]? = some (.cells (s.vs_ A kc SV ks AV kv AX kx) 36 (0, 0))) (h2 : w.heap[g2]? = some (.cells #[.int .i64 (i : Int)] 3 (0, 0))) :
    Calls Tryz.prog 86 #[.int .i64 (j : Int), .pointer (some ⟨g1, 0, none⟩), .pointer (some ⟨g2, 0, none⟩)] w fun e w' => e = .returned (.bool (clB s.vs i j)) ∧ Below w.heap.size w w' := by
  have HC := Lib.hid (xcont_any s K N hF s.n AV kv i j hi hj w hV)
  have x7 : w.cell? ⟨g1, 7, none⟩ = some (.int .i64 s.n) := blk_cell h1 7 rfl
  have x8 : w.cell? ⟨g1, 8, none⟩ = some (.slice AV s.vs.length kv) := blk_cell h1 8 rfl
  have x0 : w.cell? ⟨g2, 0, none⟩ = some (.int .i64 (i : Int)) := blk_cell h2 0 rfl
  clear h1 h2 hF hV
  go_enter Tryz.func86, Tryz.ntmps86
  go_wp2_with fail
  refine HC.out.mono ?_
  rintro e w2 ⟨rfl, hb2⟩
  have HB := Lib.hid hb2
  clear hb2 HC
  go_wp2_with fail
  go_ret
  exact ⟨rfl, HB.out⟩
def relvE (s : Sy) : List Int := if verE s ≠ 0 then [] else relE s s.p.k.toNat s.n.toNat (fun _ => true)
def clE (s : Sy) (i : Int) : List Int := if viewxE s i ≠ 0 then [] else relE s s.p.k.toNat s.n.toNat (fun j => clB s.vs i j)
set_option maxRecDepth 100000 in
set_option maxHeartbeats 2000000 in
theorem relevant_any (s : Sy) (hs : LowS s) (hf : FewX s.p) (A SV AV AX : Option Addr) (kc ks kv kx : Nat) (w : World) (hS : SyAt w w.heap.size A SV AV AX s) :
    Calls Tryz.prog 34 #[.agg (s.vs_ A kc SV ks AV kv AX kx)] w (RetLE (relvE s) (verE s) w) := by
  obtain ⟨w1, hw1, d0, hs1, hB⟩ := onebox w (s.vs_ A kc SV ks AV kv AX kx) 36
  have HV := Lib.hid (ver_any s hs hf A SV AV AX kc ks kv kx w1 (hS.up hB))
  have HS1 := Lib.hid (hS.up hB)
  have HH : Hid (relvE s = if verE s ≠ 0 then [] else relE s s.p.k.toNat s.n.toNat (fun _ => true)) := rfl
  have HVF := Lib.hid (fun h => ver_fine hf h)
  obtain ⟨R, hR⟩ : ∃ R, relvE s = R := ⟨_, rfl⟩
  obtain ⟨r, hr⟩ : ∃ r, verE s = r := ⟨_, rfl⟩
  rw [hr] at HV HH HVF ⊢
  rw [hR] at HH ⊢
  have HRR := Lib.hid (fun (K N : Nat) (hF : Fine s K N) (W : World) (hW : SyAt W W.heap.size A SV AV AX s) => relA_any s K N hF (fun _ => true) A SV AV AX kc ks kv kx W hW (fun i X _ _ => relT_any i X))
  unfold Sy.vs_ at hw1 d0 HV HRR ⊢
  have HW1 := Lib.hid hw1
  have HB := Lib.hid hB
  have HD := Lib.hid d0
  have p0 := blk_cell d0 0 rfl
  have p1 := blk_cell d0 1 rfl
  have p2 := blk_cell d0 2 rfl
  have p3 := blk_cell d0 3 rfl
  have p4 := blk_cell d0 4 rfl
  have p5 := blk_cell d0 5 rfl
  have p6 := blk_cell d0 6 rfl
  have p7 := blk_cell d0 7 rfl
  have p8 := blk_cell d0 8 rfl
  have p9 := blk_cell d0 9 rfl
  clear hw1 d0 hB hS hr hR hs hf
  go_enter Tryz.func34, Tryz.ntmps34
  go_wp2_with fail
  rw [HW1.out]
  go_wp2_with fail
  refine HV.out.mono ?_
  rintro e w2 ⟨rfl, hb2⟩
  have HB2 := Lib.hid (HB.out.trans (hb2.mono (by omega)))
  have HS2 := Lib.hid (HS1.out.up hb2)
  have d0 := (hb2.block _ (by omega : w.heap.size < w1.heap.size)).trans HD.out
  clear p0 p1 p2 p3 p4 p5 p6 p7 p8 p9 hb2 HV HW1 HS1 HD
  by_cases h0 : r = 0
  case neg =>
    have hR : Hid (R = []) := HH.out.trans (if_pos h0)
    have e0 : (r != 0) = true := by simpa using h0
    clear HH HVF h0 d0 HRR
    go_wp2_with fail
    go_ret2
    rw [hR.out]
    exact ⟨none, 0, rfl, fun h => absurd h (by simp), HB2.out⟩
  case pos =>
  subst h0
  obtain ⟨hsb, K, N, hF⟩ := HVF.out rfl
  clear hsb
  have hRR : R = relE s s.p.k.toNat s.n.toNat (fun _ => true) := HH.out.trans (if_neg (by simp))
  rw [hF.k, hF.n, Int.toNat_natCast, Int.toNat_natCast] at hRR
  have HR2 := Lib.hid hRR
  have HC := Lib.hid (HRR.out K N hF w2 HS2.out)
  have p0 := blk_cell d0 0 rfl
  have p1 := blk_cell d0 1 rfl
  have p2 := blk_cell d0 2 rfl
  have p3 := blk_cell d0 3 rfl
  have p4 := blk_cell d0 4 rfl
  have p5 := blk_cell d0 5 rfl
  have p6 := blk_cell d0 6 rfl
  have p7 := blk_cell d0 7 rfl
  have p8 := blk_cell d0 8 rfl
  have p9 := blk_cell d0 9 rfl
  clear HH HVF hRR hF HRR d0 HS2
  go_wp2_with fail
  refine HC.out.mono ?_
  rintro e w3 ⟨AO, ko, rfl, hI, _, hb3⟩
  have HI := Lib.hid hI
  have HB3 := Lib.hid (HB2.out.trans (hb3.mono HB2.out.size))
  clear hI hb3 HC p0 p1 p2 p3 p4 p5 p6 p7 p8 p9
  go_wp2_with fail
  go_ret2
  rw [HR2.out]
  exact ⟨AO, ko, rfl, HI.out, HB3.out⟩
def RetLEF (xs : List Int) (n : Int) (w : World) (e : Ending) (w' : World) : Prop := ∃ A c, e = .returned (.tuple #[.slice A xs.length c, .int .i64 n]) ∧ IAt w' w'.heap.size A xs ∧ FrI w.heap.size A xs.length ∧ Below w.heap.size w w'
set_option maxRecDepth 100000 in
set_option maxHeartbeats 2000000 in
theorem continuingF_any (s : Sy) (hs : LowS s) (hf : FewX s.p) (i : Int) (A SV AV AX : Option Addr) (kc ks kv kx : Nat) (w : World) (hS : SyAt w w.heap.size A SV AV AX s) :
    Calls Tryz.prog 36 #[.agg (s.vs_ A kc SV ks AV kv AX kx), .int .i64 i] w (RetLEF (clE s i) (viewxE s i) w) := by
  obtain ⟨w1, hw1, d0, d1, hs1, hB⟩ := cboxes w (s.vs_ A kc SV ks AV kv AX kx) #[.int .i64 i] 36 3
  have HV := Lib.hid (view_any s hs hf i A SV AV AX kc ks kv kx w1 (hS.up hB))
  have HS1 := Lib.hid (hS.up hB)
  have HH : Hid (clE s i = if viewxE s i ≠ 0 then [] else relE s s.p.k.toNat s.n.toNat (fun j => clB s.vs i j)) := rfl
  have HE : Hid (viewxE s i = if verE s ≠ 0 then verE s else if i < 0 ∨ (s.vs.length : Int) ≤ i then 6 else 0) := rfl
  have HVF := Lib.hid (fun h => ver_fine hf h)
  obtain ⟨R, hR⟩ : ∃ R, clE s i = R := ⟨_, rfl⟩
  obtain ⟨r, hr⟩ : ∃ r, viewxE s i = r := ⟨_, rfl⟩
  rw [hr] at HV HE HH ⊢
  rw [hR] at HH ⊢
  have HRR := Lib.hid (fun (K N iN : Nat) (hF : Fine s K N) (hi : iN < s.vs.length) (W : World) (hW : SyAt W W.heap.size A SV AV AX s) (g1 g2 : Nat) (hg1 : W.heap[g1]? = some (.cells (s.vs_ A kc SV ks AV kv AX kx) 36 (0, 0))) (hg2 : W.heap[g2]? = some (.cells #[.int .i64 (iN : Int)] 3 (0, 0))) =>
    relC_any s K N hF (fun j => clB s.vs iN j) g1 g2 A SV AV AX kc ks kv kx W hW (fun j X hj hX => conF_any s K N hF A SV AV AX kc ks kv kx iN j hi hj g1 g2 X ((hW.fv.keep hX).more hX.size) ((hX.block _ (blk_lt hg1)).trans hg1) ((hX.block _ (blk_lt hg2)).trans hg2)))
  unfold Sy.vs_ at hw1 d0 HV HRR ⊢
  have HW1 := Lib.hid hw1
  have HB := Lib.hid hB
  have HD := Lib.hid d0
  have HD1 := Lib.hid d1
  have p0 := blk_cell d0 0 rfl
  have p1 := blk_cell d0 1 rfl
  have p2 := blk_cell d0 2 rfl
  have p3 := blk_cell d0 3 rfl
  have p4 := blk_cell d0 4 rfl
  have p5 := blk_cell d0 5 rfl
  have p6 := blk_cell d0 6 rfl
  have p7 := blk_cell d0 7 rfl
  have p8 := blk_cell d0 8 rfl
  have p9 := blk_cell d0 9 rfl
  have q0 := blk_cell d1 0 rfl
  clear hw1 d0 d1 hB hS hr hR hs hf
  go_enter Tryz.func36, Tryz.ntmps36
  go_wp2_with fail
  rw [HW1.out]
  go_wp2_with fail
  refine HV.out.mono ?_
  rintro e w2 ⟨rfl, hb2⟩
  have HB2 := Lib.hid (HB.out.trans (hb2.mono (by omega)))
  have HS2 := Lib.hid (HS1.out.up hb2)
  have d0 := (hb2.block _ (by omega : w.heap.size < w1.heap.size)).trans HD.out
  have d1 := (hb2.block _ (by omega : w.heap.size + 1 < w1.heap.size)).trans HD1.out
  clear p0 p1 p2 p3 p4 p5 p6 p7 p8 p9 q0 hb2 HV HW1 HS1 HD HD1
  by_cases h0 : r = 0
  case neg =>
    have hR : Hid (R = []) := HH.out.trans (if_pos h0)
    have e0 : (r != 0) = true := by simpa using h0
    clear HH HVF h0 d0 d1 HRR HE
    go_wp2_with fail
    go_ret2
    rw [hR.out]
    exact ⟨none, 0, rfl, fun h => absurd h (by simp), fun h => absurd h (by simp), HB2.out⟩
  case pos =>
  subst h0
  have hv0 : verE s = 0 := by
    by_cases h : verE s = 0
    · exact h
    · have := HE.out; rw [if_pos h] at this; exact absurd this.symm h
  have hi : ¬ (i < 0 ∨ (s.vs.length : Int) ≤ i) := fun h => by
    have := HE.out; rw [if_neg (by simpa using hv0), if_pos h] at this; cases this
  obtain ⟨hsb, K, N, hF⟩ := HVF.out hv0
  clear hsb
  obtain ⟨iN, rfl⟩ := Int.eq_ofNat_of_zero_le (show 0 ≤ i by omega)
  have hRR : R = relE s s.p.k.toNat s.n.toNat (fun j => clB s.vs iN j) := HH.out.trans (if_neg (by simp))
  rw [hF.k, hF.n, Int.toNat_natCast, Int.toNat_natCast] at hRR
  have HR2 := Lib.hid hRR
  have HC := Lib.hid (HRR.out K N iN hF (by omega) w2 HS2.out (w.heap.size) (w.heap.size + 1) d0 d1)
  have p0 := blk_cell d0 0 rfl
  have p1 := blk_cell d0 1 rfl
  have p2 := blk_cell d0 2 rfl
  have p3 := blk_cell d0 3 rfl
  have p4 := blk_cell d0 4 rfl
  have p5 := blk_cell d0 5 rfl
  have p6 := blk_cell d0 6 rfl
  have p7 := blk_cell d0 7 rfl
  have p8 := blk_cell d0 8 rfl
  have p9 := blk_cell d0 9 rfl
  clear HH HVF hRR hF HRR d0 d1 HS2 hv0 hi HE
  go_wp2_with fail
  refine HC.out.mono ?_
  rintro e w3 ⟨AO, ko, rfl, hI, hfr, hb3⟩
  have HI := Lib.hid hI
  have HB3 := Lib.hid (HB2.out.trans (hb3.mono HB2.out.size))
  have HFR := Lib.hid (hfr.mono HB2.out.size)
  clear hI hfr hb3 HC p0 p1 p2 p3 p4 p5 p6 p7 p8 p9
  go_wp2_with fail
  go_ret2
  rw [HR2.out]
  exact ⟨AO, ko, rfl, HI.out, HFR.out, HB3.out⟩
theorem continuing_any (s : Sy) (hs : LowS s) (hf : FewX s.p) (i : Int) (A SV AV AX : Option Addr) (kc ks kv kx : Nat) (w : World) (hS : SyAt w w.heap.size A SV AV AX s) :
    Calls Tryz.prog 36 #[.agg (s.vs_ A kc SV ks AV kv AX kx), .int .i64 i] w (RetLE (clE s i) (viewxE s i) w) :=
  (continuingF_any s hs hf i A SV AV AX kc ks kv kx w hS).mono fun _ _ ⟨A, c, e, hI, _, hb⟩ => ⟨A, c, e, hI, hb⟩
end Go.Proofs.YtnikmmdadflefaaGreatDoor
namespace Go.Proofs.YtnikmmdadflefaaGreatDoor
open Go.RowKit
theorem consB_iff {vs : List Vw} : ∀ {l : List Nat}, consB vs l = true ↔ ∀ a b, b < a → a < l.length → clash vs (l.getD b 0) (l.getD a 0) = false
  | [] => by simp [consB]
  | x :: l => by
    have ih := consB_iff (vs := vs) (l := l)
    simp only [consB, Bool.and_eq_true, List.all_eq_true, Bool.not_eq_true', ih]
    constructor
    · rintro ⟨h1, h2⟩ a b hb ha
      cases a with
      | zero => omega
      | succ a =>
        simp at ha
        cases b with
        | zero =>
          simp only [List.getD_cons_zero, List.getD_cons_succ]
          refine h1 _ ?_
          rw [List.getD_eq_getElem?_getD, List.getElem?_eq_getElem ha]
          exact List.getElem_mem ha
        | succ b =>
          simp only [List.getD_cons_succ]
          exact h2 a b (by omega) ha
    · intro h
      refine ⟨fun y hy => ?_, fun a b hb ha => ?_⟩
      · obtain ⟨j, hj, rfl⟩ := List.mem_iff_getElem.1 hy
        have := h (j + 1) 0 (by omega) (by simp; omega)
        simpa [hj] using this
      · have := h (a + 1) (b + 1) (by omega) (by simp; omega)
        simpa using this
end Go.Proofs.YtnikmmdadflefaaGreatDoor
namespace Go.Proofs.YtnikmmdadflefaaGreatDoor
def ascN (n : Nat) (p : Nat → Bool) : List Nat := (List.range n).filter p
def castL (l : List Nat) : List Int := l.map fun k : Nat => (k : Int)
def asc (n : Nat) (p : Nat → Bool) : List Int := castL (ascN n p)
theorem mem_castL {l : List Nat} {k : Nat} : ((k : Int) ∈ castL l) ↔ k ∈ l := by
  unfold castL
  rw [List.mem_map]
  constructor
  · rintro ⟨a, ha, e⟩
    have : a = k := by omega
    subst this; exact ha
  · intro h; exact ⟨k, h, rfl⟩
theorem asc_length (n : Nat) (p : Nat → Bool) : (asc n p).length ≤ n := by
  unfold asc castL ascN
  rw [List.length_map]
  exact Nat.le_trans (List.length_filter_le _ _) (by simp)
theorem castL_length (l : List Nat) : (castL l).length = l.length := by simp [castL]
theorem past_len (vs : List Vw) (l : List Nat) : (castL (pastL vs l)).length ≤ vs.length := asc_length _ _
end Go.Proofs.YtnikmmdadflefaaGreatDoor
namespace Go.Proofs.YtnikmmdadflefaaGreatDoor
open Go.RowKit
theorem keep10 {W0 X : World} {B g b o0 o1 o2 o3 o4 o5 o6 o7 : Nat} {u0 u1 u2 u3 u4 u5 u6 u7 u8 u9 : Value} (hb : Below B W0 X) (hg : g < B) (hbb : b < B)
    (h : W0.cell? ⟨g, 0, none⟩ = some u0 ∧ W0.cell? ⟨g, 1, none⟩ = some u1 ∧ W0.cell? ⟨b, o0, none⟩ = some u2 ∧ W0.cell? ⟨b, o1, none⟩ = some u3 ∧ W0.cell? ⟨b, o2, none⟩ = some u4 ∧
      W0.cell? ⟨b, o3, none⟩ = some u5 ∧ W0.cell? ⟨b, o4, none⟩ = some u6 ∧ W0.cell? ⟨b, o5, none⟩ = some u7 ∧ W0.cell? ⟨b, o6, none⟩ = some u8 ∧ W0.cell? ⟨b, o7, none⟩ = some u9) :
    X.cell? ⟨g, 0, none⟩ = some u0 ∧ X.cell? ⟨g, 1, none⟩ = some u1 ∧ X.cell? ⟨b, o0, none⟩ = some u2 ∧ X.cell? ⟨b, o1, none⟩ = some u3 ∧ X.cell? ⟨b, o2, none⟩ = some u4 ∧
      X.cell? ⟨b, o3, none⟩ = some u5 ∧ X.cell? ⟨b, o4, none⟩ = some u6 ∧ X.cell? ⟨b, o5, none⟩ = some u7 ∧ X.cell? ⟨b, o6, none⟩ = some u8 ∧ X.cell? ⟨b, o7, none⟩ = some u9 := by
  obtain ⟨h0, h1, h2, h3, h4, h5, h6, h7, h8, h9⟩ := h
  exact ⟨(hb.cell hg).trans h0, (hb.cell hg).trans h1, (hb.cell hbb).trans h2, (hb.cell hbb).trans h3, (hb.cell hbb).trans h4, (hb.cell hbb).trans h5, (hb.cell hbb).trans h6, (hb.cell hbb).trans h7, (hb.cell hbb).trans h8, (hb.cell hbb).trans h9⟩
theorem castL_kids (v : Vw) : castL (kids v) = (heardL v).map (·.2) := by
  unfold castL kids
  rw [List.map_map]
  refine List.map_congr_left fun x hx => ?_
  obtain ⟨_, q, _, rfl, h0⟩ := mem_heardL.1 hx
  simp
  omega
end Go.Proofs.YtnikmmdadflefaaGreatDoor
namespace Go.Proofs.YtnikmmdadflefaaGreatDoor
open Go.RowKit
theorem arr_index (v : Vw) (k : Nat) (hk : k < 5) (w : World) : (Instr.index 43 (.agg #[.int .i64 v.h0, .int .i64 v.h1, .int .i64 v.h2, .int .i64 v.h3, .int .i64 v.h4]) (.int .i64 (k : Int))).run Tryz.prog w = .ok (.int .i64 (v.h k)) w := by
  obtain rfl | rfl | rfl | rfl | rfl : k = 0 ∨ k = 1 ∨ k = 2 ∨ k = 3 ∨ k = 4 := by omega
  all_goals kernel_rfl
theorem begE_out {n : Int} {v : Vw} (h : v.p < 0 ∨ n ≤ v.p ∨ v.r < 0 ∨ 6 < v.r ∨ (v.r = 0 ∧ (v.i < 0 ∨ 8 ≤ v.i))) : begE n v = 2 := by
  unfold begE; rw [if_pos (by simpa [begOut] using h)]
theorem begE_form {n : Int} {v : Vw} (h : begOut n v = false) (h2 : 0 < v.r ∧ v.i ≠ 0) : begE n v = 3 := by
  unfold begE; rw [if_neg (by simp [h]), if_pos h2]
theorem begE_bad {n : Int} {v : Vw} (h : begOut n v = false) {k : Nat} (hk : k < 5) (h2 : begBad n v k = true) : begE n v = 3 := by
  unfold begE
  rw [if_neg (by simp [h])]
  split
  · rfl
  · rw [if_pos (List.any_eq_true.2 ⟨k, by simpa using hk, h2⟩)]
theorem begE_fine {n : Int} {v : Vw} (h : begOut n v = false) (h2 : ¬ (0 < v.r ∧ v.i ≠ 0)) (h3 : ∀ j, j < 5 → begBad n v j = false) : begE n v = 0 := by
  unfold begE
  rw [if_neg (by simp [h]), if_neg h2, if_neg (by
    rw [List.any_eq_true]
    rintro ⟨j, hj, hb⟩
    rw [h3 j (by simpa using hj)] at hb
    cases hb)]
set_option maxRecDepth 100000 in
set_option maxHeartbeats 1000000 in
theorem beginning_out (n : Int) (v : Vw) (w : World) (h1 : v.p < 0 ∨ n ≤ v.p ∨ v.r < 0 ∨ 6 < v.r ∨ (v.r = 0 ∧ (v.i < 0 ∨ 8 ≤ v.i))) :
    Calls Tryz.prog 177 #[.int .i64 n, .agg v.cells] w fun e w' => e = .returned (.int .i64 (begE n v)) ∧ Below w.heap.size w w' := by
  have H : Hid (begE n v = 2) := begE_out h1
  have HB := bel1 w
  unfold Vw.cells
  go_enter Tryz.func177, Tryz.ntmps177
  go_wp2
  all_goals (try (exfalso; omega))
  all_goals
    go_ret
    exact ⟨ret_int H.out.symm, HB _⟩
set_option maxRecDepth 100000 in
set_option maxHeartbeats 1000000 in
theorem beginning_zero (n : Int) (v : Vw) (w : World) (hp0 : 0 ≤ v.p) (hp1 : v.p < n) (_hr1 : v.r ≤ 6) (hr : v.r = 0) (hi0 : 0 ≤ v.i) (hi1 : v.i < 8) :
    Calls Tryz.prog 177 #[.int .i64 n, .agg v.cells] w fun e w' => e = .returned (.int .i64 (begE n v)) ∧ Below w.heap.size w w' := by
  have hout : Hid (begOut n v = false) := by show begOut n v = false; simp [begOut]; omega
  have HB := bel1 w
  have hr' : (v.r == 0) = true := by simp [hr]
  have hr0 : v.r ≤ 0 := by omega
  have hr00 : 0 ≤ v.r := by omega
  have HR := Lib.hid hr
  clear hr
  unfold Vw.cells
  go_enter Tryz.func177, Tryz.ntmps177
  go_wp2
  go_loop [49] (fun i => ∃ k : Nat, k ≤ 5 ∧ i = .int .i64 k ∧ Hid (∀ j : Nat, j < k → begBad n v j = false)) (fun i => 5 - (intOf i).toNat)
  case atStart => exact ⟨0, by omega, rfl, fun j hj => by omega⟩
  case round =>
    obtain ⟨k, hk, rfl, hall⟩ := hrel
    by_cases hlt : k < 5
    · have hix := arr_index v k hlt
      have hbk : Hid (begBad n v k = decide (v.h k ≠ -1 ∧ (v.r = 0 ∨ n ≤ (k : Int)))) := rfl
      by_cases hm : v.h k = -1
      · have hm' : (v.h k != -1) = false := by simp [hm]
        have HM := Lib.hid hm
        clear hm
        go_wp2
        go_round
        case rel =>
          refine ⟨k + 1, by omega, by go_num, fun j hj => ?_⟩
          by_cases e : j = k
          · subst e; rw [hbk.out]; simp [HM.out]
          · exact hall.out j (by omega)
        case measure => simp [intOf]; omega
      · have hm' : (v.h k != -1) = true := by simpa using hm
        have HM := Lib.hid hm
        clear hm
        go_wp2
        go_ret
        exact ⟨ret_int (begE_bad hout.out hlt (by rw [hbk.out]; simp; exact ⟨HM.out, Or.inl HR.out⟩)).symm, HB _⟩
    · obtain rfl : k = 5 := by omega
      go_wp2
      go_ret
      exact ⟨ret_int (begE_fine hout.out (by have := HR.out; omega) hall.out).symm, HB _⟩
set_option maxRecDepth 100000 in
set_option maxHeartbeats 1000000 in
theorem beginning_later (n : Int) (v : Vw) (w : World) (hp0 : 0 ≤ v.p) (hp1 : v.p < n) (hr1 : v.r ≤ 6) (hr : 0 < v.r) (hi : v.i = 0) :
    Calls Tryz.prog 177 #[.int .i64 n, .agg v.cells] w fun e w' => e = .returned (.int .i64 (begE n v)) ∧ Below w.heap.size w w' := by
  have hout : Hid (begOut n v = false) := by show begOut n v = false; simp [begOut]; omega
  have HB := bel1 w
  have hr' : (v.r == 0) = false := by simp; omega
  have hi' : (v.i != 0) = false := by simp [hi]
  have HI := Lib.hid hi
  clear hi
  unfold Vw.cells
  go_enter Tryz.func177, Tryz.ntmps177
  go_wp2
  go_loop [49] (fun i => ∃ k : Nat, k ≤ 5 ∧ i = .int .i64 k ∧ Hid (∀ j : Nat, j < k → begBad n v j = false)) (fun i => 5 - (intOf i).toNat)
  case atStart => exact ⟨0, by omega, rfl, fun j hj => by omega⟩
  case round =>
    obtain ⟨k, hk, rfl, hall⟩ := hrel
    by_cases hlt : k < 5
    · have hix := arr_index v k hlt
      have hbk : Hid (begBad n v k = decide (v.h k ≠ -1 ∧ (v.r = 0 ∨ n ≤ (k : Int)))) := rfl
      by_cases hm : v.h k = -1
      · have hm' : (v.h k != -1) = false := by simp [hm]
        have HM := Lib.hid hm
        clear hm
        go_wp2
        go_round
        case rel =>
          refine ⟨k + 1, by omega, by go_num, fun j hj => ?_⟩
          by_cases e : j = k
          · subst e; rw [hbk.out]; simp [HM.out]
          · exact hall.out j (by omega)
        case measure => simp [intOf]; omega
      · have hm' : (v.h k != -1) = true := by simpa using hm
        have HM := Lib.hid hm
        clear hm
        by_cases hq : n ≤ (k : Int)
        · go_wp2
          go_ret
          exact ⟨ret_int (begE_bad hout.out hlt (by rw [hbk.out]; simp; exact ⟨HM.out, by omega⟩)).symm, HB _⟩
        · go_wp2
          go_round
          case rel =>
            refine ⟨k + 1, by omega, by go_num, fun j hj => ?_⟩
            by_cases e : j = k
            · subst e; rw [hbk.out]; simp; intro _; omega
            · exact hall.out j (by omega)
          case measure => simp [intOf]; omega
    · obtain rfl : k = 5 := by omega
      go_wp2
      go_ret
      exact ⟨ret_int (begE_fine hout.out (by rw [HI.out]; simp) hall.out).symm, HB _⟩
set_option maxRecDepth 100000 in
set_option maxHeartbeats 1000000 in
theorem beginning_form (n : Int) (v : Vw) (w : World) (hp0 : 0 ≤ v.p) (hp1 : v.p < n) (hr1 : v.r ≤ 6) (hr : 0 < v.r) (hi : v.i ≠ 0) :
    Calls Tryz.prog 177 #[.int .i64 n, .agg v.cells] w fun e w' => e = .returned (.int .i64 (begE n v)) ∧ Below w.heap.size w w' := by
  have hout : begOut n v = false := by simp [begOut]; omega
  have H : Hid (begE n v = 3) := begE_form hout ⟨hr, hi⟩
  have HB := bel1 w
  have hr' : (v.r == 0) = false := by simp; omega
  have hi' : (v.i != 0) = true := by simpa using hi
  clear hout hi
  unfold Vw.cells
  go_enter Tryz.func177, Tryz.ntmps177
  go_wp2
  go_ret
  exact ⟨ret_int H.out.symm, HB _⟩
theorem beginning_any (n : Int) (v : Vw) (w : World) :
    Calls Tryz.prog 177 #[.int .i64 n, .agg v.cells] w fun e w' => e = .returned (.int .i64 (begE n v)) ∧ Below w.heap.size w w' := by
  by_cases h1 : v.p < 0 ∨ n ≤ v.p ∨ v.r < 0 ∨ 6 < v.r ∨ (v.r = 0 ∧ (v.i < 0 ∨ 8 ≤ v.i))
  · exact beginning_out n v w h1
  · by_cases hr : v.r = 0
    · exact beginning_zero n v w (by omega) (by omega) (by omega) hr (by omega) (by omega)
    · by_cases hi : v.i = 0
      · exact beginning_later n v w (by omega) (by omega) (by omega) (by omega) hi
      · exact beginning_form n v w (by omega) (by omega) (by omega) (by omega) hi
end Go.Proofs.YtnikmmdadflefaaGreatDoor
namespace Go.Proofs.YtnikmmdadflefaaGreatDoor
open Go.RowKit
set_option maxHeartbeats 2000000 in
set_option maxRecDepth 100000 in
theorem clone_int (A : Option Addr) (cap : Nat) (xs : List Int) (w : World) (hA : IAt w w.heap.size A xs) (hl : xs.length ≤ 1000000) :
    Calls Tryz.prog 105 #[.slice A xs.length cap] w (RetInts xs w) := by
  have HT := Lib.hid hA
  clear hA
  have q : ∀ (w : World) (a : Option Addr) (n c n' c' : Nat), (binOp .eql 49 (.slice a n c) (.slice none n' c')).run Tryz.prog w = .ok (.bool a.isNone) w := fun w a n c n' c' => Lib.run_eql_slice_nil w _ _ a n c n' c' Tryz.underlying49
  obtain ⟨i0, hi, hz0, hz1, hz2⟩ := info_parts info_int
  cases A with
  | none =>
    have hvs : xs = [] := by
      rcases Nat.eq_zero_or_pos xs.length with h | h
      · exact List.eq_nil_of_length_eq_zero h
      · obtain ⟨b, off, e, _⟩ := HT.out h; cases e
    go_enter Tryz.func105, Tryz.ntmps105
    go_wp2
    go_ret
    exact ⟨_, rfl, by rw [hvs]; exact Own.nil _ _, Below.refl _ _⟩
  | some ad =>
    go_enter Tryz.func105, Tryz.ntmps105
    go_wp2_with (at_builtin; refine wpList_append_own _ rfl _ _ 49 rfl w.heap.size 3 i0 _ 1 8 Tryz.underlying49 hi hz0 hz1 hz2 rfl (by decide) _ _ _ rfl (World.ownsRow_made w #[] 0 (Nat.le_refl _) (Nat.zero_le _) rfl) ad xs.length cap (xs.map (Value.int .i64)) rfl ?qc1 ?qc2 ?qc3 ?qc4 ?qc5 ?qc6 ?_)
    case qc1 => simp
    case qc2 =>
      intro j u hj
      obtain ⟨x, hx, rfl⟩ : ∃ x, xs[j]? = some x ∧ Value.int .i64 x = u := by simpa using hj
      obtain ⟨hjl, rfl⟩ := List.getElem?_eq_some_iff.1 hx
      obtain ⟨b, off, e, hlt, hc⟩ := HT.out (by omega)
      cases e
      rw [Addr.add_lit]
      exact Lib.cell?_alloc_some _ (hc j hjl)
    case qc3 => intro u hu; obtain ⟨x, _, rfl⟩ := List.mem_map.1 hu; rfl
    case qc4 => unfold maxLen; omega
    case qc5 => omega
    case qc6 => simp
    intro v' w1 hown hgrow hnil
    go_wp2
    go_ret
    refine ⟨v', rfl, by unfold Own; simpa using hown, ?_⟩
    exact ((Below.refl _ w).alloc (Nat.le_refl _) _).grown hgrow (by simp) (by intro k hk; simp [Value.ownBlock] at hk; omega)
end Go.Proofs.YtnikmmdadflefaaGreatDoor
namespace Go.Proofs.YtnikmmdadflefaaGreatDoor
open Go.RowKit Go.Shelf
attribute [local go_sem] Oper.semAt_some
theorem heard_any (v : Vw) (w : World) : Calls Tryz.prog 106 #[.agg v.cells] w fun e w' =>
    e = .returned (.func (.func 152) #[] #[.pointer (some ⟨w.heap.size, 0, none⟩)]) ∧ w.alloc (.cells v.cells 92) = w' := by
  unfold Vw.cells
  go_enter Tryz.func106, Tryz.ntmps106
  go_wp2
  go_ret
  exact ⟨rfl, rfl⟩
theorem index_heard (v : Vw) (k : Nat) (hk : k < 5) (w : World) : (Instr.index 43 (.agg #[.int .i64 v.h0, .int .i64 v.h1, .int .i64 v.h2, .int .i64 v.h3, .int .i64 v.h4]) (.int .i64 (k : Int))).run Tryz.prog w = .ok (.int .i64 (v.h k)) w := by
  obtain rfl | rfl | rfl | rfl | rfl : k = 0 ∨ k = 1 ∨ k = 2 ∨ k = 3 ∨ k = 4 := by omega
  all_goals kernel_rfl
set_option maxRecDepth 100000 in
set_option maxHeartbeats 1000000 in
theorem heard1_iter (v : Vw) (bx : Nat) (w : World) (hb : w.heap[bx]? = some (.cells v.cells 92)) :
    Iter Tryz.prog 152 #[.pointer (some ⟨bx, 0, none⟩)] (fun x : Int × Int => #[.int .i64 x.1, .int .i64 x.2]) (· = bx) (heardL v) w := fun n hn l J Jx W hW hJ hJx hY h0 => by
  have hbx : bx < w.heap.size := (Array.getElem?_eq_some_iff.1 hb).1
  have hb0 : W.heap[bx]? = some (.cells v.cells 92) := (hW.block bx hbx).trans hb
  have cells : ∀ X : World, X.heap[bx]? = some (.cells v.cells 92) → ∀ k u, v.cells[k]? = some u → X.cell? ⟨bx, k, none⟩ = some u := fun X hX k u hk => by
    rw [cell_of_row X bx k _ _ _ hX]; exact hk
  have row : ∀ X : World, X.heap[bx]? = some (.cells v.cells 92) → X.cell? ⟨bx, 1, none⟩ = some (.int .i64 v.r) := fun X hX => cells X hX 1 _ rfl
  have c3 : W.cell? ⟨bx, 3, none⟩ = some (.int .i64 v.h0) := cells W hb0 3 _ rfl
  have c4 : W.cell? ⟨bx, 4, none⟩ = some (.int .i64 v.h1) := cells W hb0 4 _ rfl
  have c5 : W.cell? ⟨bx, 5, none⟩ = some (.int .i64 v.h2) := cells W hb0 5 _ rfl
  have c6 : W.cell? ⟨bx, 6, none⟩ = some (.int .i64 v.h3) := cells W hb0 6 _ rfl
  have c7 : W.cell? ⟨bx, 7, none⟩ = some (.int .i64 v.h4) := cells W hb0 7 _ rfl
  have hrow := Lib.hid row
  have HY := Lib.hid hY
  clear cells row hY
  refine callsIn_of_wp Tryz.func152 rfl trivial ?_ rfl
  simp only [Tryz.ntmps152, List.size_toArray, List.length_cons, List.length_nil, Nat.reduceAdd, Nat.reduceSub, Array.replicate_succ, Array.replicate_zero, List.push_toArray, List.append_toArray, List.nil_append, List.cons_append]
  gi_wp2
  gi_loopw [7] (fun p wr => ∃ k : Nat, k ≤ 5 ∧ p = .int .i64 k ∧ ∃ pre : List { x : Int × Int // x ∈ heardL v }, pre.map (·.1) = heardTo v k ∧ J pre wr ∧ wr.heap[bx]? = some (.cells v.cells 92)) (fun p _ => 5 - (intOf p).toNat)
  case atStart => exact ⟨0, by omega, rfl, [], by simp [heardTo], h0, hb0⟩
  case round =>
    obtain ⟨k, hk, rfl, pre, hp, hJ0, hbr⟩ := hrel
    clear c3 c4 c5 c6 c7 h0 hb0 hW hb
    by_cases hlt : k < 5
    · have hix := index_heard v k hlt
      have d1 := hrow.out wr hbr
      by_cases hc : 0 < v.r ∧ 0 ≤ v.h k
      · obtain ⟨hc1, hc2⟩ := hc
        have hm : ((k : Int), v.h k) ∈ heardL v := mem_heardL.2 ⟨hc1, k, hlt, rfl, hc2⟩
        have hyes := heardTo_yes hc1 hc2
        have hlen : pre.length < (heardL v).length := by
          have h1 : pre.length = (heardTo v k).length := by rw [← hp, List.length_map]
          have h2 := (heardTo_le (v := v) (k := k + 1) (m := 5) (by omega)).length_le
          rw [hyes] at h2
          simp at h2
          show _ < (heardTo v 5).length
          omega
        obtain ⟨fn, tmps, assign, body, hy, hR⟩ := HY.out pre ⟨((k : Int), v.h k), hm⟩ wr hJ0 hlen
        dsimp only at hy
        have Hy := Lib.hid hyes
        have Hp := Lib.hid hp
        have HR := Lib.hid hR
        clear hyes hp hR
        gi_wp2_with fail
        refine HR.out.mono ?_
        rintro e W3 (⟨rfl, hJ3, hk3⟩ | ⟨rfl, hJx3⟩)
        · have hb3 : W3.heap[bx]? = some (.cells v.cells 92) := (hk3.same bx rfl (Array.getElem?_eq_some_iff.1 hbr).1).trans hbr
          gi_wp2_with fail
          go_roundw
          case rel => exact ⟨k + 1, by omega, by go_num, _, by rw [Hy.out, List.map_append, Hp.out]; rfl, hJ3, hb3⟩
          case measure => simp [intOf]; omega
        · gi_wp2_with fail
          refine bodyPost_ret (results_none rfl _ _ _) rfl ?_
          exact ⟨⟨_, rfl⟩, .inr ⟨_, by rw [List.map_append, Hp.out]; show _ ++ [((k : Int), v.h k)] <+: _; rw [← Hy.out]; exact heardTo_le (by omega), hJx3⟩⟩
      · have hno := heardTo_no hc
        have Hn := Lib.hid hno
        have Hp := Lib.hid hp
        clear hno hp
        by_cases hr : 0 < v.r
        · have hq : ¬ 0 ≤ v.h k := fun h => hc ⟨hr, h⟩
          clear hc
          gi_wp2_with fail
          refine ⟨fun _ h => trivial, ?_⟩
          gi_wp2_with fail
          go_roundw
          case rel => exact ⟨k + 1, by omega, by go_num, pre, by rw [Hn.out, Hp.out], hJ0, hbr⟩
          case measure => simp [intOf]; omega
        · clear hc
          gi_wp2_with fail
          refine ⟨fun _ h => trivial, ?_⟩
          gi_wp2_with fail
          go_roundw
          case rel => exact ⟨k + 1, by omega, by go_num, pre, by rw [Hn.out, Hp.out], hJ0, hbr⟩
          case measure => simp [intOf]; omega
    · obtain rfl : k = 5 := by omega
      have Hp := Lib.hid hp
      clear hp
      gi_wp2_with fail
      go_end0
      exact ⟨⟨_, rfl⟩, .inl ⟨pre, Hp.out, hJ0⟩⟩
end Go.Proofs.YtnikmmdadflefaaGreatDoor
namespace Go.Proofs.YtnikmmdadflefaaGreatDoor
open Go.RowKit
def plEnc (x : Int × Int) : Value := .agg #[.int .i64 x.1, .int .i64 x.2]
theorem pl_inj (a b : Int × Int) (h : plEnc a = plEnc b) : a = b := by
  injection h with h
  obtain ⟨a0, a1⟩ := a
  obtain ⟨b0, b1⟩ := b
  simpa using h
open Classical in
theorem place_key : KeyOk Tryz.prog 246 plEnc where
  inj := pl_inj
  check := fun w em v => by
    have hu : Tryz.prog.underlying 246 = some (.struct (Tryz.prog.fieldsOf 246)) := by kernel_rfl
    have hf : (Tryz.prog.fieldsOf 246).toList.map (fun f => (f.name, f.type, f.offset)) = [("proc", 3, 0), ("round", 3, 1)] := by kernel_rfl
    have p0 := fun x0 x1 => part_int #[x0, x1] 0 x0 rfl w
    have p1 := fun x0 x1 => part_int #[x0, x1] 1 x1 rfl w
    unfold Instr.checkKey plEnc
    simp only [Sem.run_bind, run_underlying hu, Result.andThen_ok]
    rw [← Array.forIn_toList]
    generalize (Tryz.prog.fieldsOf 246).toList = fs at hf
    obtain ⟨f0, f1, rfl⟩ : ∃ f0 f1, fs = [f0, f1] := by
      have hl : fs.length = 2 := by simpa using congrArg List.length hf
      rcases fs with _ | ⟨f0, _ | ⟨f1, _ | ⟨f2, r⟩⟩⟩ <;> simp at hl
      exact ⟨_, _, rfl⟩
    clear hu
    simp only [List.map_cons, List.map_nil, List.cons.injEq, Prod.mk.injEq, and_true] at hf
    obtain ⟨⟨n0, t0, o0⟩, ⟨n1, t1, o1⟩⟩ := hf
    simp only [List.forIn_cons, List.forIn_nil, n0, n1, t0, t1, o0, o1, p0, p1, Sem.run_bind, Result.andThen_ok, check_int, ne_eq, String.reduceEq, not_false_eq_true, if_true, Sem.run_pure]
  equal := fun w a b => by
    have hu : Tryz.prog.underlying 246 = some (.struct (Tryz.prog.fieldsOf 246)) := by kernel_rfl
    have hi : Tryz.prog.underlying 3 = some (.int .i64) := Tryz.underlying3
    have hf : (Tryz.prog.fieldsOf 246).toList.map (fun f => (f.name, f.type, f.offset)) = [("proc", 3, 0), ("round", 3, 1)] := by kernel_rfl
    have p0 := fun x0 x1 => part_int #[x0, x1] 0 x0 rfl w
    have p1 := fun x0 x1 => part_int #[x0, x1] 1 x1 rfl w
    unfold Op.equal Op.maxDepth plEnc
    rw [run_equalIn_struct w 9999 246 _ _ hu (by kernel_rfl)]
    generalize (Tryz.prog.fieldsOf 246).toList = fs at hf
    obtain ⟨f0, f1, rfl⟩ : ∃ f0 f1, fs = [f0, f1] := by
      have hl : fs.length = 2 := by simpa using congrArg List.length hf
      rcases fs with _ | ⟨f0, _ | ⟨f1, _ | ⟨f2, r⟩⟩⟩ <;> simp at hl
      exact ⟨_, _, rfl⟩
    clear hu
    simp only [List.map_cons, List.map_nil, List.cons.injEq, Prod.mk.injEq, and_true] at hf
    obtain ⟨⟨n0, t0, o0⟩, ⟨n1, t1, o1⟩⟩ := hf
    have hd : (@decide (Value.agg #[.int .i64 a.1, .int .i64 a.2] = .agg #[.int .i64 b.1, .int .i64 b.2]) (propDecidable _)) = (a.1 == b.1 && a.2 == b.2) := by
      rw [Bool.eq_iff_iff]; simp
    rw [hd]
    cases h0 : (a.1 == b.1) <;> cases h1 : (a.2 == b.2) <;>
      simp only [Op.eqFields, n0, n1, t0, t1, o0, o1, p0, p1, Sem.run_bind, Result.andThen_ok, run_equalIn_int w _ 3 _ _ _ _ hi, h0, h1, ne_eq, not_false_eq_true, if_true, Bool.not_false, Bool.not_true, Bool.false_eq_true, if_false, Sem.run_pure, Bool.true_and, Bool.false_and, String.reduceEq]
  now := fun d hd => .inr fun a b => by
    have hu : Tryz.prog.underlying 246 = some (.struct (Tryz.prog.fieldsOf 246)) := by kernel_rfl
    rw [hu] at hd
    cases hd
    simp [Instr.sameNow]
  stays := fun a => by simp [Instr.sameBits, plEnc]
  kind := ⟨_, by have hu : Tryz.prog.underlying 246 = some (.struct (Tryz.prog.fieldsOf 246)) := by kernel_rfl
                 exact hu⟩
end Go.Proofs.YtnikmmdadflefaaGreatDoor
namespace Go.Proofs.YtnikmmdadflefaaGreatDoor
open Go.RowKit
structure DfsInv (vs : List Vw) (fs seen wait : List Nat) : Prop where
  from_ : ∀ c, c ∈ fs → c ∈ seen ∨ c ∈ wait
  kids_ : ∀ x, x ∈ seen → ∀ c, c ∈ kids (getV vs x) → c ∈ seen ∨ c ∈ wait
  good : ∀ x, x ∈ seen ∨ x ∈ wait → x < vs.length ∧ ∃ c, c ∈ fs ∧ reach vs c x = true
  nodup : seen.Nodup
  len : wait.length ≤ 5 * seen.length + fs.length
theorem kids_length (v : Vw) : (kids v).length ≤ 5 := by
  unfold kids heardL heardTo
  rw [List.length_map]
  split
  · exact Nat.le_trans (List.length_filterMap_le _ _) (by simp)
  · simp
theorem nodup_le : ∀ (n : Nat) (l : List Nat), l.Nodup → (∀ x, x ∈ l → x < n) → l.length ≤ n
  | 0, l, _, h => by
    cases l with
    | nil => simp
    | cons a l => have := h a (by simp); omega
  | n + 1, l, hd, h => by
    have h1 : (l.erase n).length ≤ n := nodup_le n (l.erase n) (hd.erase n) fun x hx => by
      have h2 := h x (List.mem_of_mem_erase hx)
      have h3 : x ≠ n := fun e => by subst e; exact (List.Nodup.not_mem_erase hd) hx
      omega
    have := List.le_length_erase (l := l) (a := n)
    omega
theorem DfsInv.start {vs : List Vw} {fs : List Nat} (h : ∀ c, c ∈ fs → c < vs.length) : DfsInv vs fs [] fs :=
  ⟨fun c hc => .inr hc, fun x hx => absurd hx (by simp), fun x hx => ⟨h x (by simpa using hx), x, by simpa using hx, reach_self vs x⟩, List.nodup_nil, by simp⟩
theorem DfsInv.skip {vs : List Vw} {fs seen wait : List Nat} {i : Nat} (h : DfsInv vs fs seen (wait ++ [i])) (hi : i ∈ seen) : DfsInv vs fs seen wait where
  from_ := fun c hc => by
    rcases h.from_ c hc with h1 | h1
    · exact .inl h1
    · rcases List.mem_append.1 h1 with h2 | h2
      · exact .inr h2
      · obtain rfl : c = i := by simpa using h2
        exact .inl hi
  kids_ := fun x hx c hc => by
    rcases h.kids_ x hx c hc with h1 | h1
    · exact .inl h1
    · rcases List.mem_append.1 h1 with h2 | h2
      · exact .inr h2
      · obtain rfl : c = i := by simpa using h2
        exact .inl hi
  good := fun x hx => h.good x (by rcases hx with h1 | h1 <;> simp [h1])
  nodup := h.nodup
  len := by have := h.len; simp at this; omega
theorem DfsInv.push {vs : List Vw} (ha : Acyc vs) {fs seen wait : List Nat} {i : Nat} (hf : ∀ c, c ∈ fs → c < vs.length) (h : DfsInv vs fs seen (wait ++ [i])) (hi : i ∉ seen) : DfsInv vs fs (i :: seen) (wait ++ kids (getV vs i)) where
  from_ := fun c hc => by
    rcases h.from_ c hc with h1 | h1
    · exact .inl (by simp [h1])
    · rcases List.mem_append.1 h1 with h2 | h2
      · exact .inr (by simp [h2])
      · obtain rfl : c = i := by simpa using h2
        exact .inl (by simp)
  kids_ := fun x hx c hc => by
    rcases List.mem_cons.1 hx with rfl | hx
    · exact .inr (by simp [hc])
    · rcases h.kids_ x hx c hc with h1 | h1
      · exact .inl (by simp [h1])
      · rcases List.mem_append.1 h1 with h2 | h2
        · exact .inr (by simp [h2])
        · obtain rfl : c = i := by simpa using h2
          exact .inl (by simp)
  good := fun x hx => by
    have hii := h.good i (by simp)
    rcases hx with h1 | h1
    · rcases List.mem_cons.1 h1 with rfl | h1
      · exact hii
      · exact h.good x (.inl h1)
    · rcases List.mem_append.1 h1 with h1 | h1
      · exact h.good x (.inr (by simp [h1]))
      · obtain ⟨hl, c, hc, hr⟩ := hii
        exact ⟨by have := ha i hl x h1; omega, c, hc, reach_step ha (hf c hc) hr h1⟩
  nodup := List.nodup_cons.2 ⟨hi, h.nodup⟩
  len := by have := h.len; have := kids_length (getV vs i); simp at *; omega
theorem DfsInv.small {vs : List Vw} {fs seen wait : List Nat} (h : DfsInv vs fs seen wait) : seen.length ≤ vs.length ∧ wait.length ≤ 5 * vs.length + fs.length := by
  have h1 := nodup_le vs.length seen h.nodup fun x hx => (h.good x (.inl hx)).1
  have := h.len
  omega
theorem DfsInv.room {vs : List Vw} {fs seen wait : List Nat} {i : Nat} (h : DfsInv vs fs seen (wait ++ [i])) (hi : i ∉ seen) : seen.length < vs.length := by
  have := nodup_le vs.length (i :: seen) (List.nodup_cons.2 ⟨hi, h.nodup⟩) fun x hx => by
    rcases List.mem_cons.1 hx with rfl | hx
    · exact (h.good _ (by simp)).1
    · exact (h.good x (.inl hx)).1
  simp at this
  omega
theorem DfsInv.done {vs : List Vw} (ha : Acyc vs) {fs seen : List Nat} (hf : ∀ c, c ∈ fs → c < vs.length) (h : DfsInv vs fs seen []) (x : Nat) (_hx : x < vs.length) : decide (x ∈ seen) = fs.any fun c => reach vs c x := by
  rw [Bool.eq_iff_iff]
  simp only [decide_eq_true_eq, List.any_eq_true]
  constructor
  · intro hs
    obtain ⟨_, c, hc, hr⟩ := h.good x (.inl hs)
    exact ⟨c, hc, hr⟩
  · rintro ⟨c, hc, hr⟩
    have hcs : c ∈ seen := by simpa using h.from_ c hc
    exact reach_closed ha (S := fun y => y ∈ seen) (fun y _ hy k hk => by simpa using h.kids_ y hy k hk) (hf c hc) hcs hr
def seenTo (seen : List Nat) (k : Nat) : List Int := castL ((List.range k).filter fun x => decide (x ∈ seen))
theorem seenTo_yes {seen : List Nat} {k : Nat} (h : k ∈ seen) : seenTo seen (k + 1) = seenTo seen k ++ [(k : Int)] := by simp [seenTo, castL, List.range_succ, List.filter_append, h]
theorem seenTo_no {seen : List Nat} {k : Nat} (h : k ∉ seen) : seenTo seen (k + 1) = seenTo seen k := by simp [seenTo, castL, List.range_succ, List.filter_append, h]
theorem seenTo_length (seen : List Nat) (k : Nat) : (seenTo seen k).length ≤ k := by
  unfold seenTo; rw [castL_length]; exact Nat.le_trans (List.length_filter_le _ _) (by simp)
theorem DfsInv.result {vs : List Vw} (ha : Acyc vs) {fs seen : List Nat} (hf : ∀ c, c ∈ fs → c < vs.length) (h : DfsInv vs fs seen []) : seenTo seen vs.length = castL (pastL vs fs) := by
  unfold seenTo pastL
  congr 1
  exact List.filter_congr fun x hx => h.done ha hf x (by simpa using hx)
structure Non (B : Nat) (w W : World) : Prop where
  below : Below B w W
  same : ∀ (k : Nat) (o : Obj), w.heap[k]? = some o → o.isCells = false → W.heap[k]? = some o
theorem Non.refl (B : Nat) (w : World) : Non B w w := ⟨Below.refl _ _, fun _ _ h _ => h⟩
theorem Non.trans {B : Nat} {w W X : World} (h : Non B w W) (k : Non B W X) : Non B w X := ⟨h.below.trans k.below, fun i o hi ho => k.same i o (h.same i o hi ho) ho⟩
theorem Non.of_grown {B : Nat} {w W : World} {row : Option Nat} (hg : w.grownBy W row) (hB : B ≤ w.heap.size) (hr : ∀ r, row = some r → B ≤ r ∧ ∀ o, w.heap[r]? = some o → o.isCells = true) : Non B w W :=
  ⟨(Below.refl B w).grown hg hB fun k hk => (hr k hk).1, fun k o hk ho => (hg.block k (Array.getElem?_eq_some_iff.1 hk).1 (fun e => by have := (hr k e.symm).2 o hk; rw [ho] at this; cases this)).trans hk⟩
theorem Non.turn {B : Nat} {w W X : World} {row : Option Nat} (h : Non B w W) (hg : W.grownBy X row) (hB : B ≤ w.heap.size) (hr : ∀ r, row = some r → w.heap.size ≤ r) : Non B w X :=
  ⟨h.below.grown hg (by have := h.below.size; omega) (fun k hk => by have := hr k hk; omega), fun k o hk ho => (hg.block k (Array.getElem?_eq_some_iff.1 (h.same k o hk ho)).1 (fun e => by have := hr k e.symm; have := (Array.getElem?_eq_some_iff.1 hk).1; omega)).trans (h.same k o hk ho)⟩
theorem Non.marks {B B' : Nat} {w W : World} {ds : List Deferred} (h : Marks B' ds w) (hn : Non B w W) : Marks B' ds W := by
  obtain ⟨rs, rfl, hd, hk⟩ := h
  exact ⟨rs, rfl, hd, fun r hr => ⟨(hk r hr).1, hn.same r _ (hk r hr).2 rfl⟩⟩
end Go.Proofs.YtnikmmdadflefaaGreatDoor
namespace Go.Proofs.YtnikmmdadflefaaGreatDoor
open Go.RowKit Go.Shelf
theorem own_type {w : World} {base : Nat} {v : Value} {xs : List Int} (h : Own w base v xs) {k : Nat} {cs : Array Value} {t : TypeId} (hk : w.heap[k]? = some (.cells cs t (0, 0))) (ht : t ≠ 3) : v.ownBlock ≠ some k := by
  intro e
  rcases h.2 with ⟨rfl, _⟩ | ⟨g, cap, cur, rfl, _, hg, _⟩
  · cases e
  · simp only [Value.ownBlock, Option.some.injEq] at e
    subst e
    rw [hk] at hg
    cases hg
    exact ht rfl
theorem own_cells {w : World} {base : Nat} {v : Value} {xs : List Int} (h : Own w base v xs) : ∀ r, v.ownBlock = some r → base ≤ r ∧ ∀ o, w.heap[r]? = some o → o.isCells = true := by
  intro r hr
  refine ⟨(h.lt r hr).1, fun o ho => ?_⟩
  rcases h.2 with ⟨rfl, _⟩ | ⟨g, cap, cur, rfl, _, hg, _⟩
  · cases hr
  · simp only [Value.ownBlock, Option.some.injEq] at hr
    subst hr
    rw [hg] at ho
    cases ho
    rfl
theorem SetAt.non {w W : World} {B b : Nat} {S : List Int} (h : SetAt (Value.int .i64) w b S) (hn : Non B w W) : SetAt (Value.int .i64) W b S := by
  obtain ⟨m, h⟩ := h
  obtain ⟨es, clock, hb, r⟩ := id h
  exact ⟨m, h.same ((hn.same b _ hb rfl).trans hb.symm)⟩
theorem set_box {w : World} {g : Nat} {v : Value} {t : TypeId} (h : w.heap[g]? = some (.cells #[v] t (0, 0))) (v' : Value) :
    (w.setCell ⟨g, 0, none⟩ v').heap[g]? = some (.cells #[v'] t (0, 0)) ∧ (w.setCell ⟨g, 0, none⟩ v').heap.size = w.heap.size ∧ ∀ k, k ≠ g → (w.setCell ⟨g, 0, none⟩ v').heap[k]? = w.heap[k]? := by
  have hg := (Array.getElem?_eq_some_iff.1 h).1
  refine ⟨?_, by simp [World.setCell], fun k hk => Below.heap_setCell w ⟨g, 0, none⟩ v' k hk⟩
  have hgg := (Array.getElem?_eq_some_iff.1 h).2
  rw [World.setCell, Array.getElem?_modify, if_pos rfl, h]
  rfl
theorem grown_set {w : World} {g : Nat} {v : Value} {t : TypeId} (_h : w.heap[g]? = some (.cells #[v] t (0, 0))) (v' : Value) : w.grownBy (w.setCell ⟨g, 0, none⟩ v') (some g) :=
  ⟨rfl, rfl, rfl, by simp [World.setCell], fun k _ hk => Below.heap_setCell w ⟨g, 0, none⟩ v' k (fun e => hk (by rw [e]))⟩
theorem own_cut {w : World} {base : Nat} {A : Option Addr} {n c : Nat} {xs : List Nat} {i : Nat} (h : Own w base (.slice A (n + 1) c) (castL (xs ++ [i]))) : Own w base (.slice A n c) (castL xs) := by
  obtain ⟨h0, h⟩ := h
  have hn : xs.length = n := by
    rcases h with ⟨e, _⟩ | ⟨g, cap, cur, e, _⟩
    · cases e
    · simp only [Value.slice.injEq] at e; simp [castL] at e; omega
  subst hn
  refine ⟨by simp, ?_⟩
  rcases h with ⟨e, _⟩ | ⟨g, cap, cur, e, h1, h2, h3, h4, h5, h6⟩
  · cases e
  · simp only [Value.slice.injEq] at e
    obtain ⟨rfl, _, rfl⟩ := e
    refine .inr ⟨g, c, cur, by simp [castL], h1, h2, by simp [castL] at h3 ⊢; omega, h4, h5, ?_⟩
    have := congrArg (List.take xs.length) h6
    simp [castL, List.take_take] at this ⊢
    rw [← this]
theorem Marks.keep {B : Nat} {w W : World} {ds : List Deferred} (h : Marks B ds w) (hk : ∀ k : Nat, w.heap[k]? = some (Obj.deferred (some [])) → W.heap[k]? = some (Obj.deferred (some []))) : Marks B ds W := by
  obtain ⟨rs, rfl, hd, hr⟩ := h
  exact ⟨rs, rfl, hd, fun r h => ⟨(hr r h).1, hk r (hr r h).2⟩⟩
theorem zero_bool (w : World) : (zeroValue 4).run Tryz.prog w = .ok (.bool false) w := by kernel_rfl
structure BoxIn (B g : Nat) (xs : List Int) (w2 W : World) : Prop where
  box : ∃ P c, W.heap[g]? = some (.cells #[.slice P xs.length c] 49 (0, 0)) ∧ Own W B (.slice P xs.length c) xs
  non : Non B w2 W
  rest : ∀ (k : Nat) (cs : Array Value) (t : TypeId), w2.heap[k]? = some (.cells cs t (0, 0)) → t ≠ 3 → k ≠ g → W.heap[k]? = some (.cells cs t (0, 0))
theorem BoxIn.start {B g : Nat} {xs : List Int} {w2 : World} {P : Option Addr} {c : Nat} (hb : w2.heap[g]? = some (.cells #[.slice P xs.length c] 49 (0, 0))) (ho : Own w2 B (.slice P xs.length c) xs) : BoxIn B g xs w2 w2 :=
  ⟨⟨P, c, hb, ho⟩, Non.refl _ _, fun _ _ _ h _ _ => h⟩
theorem BoxIn.turn {B g : Nat} {xs : List Int} {w2 W W' : World} {row : Option Nat} (h : BoxIn B g xs w2 W) (hB : B ≤ w2.heap.size) (hg : W.grownBy W' row) (hr : ∀ r, row = some r → w2.heap.size ≤ r ∧ ∃ o : Obj, W.heap[r]? = some o ∧ o.isCells = false) : BoxIn B g xs w2 W' := by
  obtain ⟨⟨P, c, hb, ho⟩, hn, hrest⟩ := h
  refine ⟨⟨P, c, (grownBy_keeps_cells hg (fun r e => (hr r e).2) hb rfl).trans hb, ho.kept hg ?_⟩, hn.turn hg hB fun r e => (hr r e).1, fun k cs t hk ht hkg => (grownBy_keeps_cells hg (fun r e => (hr r e).2) (hrest k cs t hk ht hkg) rfl).trans (hrest k cs t hk ht hkg)⟩
  by_cases e : (Value.slice P xs.length c).ownBlock = none
  · exact .inl e
  · obtain ⟨r, e⟩ := Option.ne_none_iff_exists'.1 e
    right
    rw [e]
    intro e2
    obtain ⟨o, ho1, ho2⟩ := (hr r e2.symm).2
    have := (own_cells ho r e).2 o ho1
    rw [this] at ho2; cases ho2
theorem BoxIn.own {B g : Nat} (xs0 : List Int) {β : Type} {xs : List β} (f : β → Int) {w2 : World} (hB : B ≤ w2.heap.size) : OwnFrom w2.heap.size (fun (pre : List { x : β // x ∈ xs }) W => BoxIn B g (xs0 ++ pre.map fun x => f x.1) w2 W) :=
  fun _ _ _ _ h hg hr => h.turn hB hg hr
theorem BoxIn.push {B g : Nat} {xs : List Int} {w2 W w1 : World} {P : Option Addr} {c : Nat} {v' : Value} {u : Int} (h : BoxIn B g xs w2 W) (hB : B ≤ g) (hb : W.heap[g]? = some (.cells #[.slice P xs.length c] 49 (0, 0)))
    (ho : Own W B (.slice P xs.length c) xs) (ho1 : Own w1 B v' (xs ++ [u])) (hg : W.grownBy w1 (Value.slice P xs.length c).ownBlock) (bx : Nat) (cs : Array Value) (hne' : bx ≠ g) (hbx : w2.heap[bx]? = some (.cells cs 92 (0, 0))) :
    KeepsFrom w2.heap.size W (w1.setCell ⟨g, 0, none⟩ v') ∧ KeepB (· = bx) W (w1.setCell ⟨g, 0, none⟩ v') ∧ BoxIn B g (xs ++ [u]) w2 (w1.setCell ⟨g, 0, none⟩ v') := by
  have hBW : B ≤ W.heap.size := by have := (Array.getElem?_eq_some_iff.1 hb).1; omega
  have hw1b : w1.heap[g]? = some (.cells #[.slice P xs.length c] 49 (0, 0)) := (hg.block g (Array.getElem?_eq_some_iff.1 hb).1 (fun e => own_type ho hb (by decide) e.symm)).trans hb
  obtain ⟨x6, xs', xo⟩ := set_box hw1b v'
  have hgX := grown_set hw1b v'
  have n1 : Non B W w1 := Non.of_grown hg hBW (own_cells ho)
  have n2 : Non B w1 (w1.setCell ⟨g, 0, none⟩ v') := Non.of_grown hgX (by have := hg.size; omega) (fun r e => by cases e; exact ⟨hB, fun o ho => by rw [hw1b] at ho; cases ho; rfl⟩)
  have n3 := n1.trans n2
  have rest : ∀ (k : Nat) (cs : Array Value) (t : TypeId), w2.heap[k]? = some (.cells cs t (0, 0)) → t ≠ 3 → k ≠ g → (w1.setCell ⟨g, 0, none⟩ v').heap[k]? = some (.cells cs t (0, 0)) := fun k cs t hk ht hkg => by
    have h1 := h.rest k cs t hk ht hkg
    rw [xo k hkg]
    exact (hg.block k (Array.getElem?_eq_some_iff.1 h1).1 (fun e => own_type ho h1 ht e.symm)).trans h1
  refine ⟨⟨n3.below.size, fun k o _ hk ho => n3.same k o hk ho⟩, ⟨n3.below.size, fun k e hl => ?_⟩, ?_, h.non.trans n3, rest⟩
  · subst e
    have h1 := h.rest k cs _ hbx (by decide) hne'
    rw [rest k cs _ hbx (by decide) hne', h1]
  · have ho2 := ho1.kept hgX (.inr (own_type ho1 hw1b (by decide)))
    obtain ⟨A2, c2, rfl, h1, h2, _⟩ := ho2.form
    exact ⟨A2, c2, x6, ho2⟩
end Go.Proofs.YtnikmmdadflefaaGreatDoor
