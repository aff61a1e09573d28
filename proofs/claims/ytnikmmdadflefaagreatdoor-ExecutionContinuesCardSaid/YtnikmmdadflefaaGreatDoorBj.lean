/- Part CuP. Part CuQ. Part RowW. Part LwCu. What each part says stands at its head; no part has a condition beyond its own statements. -/
import Derived.Test.YtnikmmdadflefaaGreatDoorBi
import Derived.Test.YtnikmmdadflefaaGreatDoorProg
import Derived.Test.YtnikmmdadflefaaGreatDoorBf
import Derived.Test.YtnikmmdadflefaaGreatDoorBa
import Derived.Test.YtnikmmdadflefaaGreatDoorBe
import Derived.Test.YtnikmmdadflefaaGreatDoorBh
import Derived.Test.YtnikmmdadflefaaGreatDoorBg
import Derived.Deep.QuietTactic
import Derived.BigQuiet

namespace Go.Proofs
open Go.Shelf
def Tryz.lays107_ren : Go.Shelf.Ren := ⟨fun | 107 => 39 | 108 => 89 | n => n, fun | 28 => 49 | 3 => 3 | 4 => 4 | 0 => 0 | n => n, fun | n => n⟩
theorem Tryz.lays107 : Go.Proofs.Lays.n107 Tryz.prog Tryz.lays107_ren := {
  mixed := by kernel_rfl
  f107 := Tryz.func39.trans (congrArg some (by kernel_rfl))
  f108 := Tryz.func89.trans (congrArg some (by kernel_rfl))
  t0 := Tryz.underlying0
  a0 := Tryz.isAgg0
  z0 := Tryz.sizeOf0
  v0 := Tryz.zeroValue0
  t3 := Tryz.underlying3
  a3 := Tryz.isAgg3
  z3 := Tryz.sizeOf3
  v3 := Tryz.zeroValue3
  t4 := Tryz.underlying4
  a4 := Tryz.isAgg4
  z4 := Tryz.sizeOf4
  v4 := Tryz.zeroValue4
  t28 := Tryz.underlying49
  a28 := Tryz.isAgg49
  z28 := Tryz.sizeOf49
  v28 := Tryz.zeroValue49 }
open Go.Lib in
/-- slices.Contains at []int: "Contains reports whether v is present in s.": IT RETURNS 'elements.contains v'; the world is as it was. ITS CALLEE slices.Index IS MET BY ITS OWN CONTRACT OFF THE SHELF (lay that first): no loop is walked here. (LAID: no walk: one application.) -/
theorem Tryz.slices_Contains_int (b off n c : Nat) (zs : List Int) (x : Int) (w : World) (hz : n ≤ zs.length) (hbig : n ≤ 9223372036854775807) (hc : ∀ j, j < zs.length → w.cell? ⟨b, off + j, none⟩ = some (.int .i64 (zs.getD j 0))) :
    Calls Tryz.prog 39 #[.slice (some ⟨b, off, none⟩) n c, .int .i64 x] w fun e w' => e = .returned (.bool ((zs.take n).contains x)) ∧ w' = w := Any.slices_Contains_int Tryz.lays107 b off n c zs x w hz hbig hc
open Go.Lib in
/-- The same at a slice of length 0, a nil one too. (LAID: no walk: one application.) -/
theorem Tryz.slices_Contains_int_empty (a : Option Addr) (c : Nat) (x : Int) (w : World) :
    Calls Tryz.prog 39 #[.slice a 0 c, .int .i64 x] w fun e w' => e = .returned (.bool false) ∧ w' = w := Any.slices_Contains_int_empty Tryz.lays107 a c x w
end Go.Proofs
namespace Go.Proofs.YtnikmmdadflefaaGreatDoor
section
variable {s : Sy} {K N : Nat}
def timesTo (vs : List Vw) (w : Nat) (m : Nat) : Nat := ((List.range m).filter fun v => cont vs v w).length
theorem timesTo_succ (vs : List Vw) (w m : Nat) : timesTo vs w (m + 1) = timesTo vs w m + (if cont vs m w = true then 1 else 0) := by
  unfold timesTo
  rw [List.range_succ, List.filter_append, List.length_append, List.filter_cons]
  split <;> simp
theorem cont_le (hF : Fine s K N) (hw : Wf s.n s.vs) {i : Nat} : ∀ j (_ : j < s.vs.length), cont s.vs i j = true → i ≤ j := by
  intro j
  induction j using Nat.strongRecOn with
  | _ j ih =>
    intro hj h
    rw [cont_step hw i hj, Bool.or_eq_true, Bool.and_eq_true, beq_iff_eq, decide_eq_true_eq] at h
    rcases h with rfl | ⟨hr, h⟩
    · exact Nat.le_refl _
    · obtain ⟨c, hc, hcj, ho, _⟩ := hF.own hw hj (by omega)
      rw [ho] at h
      have := ih c hcj hc h
      omega
theorem cont_p (hF : Fine s K N) (hw : Wf s.n s.vs) {i : Nat} (hi : i < s.vs.length) : ∀ j (hj : j < s.vs.length), cont s.vs i j = true → s.vs[i].p = s.vs[j].p := by
  intro j
  induction j using Nat.strongRecOn with
  | _ j ih =>
    intro hj h
    rw [cont_step hw i hj, Bool.or_eq_true, Bool.and_eq_true, beq_iff_eq, decide_eq_true_eq] at h
    rcases h with rfl | ⟨hr, h⟩
    · rfl
    · obtain ⟨c, _, hcj, ho, _, hc, _, hp⟩ := hF.own hw hj (by omega)
      rw [ho] at h
      exact (ih c hcj hc h).trans hp
theorem times_all (hF : Fine s K N) (hw : Wf s.n s.vs) : ∀ j (hj : j < s.vs.length), timesTo s.vs j s.vs.length = s.vs[j].r.toNat + 1 := by
  have hsplit : ∀ j, j < s.vs.length → ∀ m, m ≤ s.vs.length → timesTo s.vs j m = ((List.range m).filter fun v => decide (v = j)).length + ((List.range m).filter fun v => !decide (v = j) && cont s.vs v j).length := fun j hj m hm => by
    induction m with
    | zero => rfl
    | succ m ih =>
      rw [timesTo_succ, ih (by omega), List.range_succ, List.filter_append, List.filter_append, List.length_append, List.length_append, List.filter_cons, List.filter_cons]
      by_cases e : m = j
      · subst e
        have hc : cont s.vs m m = true := by rw [cont_step hw m hj]; simp
        simp [hc]; omega
      · by_cases hc : cont s.vs m j = true
        · simp [hc, e]; omega
        · simp [hc, e]
  have hone : ∀ j m : Nat, ((List.range m).filter fun v => decide (v = j)).length = if j < m then 1 else 0 := fun j m => by
    induction m with
    | zero => simp
    | succ m ih =>
      rw [List.range_succ, List.filter_append, List.length_append, ih, List.filter_cons]
      by_cases e : m = j
      · subst e; simp
      · simp only [e, decide_false, Bool.false_eq_true, if_false, List.filter_nil, List.length_nil, Nat.add_zero]
        by_cases h : j < m
        · rw [if_pos h, if_pos (by omega)]
        · rw [if_neg h, if_neg (by omega)]
  intro j
  induction j using Nat.strongRecOn with
  | _ j ih =>
    intro hj
    obtain ⟨_, r, _, _, hr, _⟩ := hF.vround hj
    rw [hsplit j hj _ (Nat.le_refl _), hone, if_pos hj]
    by_cases h0 : s.vs[j].r = 0
    · have e : ((List.range s.vs.length).filter fun v => !decide (v = j) && cont s.vs v j) = [] := by
        rw [List.filter_eq_nil_iff]
        intro v _ hv
        rw [cont_step hw v hj, h0] at hv
        simp at hv
      simp [e, h0]
    · obtain ⟨c, _, hcj, ho, _, hc, hcr, _⟩ := hF.own hw hj h0
      have e : ((List.range s.vs.length).filter fun v => !decide (v = j) && cont s.vs v j) = (List.range s.vs.length).filter fun v => cont s.vs v c := by
        refine List.filter_congr fun v hv => ?_
        rw [cont_step hw v hj, ho, decide_eq_true (by omega : 0 < s.vs[j].r), Bool.true_and]
        by_cases ev : v = j
        · subst ev
          have : cont s.vs v c = false := by
            rw [Bool.eq_false_iff]; intro h
            have := cont_le hF hw c hc h
            omega
          rw [this]; simp
        · have : (v == j) = false := by rw [beq_eq_false_iff_ne]; exact ev
          rw [this, decide_eq_false ev]; simp
      rw [e]
      have := ih c hcj hc
      unfold timesTo at this
      rw [this, hcr]
      omega
theorem deci_iff {i : Nat} (hi : i < s.vs.length) : i ∈ deciE s K N ↔ mattB s K N i = true := by
  unfold deciE
  rw [List.mem_filter, List.mem_range]
  exact ⟨fun h => h.2, fun h => ⟨hi, h⟩⟩
theorem deci_round (h : Sees s K N) {i : Nat} (hi : i < s.vs.length) (hm : mattB s K N i = true) : s.vs[i].r = (K : Int) := by
  unfold mattB at hm
  obtain ⟨x, hx, hr⟩ := List.any_eq_true.1 hm
  unfold rowB at hr
  obtain ⟨q, hq, hb⟩ := List.any_eq_true.1 hr
  rw [Bool.and_eq_true, decide_eq_true_eq] at hb
  obtain ⟨v, h1, h2, h3⟩ := h.pr hx (Nat.le_refl K) (by simpa using hq : q < N)
  rw [hb.1] at h1
  have h4 := h1.2
  rw [Int.toNat_natCast, List.getElem?_eq_getElem hi] at h4
  rw [Option.some.inj h4]; exact h3
def tmE (s : Sy) (K N : Nat) (m w : Nat) : Nat := if mattB s K N w = true then timesTo s.vs w m else 0
theorem tm_end (hF : Fine s K N) (h : Sees s K N) (hw : Wf s.n s.vs) {w : Nat} (hwl : w < s.vs.length) : tmE s K N s.vs.length w = if mattB s K N w = true then K + 1 else 0 := by
  unfold tmE
  split
  · rename_i hm
    rw [times_all hF hw w hwl, deci_round h hwl hm]; rfl
  · rfl
theorem oblig_final {x : Exn} (hx : x ∈ s.xs) {q : Nat} (hq : q < N) (hb : (maskE N x).toNat.testBit q = true) {i : Nat} (hi : xw x K q = (i : Int)) : mattB s K N i = true := by
  unfold mattB rowB
  exact List.any_eq_true.2 ⟨x, hx, List.any_eq_true.2 ⟨q, by simpa using hq, by rw [decide_eq_true hi, hb]; rfl⟩⟩
end
end Go.Proofs.YtnikmmdadflefaaGreatDoor
namespace Go.Proofs.YtnikmmdadflefaaGreatDoor
open Go.RowKit
theorem getD_setX {l : List Int} {i j : Nat} {v : Int} (hi : i < l.length) : (l.set i v).getD j 0 = if i = j then v else l.getD j 0 := by
  rw [List.getD_eq_getElem?_getD, List.getD_eq_getElem?_getD, List.getElem?_set]
  by_cases h : i = j
  · subst h; simp [hi]
  · simp [h]
def bump (b : List Int) (j : Nat) : List Int := b.set j (b.getD j 0 + 1)
def bumpL (b : List Int) (l : List Nat) : List Int := l.foldl bump b
theorem bump_len (b : List Int) (j : Nat) : (bump b j).length = b.length := by unfold bump; simp
theorem bumpL_len (l : List Nat) : ∀ b : List Int, (bumpL b l).length = b.length := by
  induction l with
  | nil => intro b; rfl
  | cons j l ih => intro b; show (bumpL (bump b j) l).length = _; rw [ih, bump_len]
theorem bumpL_at (w : Nat) : ∀ (l : List Nat) (b : List Int), l.Nodup → (∀ j ∈ l, j < b.length) → (bumpL b l).getD w 0 = b.getD w 0 + (if w ∈ l then 1 else 0) := by
  intro l
  induction l with
  | nil => intro b _ _; simp [bumpL]
  | cons j l ih =>
    intro b hn hl
    have hj := hl j (by simp)
    obtain ⟨h1, h2⟩ := List.nodup_cons.1 hn
    show (bumpL (bump b j) l).getD w 0 = _
    rw [ih (bump b j) h2 (fun i hi => by rw [bump_len]; exact hl i (by simp [hi]))]
    unfold bump
    rw [getD_setX hj]
    by_cases h : j = w
    · subst h
      simp [h1]
    · have h' : ¬ w = j := fun e => h e.symm
      by_cases hw : w ∈ l <;> simp [h, h', hw]
section
variable {s : Sy} {K N : Nat}
def cuqE (s : Sy) (K N m : Nat) : List Nat := (deciE s K N).filter fun j => cont s.vs m j
theorem cuq_nodup (m : Nat) : (cuqE s K N m).Nodup := by
  unfold cuqE deciE
  exact ((List.filter_sublist (l := (List.range s.vs.length).filter fun i => mattB s K N i)).trans List.filter_sublist).nodup List.nodup_range
theorem cuq_lt {m j : Nat} (h : j ∈ cuqE s K N m) : j < s.vs.length ∧ mattB s K N j = true ∧ cont s.vs m j = true := by
  unfold cuqE at h
  obtain ⟨h1, h2⟩ := List.mem_filter.1 h
  unfold deciE at h1
  obtain ⟨h3, h4⟩ := List.mem_filter.1 h1
  exact ⟨List.mem_range.1 h3, h4, h2⟩
theorem cuq_iff {m j : Nat} (hj : j < s.vs.length) : j ∈ cuqE s K N m ↔ (mattB s K N j = true ∧ cont s.vs m j = true) :=
  ⟨fun h => (cuq_lt h).2, fun h => by unfold cuqE deciE; exact List.mem_filter.2 ⟨List.mem_filter.2 ⟨List.mem_range.2 hj, h.1⟩, h.2⟩⟩
def cntL (s : Sy) (K N : Nat) : Nat → List Int
  | 0 => List.replicate s.vs.length 0
  | m + 1 => bumpL (cntL s K N m) (cuqE s K N m)
theorem cntL_len : ∀ m, (cntL s K N m).length = s.vs.length
  | 0 => by simp [cntL]
  | m + 1 => by show (bumpL _ _).length = _; rw [bumpL_len, cntL_len m]
theorem cntL_at {w : Nat} (hw : w < s.vs.length) : ∀ m, (cntL s K N m).getD w 0 = (tmE s K N m w : Int)
  | 0 => by
    have e : tmE s K N 0 w = 0 := by unfold tmE timesTo; split <;> rfl
    rw [e]
    show (List.replicate s.vs.length (0 : Int)).getD w 0 = _
    rw [List.getD_eq_getElem?_getD, List.getElem?_replicate, if_pos hw]; rfl
  | m + 1 => by
    show (bumpL (cntL s K N m) (cuqE s K N m)).getD w 0 = _
    rw [bumpL_at w _ _ (cuq_nodup m) (fun j hj => by rw [cntL_len]; exact (cuq_lt hj).1), cntL_at hw m]
    unfold tmE
    rw [timesTo_succ]
    by_cases h1 : mattB s K N w = true
    · by_cases h2 : cont s.vs m w = true
      · rw [if_pos ((cuq_iff hw).2 ⟨h1, h2⟩), if_pos h1, if_pos h1, if_pos h2]; omega
      · rw [if_neg (fun h => h2 ((cuq_iff hw).1 h).2), if_pos h1, if_pos h1, if_neg h2]; omega
    · rw [if_neg (fun h => h1 ((cuq_iff hw).1 h).1), if_neg h1, if_neg h1]; omega
def cntJ (s : Sy) (K N m c : Nat) : List Int := bumpL (cntL s K N m) ((cuqE s K N m).take c)
theorem cntJ_end (m : Nat) : cntJ s K N m (cuqE s K N m).length = cntL s K N (m + 1) := by unfold cntJ; rw [List.take_length]; rfl
theorem cntJ_succ {m c : Nat} (hc : c < (cuqE s K N m).length) : cntJ s K N m (c + 1) = bump (cntJ s K N m c) (cuqE s K N m)[c] := by
  unfold cntJ bumpL
  rw [List.take_succ_eq_append_getElem hc, List.foldl_append]; rfl
theorem cntJ_len (m c : Nat) : (cntJ s K N m c).length = s.vs.length := by unfold cntJ; rw [bumpL_len, cntL_len]
theorem cntJ_low {m c w : Nat} (hw : w < s.vs.length) : 0 ≤ (cntJ s K N m c).getD w 0 ∧ (cntJ s K N m c).getD w 0 ≤ (m : Int) + 1 := by
  unfold cntJ
  rw [bumpL_at w _ _ ((List.take_sublist c _).nodup (cuq_nodup m)) (fun j hj => by rw [cntL_len]; exact (cuq_lt (List.mem_of_mem_take hj)).1), cntL_at hw m]
  have : tmE s K N m w ≤ m := by
    unfold tmE
    split
    · unfold timesTo; exact Nat.le_trans (List.length_filter_le _ _) (by simp)
    · omega
  split <;> omega
theorem relv_list (hF : Fine s K N) (hv : verE s = 0) : relvE s = (deciE s K N).map fun (i : Nat) => (i : Int) := by
  unfold relvE
  rw [if_neg (by simpa using hv), show s.p.k.toNat = K by have := hF.k; omega, show s.n.toNat = N by have := hF.n; omega]
  exact rel_deci hF
theorem cl_list (hF : Fine s K N) (hw : Wf s.n s.vs) (hv : verE s = 0) {m : Nat} (hm : m < s.vs.length) : clE s (m : Int) = (cuqE s K N m).map (fun (i : Nat) => (i : Int)) ∧ viewxE s (m : Int) = 0 := by
  have h0 : viewxE s (m : Int) = 0 := by unfold viewxE; rw [if_neg (by simpa using hv), if_neg (by omega)]
  refine ⟨?_, h0⟩
  unfold clE
  rw [if_neg (by simpa using h0), show s.p.k.toNat = K by have := hF.k; omega, show s.n.toNat = N by have := hF.n; omega]
  exact rel_later hF hw hm
theorem mem_deci {j : Nat} (hj : j < s.vs.length) : decide ((j : Int) ∈ (deciE s K N).map fun (i : Nat) => (i : Int)) = mattB s K N j := by
  rw [Bool.eq_iff_iff, decide_eq_true_eq, List.mem_map]
  constructor
  · rintro ⟨a, ha, e⟩
    obtain rfl : a = j := by omega
    exact (deci_iff hj).1 ha
  · intro h; exact ⟨j, (deci_iff hj).2 h, rfl⟩
theorem deci_len : ((deciE s K N).map fun (i : Nat) => (i : Int)).length ≤ s.vs.length := by
  rw [List.length_map]; unfold deciE; exact Nat.le_trans (List.length_filter_le _ _) (by simp)
theorem cuq_len (m : Nat) : ((cuqE s K N m).map fun (i : Nat) => (i : Int)).length ≤ s.vs.length := by
  rw [List.length_map]; unfold cuqE deciE; exact Nat.le_trans (List.length_filter_le _ _) (Nat.le_trans (List.length_filter_le _ _) (by simp))
theorem cuq_turn (hF : Fine s K N) (hw : Wf s.n s.vs) {m : Nat} (hm : m < s.vs.length) {XL : List Int} (hX : (cuqE s K N m).map (fun (i : Nat) => (i : Int)) = XL) {c : Nat} (hc : c < XL.length) :
    ∃ (j : Nat) (hj : j < s.vs.length), XL[c] = (j : Int) ∧ mattB s K N j = true ∧ cont s.vs m j = true ∧ s.vs[j].p = s.vs[m].p ∧ cntJ s K N m (c + 1) = bump (cntJ s K N m c) j := by
  subst hX
  have hc' : c < (cuqE s K N m).length := by simpa using hc
  obtain ⟨h1, h2, h3⟩ := cuq_lt (List.getElem_mem hc')
  exact ⟨(cuqE s K N m)[c], h1, by simp, h2, h3, (cont_p hF hw hm _ h1 h3).symm, cntJ_succ hc'⟩
end
def numA (bs : List Int) : Array Value := (bs.map (Value.int .i64)).toArray
theorem numA_set (bs : List Int) (i : Nat) (b : Int) : (numA bs).setIfInBounds i (.int .i64 b) = numA (bs.set i b) := by
  unfold numA; rw [List.setIfInBounds_toArray, List.map_set]
theorem numA_at (bs : List Int) (i : Nat) (h : i < bs.length) : (numA bs)[i]? = some (.int .i64 (bs.getD i 0)) := by
  unfold numA; rw [List.getD_eq_getElem?_getD, List.getElem?_eq_getElem h]; simp [h]
theorem made_ints (n : Nat) : madeCells #[.int .i64 0] (n * 1) = numA (List.replicate n 0) := by
  unfold madeCells numA
  apply Array.ext
  · simp
  · intro i h1 h2
    simp [Nat.mod_one]
theorem make_ints (n : Nat) (hn : n ≤ 100000) (W : World) : (Instr.makeSlice 49 (.int .i64 n) (.int .i64 n)).run Tryz.prog W = .ok (.slice (some ⟨W.heap.size, 0, none⟩) n n) (W.alloc (.cells (numA (List.replicate n 0)) 3)) := by
  obtain ⟨i0, hi, hz0, hz1, hz2⟩ := kd_parts kIn_ok
  have hb : i0.bytes = 8 := hz2
  have hs : i0.size = 1 := hz1
  have h := run_make (P := Tryz.prog) W 49 3 i0 (.int .i64 0) Tryz.underlying49 hi hz0 .i64 .i64 (n : Int) (n : Int) (by omega) (Int.le_refl _) (by rw [hb]; omega) (by omega)
  rw [h, hs]
  simp only [Int.toNat_natCast]
  rw [show (Value.int .i64 0).cells = #[.int .i64 0] from rfl, made_ints]
theorem contI_any (A : Option Addr) (c : Nat) (xs : List Int) (x : Int) (hl : xs.length ≤ 1000000) (w : World) (hI : IAt w w.heap.size A xs) :
    Calls Tryz.prog 39 #[.slice A xs.length c, .int .i64 x] w fun e w' => e = .returned (.bool (decide (x ∈ xs))) ∧ w' = w := by
  by_cases hne : xs = []
  · subst hne
    exact (Tryz.slices_Contains_int_empty A c x w).mono fun e w' ⟨h1, h2⟩ => ⟨by rw [h1]; simp, h2⟩
  · obtain ⟨b, o, rfl, _, hc⟩ := hI (List.length_pos_iff.2 hne)
    refine (Tryz.slices_Contains_int b o xs.length c xs x w (Nat.le_refl _) (by omega) (fun j hj => by rw [hc j hj, List.getD_eq_getElem?_getD, List.getElem?_eq_getElem hj]; rfl)).mono fun e w' ⟨h1, h2⟩ => ⟨?_, h2⟩
    rw [h1, List.take_length]
    exact ret_bool (by rw [Bool.eq_iff_iff]; simp)
theorem contL_any (s : Sy) (hs : LowS s) (hf : FewX s.p) (K N : Nat) (hF : Fine s K N) (hw : Wf s.n s.vs) (hv : verE s = 0) (m : Nat) (hm : m < s.vs.length) (A SV AV AX : Option Addr) (kc ks kv kx : Nat) (w : World) (hS : SyAt w w.heap.size A SV AV AX s) :
    Calls Tryz.prog 36 #[.agg (s.vs_ A kc SV ks AV kv AX kx), .int .i64 (m : Int)] w (RetLEF ((cuqE s K N m).map fun (i : Nat) => (i : Int)) 0 w) := by
  have h := continuingF_any s hs hf (m : Int) A SV AV AX kc ks kv kx w hS
  obtain ⟨e1, e2⟩ := cl_list hF hw hv hm
  rw [e1, e2] at h
  exact h
end Go.Proofs.YtnikmmdadflefaaGreatDoor
namespace Go.Proofs.YtnikmmdadflefaaGreatDoor
open Go.RowKit
theorem getD_getX {α : Type} {l : List α} {i : Nat} (h : i < l.length) {d : α} : l.getD i d = l[i] := by
  rw [List.getD_eq_getElem?_getD, List.getElem?_eq_getElem h]; rfl
theorem row_xw {W : World} {B : Nat} {A : Option Addr} {x : Exn} (hL : LAt W B A x.views) {k q N : Nat} (hk : k < x.views.length) (hq : q < N) (hr : (x.views[k]).length = N) :
    ∃ b o B1 c b1 o1, A = some ⟨b, o, none⟩ ∧ b < B ∧ W.cell? ⟨b, o + k, none⟩ = some (.slice B1 N c) ∧ B1 = some ⟨b1, o1, none⟩ ∧ b1 < B ∧ W.cell? ⟨b1, o1 + q, none⟩ = some (.int .i64 (xw x k q)) := by
  obtain ⟨b, o, B1, c, e, hb, h1, h2⟩ := hL.at_ k hk
  obtain ⟨b1, o1, e1, hb1, h3⟩ := h2.at_ q (by omega)
  rw [hr] at h1
  refine ⟨b, o, B1, c, b1, o1, e, hb, h1, e1, hb1, ?_⟩
  rw [h3]
  unfold xw
  rw [getD_getX hk, getD_getX (by omega)]
end Go.Proofs.YtnikmmdadflefaaGreatDoor
namespace Go.Proofs.YtnikmmdadflefaaGreatDoor
open Go.RowKit
attribute [local go_sem] Oper.semAt_some
set_option maxRecDepth 100000 in
set_option maxHeartbeats 4000000 in
theorem law_continues (p : Pb) (hl : LowP p) (A : Option Addr) (kc : Nat) (SV : Option Addr) (ks : Nat) (w : World) (hA : CAt w w.heap.size A p.t.cases) (hS : SAt w w.heap.size SV p.a.sts) :
    Calls Tryz.prog 8 #[.agg (p.vs A kc SV ks)] w fun e w' => e = .returned (.bool true) ∧ Below w.heap.size w w' := by
  obtain ⟨w1, hw1, d0, hs1, hB1⟩ := onebox w (p.vs A kc SV ks) 29
  have hA1 := (hA.keep hB1).more hB1.size
  have hS1 := (hS.keep hB1).more hB1.size
  have HBL := Lib.hid (bld_any p hl A kc SV ks w1 hA1 hS1)
  have HRB := Lib.hid (fun h => right_built (p := p) h)
  have HLP := Lib.hid hl
  obtain ⟨r, hr⟩ : ∃ r, rightB p = r := ⟨_, rfl⟩
  unfold RetBl at HBL
  rw [hr] at HBL
  have HRR := Lib.hid hr
  unfold Pb.vs at hw1 d0 HBL ⊢
  have HW1 := Lib.hid hw1
  have HD0 := Lib.hid d0
  have HB1 := Lib.hid hB1
  have p0 := blk_cell d0 0 rfl
  have p1 := blk_cell d0 1 rfl
  have p2 := blk_cell d0 2 rfl
  have p3 := blk_cell d0 3 rfl
  have p4 := blk_cell d0 4 rfl
  have p5 := blk_cell d0 5 rfl
  have p6 := blk_cell d0 6 rfl
  clear hw1 d0 hB1 hA hS hA1 hS1 hr hl
  go_enter Tryz.func8, Tryz.ntmps8
  go_wp2_with fail
  rw [HW1.out]
  go_wp2_with fail
  refine HBL.out.mono ?_
  rintro e w2 ⟨h1, h2, hb2⟩
  have B2 := Lib.hid (HB1.out.trans (hb2.mono (by omega)))
  have hs2 := hb2.size
  have HE0 := Lib.hid ((hb2.block _ (blk_lt HD0.out)).trans HD0.out)
  clear HBL HW1 p0 p1 p2 p3 p4 p5 p6 hb2
  cases r with
  | false =>
    obtain rfl := h1 rfl
    clear h1 h2 HRB
    go_wp2_with fail
    refine (awake_any _).mono ?_
    rintro e w3 ⟨rfl, hb3⟩
    have B3 := Lib.hid (B2.out.trans (((bel1 w2 _).trans (hb3.mono (by simp))).mono B2.out.size))
    clear hb3
    go_wp2_with fail
    go_ret
    exact ⟨rfl, B3.out⟩
  | true =>
  obtain ⟨A2, kc2, SV2, ks2, AV, kv, AX, kx, rfl, hS2, hv1, hv2⟩ := h2 rfl
  obtain ⟨hbE, hvE, hf, h0, h60, hn3, K, N, hF, hSe⟩ := HRB.out HRR.out
  have HWF := Lib.hid (built_wf h0 hF)
  have HLS : Hid (LowS (builtE p)) := by have := built_low HLP.out hf; rw [hbE] at this; exact this
  have HFX : Hid (FewX (builtE p).p) := hf
  have HVE := Lib.hid hvE
  have HFF := Lib.hid hF
  have HSS := Lib.hid hSe
  have hpk : Hid (p.k = (K : Int)) := hF.k
  have hpn : Hid (p.t.n = (N : Int)) := hF.pn
  have hk6 := hF.k6
  have hn5 := hF.n5
  have hlx := hF.lx
  have hlv := hF.lv
  obtain ⟨T, hT⟩ : ∃ T, builtE p = T := ⟨_, rfl⟩
  rw [hT] at HFF HSS HWF HLS HFX HVE hlx hlv hS2 hv1 ⊢
  obtain ⟨W3, hW3, b3, hz3, hB3⟩ := onebox w2 (T.vs_ A2 kc2 SV2 ks2 AV kv AX kx) 36
  have HS3 := Lib.hid (hS2.up hB3)
  have HC3 := Lib.hid (B2.out.trans (hB3.mono B2.out.size))
  have HG0 := Lib.hid ((hB3.block _ (blk_lt HE0.out)).trans HE0.out)
  have HR := Lib.hid (relevant_any T HLS.out HFX.out A2 SV2 AV AX kc2 ks2 kv kx W3 HS3.out)
  have HCT := Lib.hid (fun (m : Nat) (hm : m < T.vs.length) (X : World) (hX : SyAt X X.heap.size A2 SV2 AV AX T) => contL_any T HLS.out HFX.out K N HFF.out HWF.out HVE.out m hm A2 SV2 AV AX kc2 ks2 kv kx X hX)
  have HOB := Lib.hid (fun (m : Nat) (X : World) (hX : SyAt X X.heap.size A2 SV2 AV AX T) => xobliged_any T HLS.out HFX.out (m : Int) A2 SV2 AV AX kc2 ks2 kv kx X hX)
  have HAF := Lib.hid (fun (m j : Nat) (hm : m < T.vs.length) (hj : j < T.vs.length) (X : World) (hX : SyAt X X.heap.size A2 SV2 AV AX T) => after_any T.n AV kv T.vs HWF.out m hm j hj X ⟨hX.fv, hv1, hv2, by omega⟩)
  have hrl := relv_list HFF.out HVE.out
  have HRLL : Hid ((relvE T).length ≤ 1000000) := by show _ ≤ _; rw [hrl]; exact Nat.le_trans deci_len (by omega)
  have HMEM : Hid (∀ j, j < T.vs.length → decide ((j : Int) ∈ relvE T) = mattB T K N j) := fun j hj => by rw [hrl]; exact mem_deci hj
  rw [HVE.out] at HR
  obtain ⟨RL, hRL⟩ : ∃ RL, relvE T = RL := ⟨_, rfl⟩
  rw [hRL] at HR HRLL HMEM
  unfold RetLE at HR
  unfold RetLEF at HCT
  unfold Sy.vs_ at hW3 b3 HR HCT HOB ⊢
  have HW3 := Lib.hid hW3
  have HD3 := Lib.hid b3
  have p0 := blk_cell HD3.out 0 rfl
  have p1 := blk_cell HD3.out 1 rfl
  have p2 := blk_cell HD3.out 2 rfl
  have p3 := blk_cell HD3.out 3 rfl
  have p4 := blk_cell HD3.out 4 rfl
  have p5 := blk_cell HD3.out 5 rfl
  have p6 := blk_cell HD3.out 6 rfl
  have p7 := blk_cell HD3.out 7 rfl
  have p8 := blk_cell HD3.out 8 rfl
  have p9 := blk_cell HD3.out 9 rfl
  clear h1 h2 hS2 hW3 hB3 b3 hbE hvE hf h0 h60 hn3 hF hSe hT HRB hrl hRL hv1 hv2 HE0
  go_wp2_with fail
  rw [HW3.out]
  go_wp2_with fail
  refine HR.out.mono ?_
  rintro e w4 ⟨AR, cR, rfl, hI4, hb4⟩
  have B4 := Lib.hid (HC3.out.trans (hb4.mono HC3.out.size))
  have HI4 := Lib.hid hI4
  have HS4 := Lib.hid (HS3.out.up hb4)
  have HD4 := Lib.hid ((hb4.block _ (blk_lt HD3.out)).trans HD3.out)
  have HP4 := Lib.hid ((hb4.block _ (blk_lt HG0.out)).trans HG0.out)
  obtain ⟨W5, hW5, b5, hz5, hB5⟩ := onebox w4 (numA (List.replicate T.vs.length 0)) 3
  have HW5 := Lib.hid hW5
  have HB5 := Lib.hid b5
  have HL5 := Lib.hid hB5
  have hmk := make_ints T.vs.length (by omega)
  have HCN := Lib.hid (fun (x : Int) (X : World) (hX : Below w4.heap.size w4 X) => contI_any AR cR RL x HRLL.out X ((HI4.out.keep hX).more hX.size))
  have HDS : Hid (∀ X, Below w4.heap.size w4 X → X.heap[w2.heap.size]? = some (.cells #[.int .i64 T.p.t.n, .int .i64 T.p.t.ins, .int .i64 T.p.t.outs, .slice A2 T.p.t.cases.length kc2, .int .i64 T.p.a.n, .slice SV2 T.p.a.sts.length ks2, .int .i64 T.p.k, .int .i64 T.n, .slice AV T.vs.length kv, .slice AX T.xs.length kx] 36 (0, 0))) := fun X hX => (hX.block _ (blk_lt HD4.out)).trans HD4.out
  have HDP : Hid (∀ X, Below w4.heap.size w4 X → X.heap[w.heap.size]? = some (.cells #[.int .i64 p.t.n, .int .i64 p.t.ins, .int .i64 p.t.outs, .slice A p.t.cases.length kc, .int .i64 p.a.n, .slice SV p.a.sts.length ks, .int .i64 p.k] 29 (0, 0))) := fun X hX => (hX.block _ (blk_lt HP4.out)).trans HP4.out
  have hl24 : w2.heap.size < w4.heap.size := blk_lt HD4.out
  have hl04 : w.heap.size < w4.heap.size := blk_lt HP4.out
  clear p0 p1 p2 p3 p4 p5 p6 p7 p8 p9 hI4 hb4 hW5 b5 hB5 HR HW3 HD3 HG0 HS3 HC3
  have p7 := blk_cell HD4.out 7 rfl
  have p8 := blk_cell HD4.out 8 rfl
  have p9 := blk_cell HD4.out 9 rfl
  go_wp2_with fail
  rw [HW5.out]
  go_wp2_with fail
  clear p7 p8 p9 hmk HW5
  go_loopw [53] (fun i wx => ∃ m : Nat, m ≤ T.vs.length ∧ i = .int .i64 (m : Int) ∧ Hid (wx.heap[w4.heap.size]? = some (.cells (numA (cntL T K N m)) 3 (0, 0))) ∧ Hid (Below w4.heap.size w4 wx)) (fun i _ => T.vs.length - (intOf i).toNat)
  case atStart => exact ⟨0, by omega, rfl, HB5.out, HL5.out⟩
  case round =>
    obtain ⟨m, hm, rfl, HC, HB⟩ := hrel
    by_cases hlt : m < T.vs.length
    case pos =>
      have hm0 : (0 : Int) ≤ (m : Int) := by omega
      have hm1 : (m : Int) < (T.vs.length : Int) := by omega
      have HSR := Lib.hid (HS4.out.up HB.out)
      have HCm := Lib.hid (HCT.out m hlt wr HSR.out)
      have hgl : w4.heap.size < wr.heap.size := blk_lt HC.out
      have p0 := blk_cell (HDS.out wr HB.out) 0 rfl
      have p1 := blk_cell (HDS.out wr HB.out) 1 rfl
      have p2 := blk_cell (HDS.out wr HB.out) 2 rfl
      have p3 := blk_cell (HDS.out wr HB.out) 3 rfl
      have p4 := blk_cell (HDS.out wr HB.out) 4 rfl
      have p5 := blk_cell (HDS.out wr HB.out) 5 rfl
      have p6 := blk_cell (HDS.out wr HB.out) 6 rfl
      have p7 := blk_cell (HDS.out wr HB.out) 7 rfl
      have p8 := blk_cell (HDS.out wr HB.out) 8 rfl
      have p9 := blk_cell (HDS.out wr HB.out) 9 rfl
      have HEN : Hid (∀ XL : List Int, (cuqE T K N m).map (fun (i : Nat) => (i : Int)) = XL → cntJ T K N m XL.length = cntL T K N (m + 1)) := fun XL e => by rw [← e, List.length_map]; exact cntJ_end m
      have HEX := Lib.hid (fun (XL : List Int) (e : (cuqE T K N m).map (fun (i : Nat) => (i : Int)) = XL) (c : Nat) (hc : c < XL.length) => cuq_turn HFF.out HWF.out hlt e hc)
      obtain ⟨XL, hXL⟩ : ∃ XL, (cuqE T K N m).map (fun (i : Nat) => (i : Int)) = XL := ⟨_, rfl⟩
      have HEN := Lib.hid (HEN.out XL hXL)
      have HEX := Lib.hid (HEX.out XL hXL)
      rw [hXL] at HCm
      have hXLb : XL.length ≤ 2100 := by rw [← hXL]; exact Nat.le_trans (cuq_len m) (by omega)
      clear hXL
      go_wp2_with fail
      refine HCm.out.mono ?_
      rintro e w6 ⟨A6, c6, rfl, hI6, hF6, hb6⟩
      have HB6 := Lib.hid (HB.out.trans (hb6.mono HB.out.size))
      have HC6 := Lib.hid ((hb6.block _ hgl).trans HC.out)
      have HEL : Hid (∀ c (hc : c < XL.length), ∃ b o, A6 = some ⟨b, o, none⟩ ∧ b < w6.heap.size ∧ w4.heap.size < b ∧ w6.cell? ⟨b, o + c, none⟩ = some (.int .i64 XL[c])) := fun c hc => by
        obtain ⟨b, o, e, hb, h⟩ := hI6.at_ c hc
        obtain ⟨g, o', q, e', hg⟩ := hF6 (by omega)
        rw [e] at e'
        cases e'
        exact ⟨b, o, e, hb, by omega, h⟩
      have hl6 := hb6.size
      clear hI6 hF6 hb6 HCm p0 p1 p2 p3 p4 p5 p6 p7 p8 p9 HSR
      go_wp2_with fail
      obtain ⟨wq, rfl⟩ : ∃ x, x = wr := ⟨_, rfl⟩
      go_loopw [66] (fun i wx => ∃ c : Nat, c ≤ XL.length ∧ i = .int .i64 (c : Int) ∧ Hid (wx.heap[w4.heap.size]? = some (.cells (numA (cntJ T K N m c)) 3 (0, 0))) ∧ Hid (Below w4.heap.size w4 wx) ∧ Hid (Wrote (fun b => b = w4.heap.size) w6 wx)) (fun i _ => XL.length - (intOf i).toNat)
      case atStart => exact ⟨0, by omega, rfl, HC6.out, HB6.out, Wrote.refl _ _⟩
      case round =>
        obtain ⟨c, hc, rfl, HCJ, HBJ, HWJ⟩ := hrel
        by_cases hcl : c < XL.length
        case neg =>
          obtain rfl : c = XL.length := by omega
          have HCE : Hid (wr.heap[w4.heap.size]? = some (.cells (numA (cntL T K N (m + 1))) 3 (0, 0))) := by show _ = _; rw [← HEN.out]; exact HCJ.out
          clear HEL HEX
          go_wp2_with fail
          go_roundw
          case rel => exact ⟨m + 1, by omega, by go_num, HCE, HBJ⟩
          case measure => simp [intOf]; omega
        case pos =>
          obtain ⟨b, o, rfl, hb1, hb2, c1⟩ := HEL.out c hcl
          have c2 : wr.cell? ⟨b, o + c, none⟩ = some (.int .i64 XL[c]) := (World.cell?_of_block (HWJ.out.block b hb1 (fun h => by have h3 : b = w4.heap.size := h; omega))).trans c1
          obtain ⟨j, hj, ex, hmt, hct, hpp, hst⟩ := HEX.out c hcl
          rw [ex] at c2
          have hlow := cntJ_low (s := T) (K := K) (N := N) (m := m) (c := c) hj
          have hjl : j < (cntJ T K N m c).length := by rw [cntJ_len]; exact hj
          have y0 : wr.cell? ⟨w4.heap.size, j, none⟩ = some (.int .i64 ((cntJ T K N m c).getD j 0)) := blk_cell HCJ.out j (numA_at _ _ hjl)
          have HNW : Hid (∀ X : World, X.heap[w4.heap.size]? = some (.cells (numA (cntJ T K N m c)) 3 (0, 0)) → (X.setCell ⟨w4.heap.size, j, none⟩ (.int .i64 ((cntJ T K N m c).getD j 0 + 1))).heap[w4.heap.size]? = some (.cells (numA (cntJ T K N m (c + 1))) 3 (0, 0))) := fun X hX => by
            rw [heap_setCell_same X _ j _ _ _ hX, numA_set, hst]; rfl
          obtain ⟨v, hv⟩ : ∃ v, (cntJ T K N m c).getD j 0 = v := ⟨_, rfl⟩
          rw [hv] at hlow y0 HNW
          have hwv : IntKind.i64.wrap (v + 1) = v + 1 := by rw [IntKind.wrap_i64]; omega
          have HSJ := HS4.out.up HBJ.out
          obtain ⟨bv, ov, eV, hbv, v0, _⟩ := HSJ.fv.row m hlt
          obtain ⟨bv', ov', eV', hbv', u0, _⟩ := HSJ.fv.row j hj
          rw [eV] at eV'
          cases eV'
          rw [hpp] at u0
          have HCj : Hid (∀ X, Below w4.heap.size w4 X → Calls Tryz.prog 39 #[.slice AR RL.length cR, .int .i64 (j : Int)] X fun e w' => e = .returned (.bool true) ∧ w' = X) := fun X hX => by
            have := HCN.out (j : Int) X hX
            rw [HMEM.out j hj, hmt] at this
            exact this
          have HAj : Hid (∀ X, SyAt X X.heap.size A2 SV2 AV AX T → Calls Tryz.prog 40 #[.agg #[.int .i64 T.n, .slice AV T.vs.length kv], .int .i64 (m : Int), .int .i64 (j : Int)] X fun e w' => e = .returned (.bool true) ∧ Below X.heap.size X w') := fun X hX => by
            have := HAF.out m j hlt hj X hX
            rw [hct] at this
            exact this
          obtain ⟨pv, hpv⟩ : ∃ pv, T.vs[m].p = pv := ⟨_, rfl⟩
          rw [hpv] at v0 u0
          have hj0 : (0 : Int) ≤ (j : Int) := by omega
          have hj1 : (j : Int) < (T.vs.length : Int) := by omega
          have hc0 : (0 : Int) ≤ (c : Int) := by omega
          have hc1 : (c : Int) < (XL.length : Int) := by omega
          have HSJ := Lib.hid HSJ
          have HAV := Lib.hid eV
          have p7 := blk_cell (HDS.out wr HBJ.out) 7 rfl
          have p8 := blk_cell (HDS.out wr HBJ.out) 8 rfl
          rw [eV] at p8
          clear c1 ex hmt hct hpp hst hv hjl hpv HEX HEL eV
          go_wp2_with fail
          refine wp_region_still_tail 36 (by kernel_rfl) (by kernel_rfl) ?_
          simp only [List.take_succ_cons, List.take_zero, List.drop_succ_cons, List.drop_zero]
          iterate 11 still_step
          still_call (HCj.out _ HBJ.out.drew)
          repeat still_step
          refine wpStill_nil ?_
          change wpList _ _ _ _ _ wr.drew
          obtain ⟨wd, hwd⟩ : ∃ wd, wd = wr.drew := ⟨_, rfl⟩
          have BLd : Hid (Below wr.heap.size wr wd) := by rw [hwd]; exact (Below.refl _ _).drew
          rw [← hwd, ← HAV.out]
          clear hwd p7 p8 c2 v0 u0
          go_wp2_with fail
          refine (HAj.out wd (HSJ.out.up BLd.out)).mono ?_
          rintro e w7 ⟨rfl, hb7⟩
          have HB7 := Lib.hid (BLd.out.trans (hb7.mono BLd.out.size))
          have hgr : w4.heap.size < wr.heap.size := blk_lt HCJ.out
          have C7 := (HB7.out.block _ hgr).trans HCJ.out
          have y0 := (HB7.out.cell (p := ⟨w4.heap.size, j, none⟩) hgr).trans y0
          have fr := blk_froz C7 j
          have HN7 := Lib.hid (HNW.out w7 C7)
          have HBN := Lib.hid (((HBJ.out.trans (HB7.out.mono HBJ.out.size)).setCell (p := ⟨w4.heap.size, j, none⟩) (Nat.le_refl _)) (.int .i64 (v + 1)))
          have HWN : Hid (Wrote (fun b => b = w4.heap.size) w6 (w7.setCell ⟨w4.heap.size, j, none⟩ (.int .i64 (v + 1)))) := (HWJ.out.trans ((Wrote.of_below HB7.out).trans (wrote_set w7 w4.heap.size j _) (fun _ _ h => h)) (fun _ _ h => h))
          clear hb7 C7 HCj HAj BLd
          go_wp2_with fail
          go_roundw
          case rel => exact ⟨c + 1, by omega, by go_num, HN7, HBN, HWN⟩
          case measure => simp [intOf]; omega
    case neg =>
    obtain rfl : m = T.vs.length := by omega
    clear HCT HAF
    have HLEN := Lib.hid (fun (k : Nat) (hk : k < T.vs.length) => (⟨by rw [cntL_len]; exact hk, by rw [cntL_at hk, tm_end HFF.out HSS.out HWF.out hk]⟩ : k < (cntL T K N T.vs.length).length ∧ (cntL T K N T.vs.length).getD k 0 = ((if mattB T K N k = true then K + 1 else 0 : Nat) : Int)))
    obtain ⟨CL, hCL⟩ : ∃ CL, cntL T K N T.vs.length = CL := ⟨_, rfl⟩
    rw [hCL] at HC HLEN
    clear hCL
    go_wp2_with fail
    obtain ⟨wq, rfl⟩ : ∃ x, x = wr := ⟨_, rfl⟩
    go_loopw [119] (fun i wx => ∃ k : Nat, k ≤ T.vs.length ∧ i = .int .i64 (k : Int) ∧ Hid (wx.heap[w4.heap.size]? = some (.cells (numA CL) 3 (0, 0))) ∧ Hid (Below w4.heap.size w4 wx)) (fun i _ => T.vs.length - (intOf i).toNat)
    case atStart => exact ⟨0, by omega, rfl, HC, HB⟩
    case round =>
      obtain ⟨k, hk, rfl, HCk, HBk⟩ := hrel
      by_cases hkl : k < T.vs.length
      case pos =>
        obtain ⟨hkc, hkv⟩ := HLEN.out k hkl
        have y0 : wr.cell? ⟨w4.heap.size, k, none⟩ = some (.int .i64 (CL.getD k 0)) := blk_cell HCk.out k (numA_at _ _ hkc)
        rw [hkv] at y0
        have HCc := Lib.hid (HCN.out (k : Int) wr HBk.out)
        rw [HMEM.out k hkl] at HCc
        have p6 := blk_cell (HDP.out wr HBk.out) 6 rfl
        rw [hpk.out] at p6
        have hKw : IntKind.i64.wrap ((K : Int) + 1) = ((K + 1 : Nat) : Int) := by rw [IntKind.wrap_i64]; omega
        have hk0 : (0 : Int) ≤ (k : Int) := by omega
        have hk1 : (k : Int) < (T.vs.length : Int) := by omega
        obtain ⟨bM, hbM⟩ : ∃ bM, mattB T K N k = bM := ⟨_, rfl⟩
        rw [hbM] at y0 HCc
        clear hkc hkv hbM
        cases bM with
        | true =>
          rw [if_pos rfl] at y0
          have e1 : (((K + 1 : Nat) : Int) != 0) = true := by rw [bne_iff_ne]; omega
          have e2 : (((K + 1 : Nat) : Int) != ((K + 1 : Nat) : Int)) = false := by simp
          obtain ⟨J, hJ⟩ : ∃ J, ((K + 1 : Nat) : Int) = J := ⟨_, rfl⟩
          rw [hJ] at y0 hKw e1 e2
          clear hJ
          go_wp2_with fail
          refine HCc.out.mono ?_
          rintro e w' ⟨rfl, rfl⟩
          go_wp2_with fail
          go_roundw
          case rel => exact ⟨k + 1, by omega, by go_num, HCk, HBk⟩
          case measure => simp [intOf]; omega
        | false =>
          rw [if_neg (by decide)] at y0
          go_wp2_with fail
          refine HCc.out.mono ?_
          rintro e w' ⟨rfl, rfl⟩
          go_wp2_with fail
          go_roundw
          case rel => exact ⟨k + 1, by omega, by go_num, HCk, HBk⟩
          case measure => simp [intOf]; omega
      case neg =>
      obtain rfl : k = T.vs.length := by omega
      have p9 := blk_cell (HDS.out wr HBk.out) 9 rfl
      clear HLEN HCk HC HB
      go_wp2_with fail
      clear p9
      obtain ⟨wq2, rfl⟩ : ∃ x, x = wr := ⟨_, rfl⟩
      go_loopw [145] (fun i wx => ∃ e : Nat, e ≤ T.xs.length ∧ i = .int .i64 (e : Int) ∧ Hid (Below w4.heap.size w4 wx)) (fun i _ => T.xs.length - (intOf i).toNat)
      case atStart => exact ⟨0, by omega, rfl, HBk⟩
      case round =>
        obtain ⟨e, he, rfl, HBe⟩ := hrel
        by_cases hel : e < T.xs.length
        case neg =>
          obtain rfl : e = T.xs.length := by omega
          go_wp2_with fail
          refine (awake_any wr).mono ?_
          rintro e w9 ⟨rfl, hb9⟩
          have B9 := Lib.hid (B4.out.trans ((HBe.out.trans (hb9.mono HBe.out.size)).mono B4.out.size))
          clear hb9
          go_wp2_with fail
          go_ret
          exact ⟨rfl, B9.out⟩
        case pos =>
          have HSe := HS4.out.up HBe.out
          obtain ⟨bx, ox, A1, c1, B1, c2, eX, hbx, a0, a1, a2, _, hLv⟩ := HSe.fx.row e hel
          subst eX
          have hxm := List.getElem_mem hel
          obtain ⟨mk, hmk, hmk32⟩ := mask_nat HFF.out.n1 HFF.out.n5 (HFF.out.word _ hxm).2
          have hob := oblE_in HFF.out HVE.out hel
          obtain ⟨hvl, hvr⟩ := HFF.out.views _ hxm
          have HOF := Lib.hid (fun (q : Nat) (hq : q < N) (hb : mk.testBit q = true) (i : Nat) (hi : xw T.xs[e] K q = (i : Int)) => oblig_final (s := T) (K := K) hxm hq (by rw [hmk, Int.toNat_natCast]; exact hb) hi)
          have HVW := Lib.hid (fun (q : Nat) (hq : q < N) => HSS.out.pr hxm (Nat.le_refl K) hq)
          obtain ⟨x, hx⟩ : ∃ x, T.xs[e] = x := ⟨_, rfl⟩
          rw [hx] at a0 a1 a2 hLv hvl hvr hob HOF HVW hmk
          rw [hmk] at hob
          rw [hvl] at a2
          have he0 : (0 : Int) ≤ (e : Int) := by omega
          have he1 : (e : Int) < (T.xs.length : Int) := by omega
          obtain ⟨W6, hW6, b6, hz6, hB6⟩ := onebox wr #[.int .i64 x.c, .slice A1 x.word.length c1, .slice B1 (K + 1) c2] 42
          have HW6 := Lib.hid hW6
          have HX6 := Lib.hid b6
          have HB6 := Lib.hid (HBe.out.trans (hB6.mono HBe.out.size))
          have HL6 := Lib.hid ((hLv.keep hB6).more hB6.size)
          have HO6 := Lib.hid (HOB.out e W6 (HSe.up hB6))
          rw [hob] at HO6
          have hl2r : w2.heap.size < wr.heap.size := by have := HBe.out.size; omega
          have hl0r : w.heap.size < wr.heap.size := by have := HBe.out.size; omega
          have HVR := Lib.hid hvr
          have HVL := Lib.hid hvl
          have p0 := blk_cell (HDS.out wr HBe.out) 0 rfl
          have p1 := blk_cell (HDS.out wr HBe.out) 1 rfl
          have p2 := blk_cell (HDS.out wr HBe.out) 2 rfl
          have p3 := blk_cell (HDS.out wr HBe.out) 3 rfl
          have p4 := blk_cell (HDS.out wr HBe.out) 4 rfl
          have p5 := blk_cell (HDS.out wr HBe.out) 5 rfl
          have p6 := blk_cell (HDS.out wr HBe.out) 6 rfl
          have p7 := blk_cell (HDS.out wr HBe.out) 7 rfl
          have p8 := blk_cell (HDS.out wr HBe.out) 8 rfl
          have p9 := blk_cell (HDS.out wr HBe.out) 9 rfl
          clear hmk hob hxm hx hLv hvl hvr hW6 b6 hB6 HSe
          go_wp2_with fail
          rw [HW6.out]
          go_wp2_with fail
          clear p0 p1 p2 p3 p4 p5 p6 p7 p8 p9 a0 a1 a2
          refine HO6.out.mono ?_
          rintro e w7 ⟨rfl, hb7⟩
          have HB7 := Lib.hid (HB6.out.trans (hb7.mono HB6.out.size))
          have HX7 := Lib.hid ((hb7.block _ (blk_lt HX6.out)).trans HX6.out)
          have HL7 := Lib.hid ((HL6.out.keep hb7).more hb7.size)
          have p0 := blk_cell (HDP.out w7 HB7.out) 0 rfl
          rw [hpn.out] at p0
          clear hb7 HO6 HL6 HX6 HW6
          go_wp2_with fail
          clear p0
          have hl47 : w4.heap.size ≤ w7.heap.size := HB7.out.size
          obtain ⟨wq3, rfl⟩ : ∃ x, x = wr := ⟨_, rfl⟩
          go_loopw [161] (fun i wx => ∃ q : Nat, q ≤ N ∧ i = .int .i64 (q : Int) ∧ Hid (Below w7.heap.size w7 wx)) (fun i _ => N - (intOf i).toNat)
          case atStart => exact ⟨0, by omega, rfl, Below.refl _ _⟩
          case round =>
            obtain ⟨q, hq, rfl, HBq⟩ := hrel
            have HBw := Lib.hid (HB7.out.trans (HBq.out.mono hl47))
            by_cases hqN : q < N
            case neg =>
              obtain rfl : q = N := by omega
              go_wp2_with fail
              go_roundw
              case rel => exact ⟨e + 1, by omega, by go_num, HBw⟩
              case measure => simp [intOf]; omega
            case pos =>
              have hbt := bit_test hmk32 (show q < 5 by omega)
              have hq0 : (0 : Int) ≤ (q : Int) := by omega
              have hq1 : (q : Int) < (N : Int) := by omega
              have hq5 : (q : Int) < 5 := by omega
              have hmp : (0 : Int) ≤ (mk : Int) := by omega
              obtain ⟨bT, hbT⟩ : ∃ bT, mk.testBit q = bT := ⟨_, rfl⟩
              rw [hbT] at hbt
              cases bT with
              | false =>
                clear hbT
                go_wp2_with fail
                go_roundw
                case rel => exact ⟨q + 1, by omega, by go_num, HBq⟩
                case measure => simp [intOf]; omega
              | true =>
                obtain ⟨vv, hat, _, _⟩ := HVW.out q hqN
                obtain ⟨hi0, hi1⟩ := hat.lt
                obtain ⟨i, hi⟩ := Int.eq_ofNat_of_zero_le hi0
                have hmi := HOF.out q hqN hbT i hi
                have hil : i < T.vs.length := by omega
                have hKl : K < x.views.length := by have := HVL.out; omega
                obtain ⟨b1, o1, C1, n1, d1, e1, eB1, hb1, v1, rfl, hd1, v2⟩ := row_xw (HL7.out.keep HBq.out) hKl hqN (HVR.out _ (List.getElem_mem hKl)).1
                subst eB1
                rw [hi] at v2
                have z2 := blk_cell ((HBq.out.block _ (blk_lt HX7.out)).trans HX7.out) 2 rfl
                have p6 := blk_cell (HDP.out wr HBw.out) 6 rfl
                rw [hpk.out] at p6
                have hK0 : (0 : Int) ≤ (K : Int) := by omega
                have hK1 : (K : Int) < ((K + 1 : Nat) : Int) := by omega
                have hK2 : (K : Int) < (K : Int) + 1 := by omega
                have HCc := Lib.hid (HCN.out (i : Int) wr HBw.out)
                rw [HMEM.out i hil, hmi] at HCc
                clear hat hi0 hi1 hi hmi hil hKl hbT
                go_wp2_with fail
                refine HCc.out.mono ?_
                rintro e w' ⟨rfl, rfl⟩
                go_wp2_with fail
                go_roundw
                case rel => exact ⟨q + 1, by omega, by go_num, HBq⟩
                case measure => simp [intOf]; omega
end Go.Proofs.YtnikmmdadflefaaGreatDoor
