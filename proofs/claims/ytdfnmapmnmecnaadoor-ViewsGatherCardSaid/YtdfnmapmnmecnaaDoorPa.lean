/- Part Good. Part LawSp. Part PlainB. Part LawSe. What each part says stands at its head; no part has a condition beyond its own statements. -/
import Derived.Test.YtdfnmapmnmecnaaDoorProg
import Derived.Test.YtdfnmapmnmecnaaDoorMk
import Derived.Test.YtdfnmapmnmecnaaDoorMg
import Derived.IntWalk

/- law: good: a table is small and well-formed; slices.Contains at a slice of the call's own. -/
namespace Go.Proofs.YtdfnmapmnmecnaaDoor
open Go.RowKit

def goodB (n : Int) (vs : List Vw) : Bool := fewB vs && (CheckE n vs == 0)
theorem good_few {n : Int} {vs : List Vw} (h : goodB n vs = true) : fewB vs = true := by unfold goodB at h; simp only [Bool.and_eq_true] at h; exact h.1
theorem good_check {n : Int} {vs : List Vw} (h : goodB n vs = true) : CheckE n vs = 0 := by unfold goodB at h; simp only [Bool.and_eq_true, beq_iff_eq] at h; exact h.2
theorem good_wf {n : Int} {vs : List Vw} (h : goodB n vs = true) : Wf n vs := (Wf.of_CheckE (good_check h)).1
theorem good_at {n : Int} {vs : List Vw} (h : goodB n vs = true) {i : Nat} (hi : i < vs.length) : atE n vs [(i : Int)] = 0 := by
  unfold atE
  rw [if_neg (by simp [good_check h]), if_pos (by simp [inB]; omega)]
theorem good_at2 {n : Int} {vs : List Vw} (h : goodB n vs = true) {i j : Nat} (hi : i < vs.length) (hj : j < vs.length) : atE n vs [(i : Int), (j : Int)] = 0 := by
  unfold atE
  rw [if_neg (by simp [good_check h]), if_pos (by simp [inB]; omega)]

set_option maxRecDepth 100000 in
set_option maxHeartbeats 4000000 in
theorem good_any (n : Int) (A : Option Addr) (cap : Nat) (vs : List Vw) (w : World) (hA : VAt w w.heap.size A vs) (hc : vs.length ≤ cap) (hm : cap ≤ maxLen) (hl : vs.length ≤ 2199023255552) :
    Calls Tryd.prog 23 #[.agg #[.int .i64 n, .slice A vs.length cap]] w fun e w' => e = .returned (.bool (goodB n vs)) ∧ Below w.heap.size w w' := by
  have HA := Lib.hid hA
  have HC := Lib.hid hc
  have HM := Lib.hid hm
  clear hA hc hm
  go_enter Tryd.func23, Tryd.ntmps23
  go_wp2_with fail
  obtain ⟨W0, hW0, d0, hsz, hB0⟩ := onebox w #[.int .i64 n, .slice A vs.length cap] 24
  rw [hW0]
  clear hW0
  refine (few_any n A cap vs W0 w.heap.size (by omega) (HA.out.keep hB0) hl).mono ?_
  rintro e w1 ⟨rfl, hb⟩
  have d1 := (hb.block _ (blk_lt d0)).trans d0
  have B1 : Hid (Below w.heap.size w w1) := hB0.trans (hb.mono hB0.size)
  have t0 := blk_cell d1 0 rfl
  have t1 := blk_cell d1 1 rfl
  clear d0 d1 hB0 hb hsz
  obtain ⟨ff, hff⟩ : ∃ ff, fewB vs = ff := ⟨_, rfl⟩
  rw [hff]
  have HF := Lib.hid hff
  clear hff
  cases ff
  · have hg : Hid (goodB n vs = false) := by show _ = _; unfold goodB; rw [HF.out]; rfl
    go_wp2_with fail
    go_ret
    exact ⟨ret_bool hg.out.symm, B1.out⟩
  · have hg : Hid (goodB n vs = (CheckE n vs == 0)) := by show _ = _; unfold goodB; rw [HF.out]; rfl
    have HT : Hid (TArg w A cap vs) := ⟨HA.out, HC.out, HM.out, by have := few_len HF.out; omega⟩
    obtain ⟨c1, hc1⟩ : ∃ c1, CheckE n vs = c1 := ⟨_, rfl⟩
    rw [hc1] at hg
    have Hc1 := Lib.hid hc1
    clear hc1 HA HC HM
    go_wp2_with fail
    refine (vcheck_any n A cap vs w1 (HT.out.keep B1.out)).mono ?_
    rw [Hc1.out]
    rintro e w2 ⟨rfl, hb⟩
    have B2 : Hid (Below w.heap.size w w2) := B1.out.trans (hb.mono B1.out.size)
    clear hb
    go_wp2_with fail
    go_ret
    exact ⟨ret_bool hg.out.symm, B2.out⟩

theorem contS_own {w : World} {base : Nat} {v : Value} {xs : List ByteArray} (h : OwnS w base v xs) (hl : xs.length ≤ 1000000) (x : ByteArray) :
    Calls Tryd.prog 24 #[v, .string x] w fun e w' => e = .returned (.bool (Lib.containsS xs x)) ∧ w = w' := by
  by_cases hne : xs = []
  · subst hne
    have hv : ∃ A c, v = .slice A 0 c := by
      rcases h.2 with ⟨e, _⟩ | ⟨g, cap, cur, e, _⟩
      · exact ⟨none, 0, e⟩
      · exact ⟨some ⟨g, 0, none⟩, cap, e⟩
    obtain ⟨A, c, rfl⟩ := hv
    exact (Tryd.slices_Contains_string_empty A c x w).mono fun e w' ⟨h1, h2⟩ => ⟨by rw [h1]; rfl, h2.symm⟩
  · obtain ⟨b, cap, rfl, _, hc⟩ := h.cells hne
    refine (Tryd.slices_Contains_string b 0 xs.length cap xs x w (Nat.le_refl _) (by omega) hc).mono fun e w' ⟨h1, h2⟩ => ⟨?_, h2.symm⟩
    rw [h1, List.take_length]
theorem contI_own {w : World} {base : Nat} {v : Value} {xs : List Int} (h : Own w base v xs) (hl : xs.length ≤ 1000000) (x : Int) :
    Calls Tryd.prog 33 #[v, .int .i64 x] w fun e w' => e = .returned (.bool (decide (x ∈ xs))) ∧ w = w' := by
  by_cases hne : xs = []
  · subst hne
    obtain ⟨A, c, rfl, _⟩ := h.form
    exact (Tryd.slices_Contains_int_empty A c x w).mono fun e w' ⟨h1, h2⟩ => ⟨by rw [h1]; simp, h2.symm⟩
  · obtain ⟨b, off, cap, rfl, _, hc⟩ := own_slice h (List.length_pos_iff.2 hne)
    refine (Tryd.slices_Contains_int b off xs.length cap xs x w (Nat.le_refl _) (by omega) hc).mono fun e w' ⟨h1, h2⟩ => ⟨?_, h2.symm⟩
    rw [h1, List.take_length]
    exact ret_bool (by rw [Bool.eq_iff_iff]; simp)
end Go.Proofs.YtdfnmapmnmecnaaDoor

/- law: ViewsSpeak: answers true for every table. -/
namespace Go.Proofs.YtdfnmapmnmecnaaDoor
open Go.RowKit

def wordsB (vs : List Vw) (k : Nat) : List ByteArray := (List.range k).map fun i => ⟨(words vs i).toArray⟩
theorem wordsB_succ (vs : List Vw) (k : Nat) : wordsB vs (k + 1) = wordsB vs k ++ [⟨(words vs k).toArray⟩] := by simp [wordsB, List.range_succ]
theorem wordsB_new {n : Int} {vs : List Vw} (h : Wf n vs) {k : Nat} (hk : k < vs.length) : Lib.containsS (wordsB vs k) ⟨(words vs k).toArray⟩ = false := by
  rw [Bool.eq_false_iff]
  intro hc
  rw [Lib.containsS_iff] at hc
  obtain ⟨i, hi, e⟩ := List.mem_map.1 hc
  have hi' : i < k := by simpa using hi
  have e2 : words vs i = words vs k := by
    have := congrArg ByteArray.data e
    simpa using this
  have := words_ne h (by omega) hk e2
  omega
theorem wordsB_len (vs : List Vw) (k : Nat) : (wordsB vs k).length = k := by simp [wordsB]

set_option maxRecDepth 100000 in
set_option maxHeartbeats 4000000 in
theorem law_speak (n : Int) (A : Option Addr) (cap : Nat) (vs : List Vw) (w : World) (hA : VAt w w.heap.size A vs) (hc : vs.length ≤ cap) (hm : cap ≤ maxLen) (hl : vs.length ≤ 2199023255552) :
    Calls Tryd.prog 5 #[.agg #[.int .i64 n, .slice A vs.length cap]] w (RetTrue w) := by
  have HA := Lib.hid hA
  have HC := Lib.hid hc
  have HM := Lib.hid hm
  clear hA hc hm
  go_enter Tryd.func5, Tryd.ntmps5
  go_wp2_with fail
  obtain ⟨W0, hW0, d0, hsz, hB0⟩ := onebox w #[.int .i64 n, .slice A vs.length cap] 24
  rw [hW0]
  clear hW0
  refine (good_any n A cap vs W0 ((HA.out.keep hB0).more hB0.size) HC.out HM.out hl).mono ?_
  rintro e w1 ⟨rfl, hb⟩
  have D1 := Lib.hid ((hb.block _ (blk_lt d0)).trans d0)
  have B1 : Hid (Below w.heap.size w w1) := hB0.trans (hb.mono hB0.size)
  have t0 := blk_cell D1.out 0 rfl
  have t1 := blk_cell D1.out 1 rfl
  clear d0 hB0 hb hsz
  obtain ⟨gg, hgg⟩ : ∃ gg, goodB n vs = gg := ⟨_, rfl⟩
  rw [hgg]
  have HG := Lib.hid hgg
  clear hgg
  cases gg
  · go_wp2_with fail
    refine (awake_any w1).mono ?_
    rintro e wz ⟨rfl, hbz⟩
    go_wp2_with fail
    go_ret
    exact ⟨rfl, B1.out.trans (hbz.mono B1.out.size)⟩
  · have hfew := few_len (good_few HG.out)
    have HT : Hid (TArg w A cap vs) := ⟨HA.out, HC.out, HM.out, by omega⟩
    have HLO := Lib.hid (few_lows (good_few HG.out))
    have HWF := Lib.hid (good_wf HG.out)
    have lw : w.heap.size < w1.heap.size := blk_lt D1.out
    clear HA HC HM
    go_wp2_with fail
    go_loopw [3, 14] (fun v i wr => ∃ k : Nat, k ≤ vs.length ∧ i = .int .i64 k ∧ OwnS wr w1.heap.size v (wordsB vs k) ∧ Below w1.heap.size w1 wr) (fun _ i _ => vs.length - (intOf i).toNat)
    case atStart => exact ⟨0, by omega, rfl, OwnS.nil _ _, Below.refl _ _⟩
    case round =>
      obtain ⟨k, hk, rfl, hos, hbl⟩ := hrel
      have HOS := Lib.hid hos
      have HBL := Lib.hid hbl
      have d2 := (hbl.block _ lw).trans D1.out
      clear t0 t1
      have t0 := blk_cell d2 0 rfl
      have t1 := blk_cell d2 1 rfl
      have B2 : Hid (Below w.heap.size w wr) := B1.out.trans (hbl.mono B1.out.size)
      clear hos hbl d2
      by_cases hlt : k < vs.length
      · have htx := vtext_any n A cap vs HLO.out k wr (HT.out.keep B2.out)
        rw [textE_yes (good_at HG.out hlt)] at htx
        have HTX := Lib.hid htx
        have HNE := Lib.hid (wordsB_new HWF.out hlt)
        have HPO := Lib.hid (words_pos HWF.out hlt)
        have HSU := Lib.hid (wordsB_succ vs k)
        have hwl : (wordsB vs k).length ≤ 60 := by rw [wordsB_len]; omega
        clear htx
        go_wp2_with fail
        refine HTX.out.mono ?_
        rintro e w2 ⟨rfl, hb2⟩
        have HB2 := Lib.hid hb2
        obtain ⟨S, hS⟩ : ∃ S : ByteArray, (⟨(words vs k).toArray⟩ : ByteArray) = S := ⟨_, rfl⟩
        have HOS2 : Hid (OwnS w2 w1.heap.size u3 (wordsB vs k)) := HOS.out.below hb2 (Nat.le_refl _)
        rw [hS] at HNE HSU ⊢
        have hs1 : ¬ S.toList = [] := by
          intro he
          have h2 : S = ⟨#[]⟩ := (Lib.bytes_beq_iff _ _).1 (by rw [he]; decide +kernel)
          rw [← hS] at h2
          have h3 := congrArg ByteArray.data h2
          exact HPO.out (by simpa using h3)
        have hs2 : S.toList.isEmpty = false := by simpa using hs1
        clear hb2 t0 t1 hS HTX
        go_wp2_with fail
        refine (contS_own HOS2.out (by omega) S).mono ?_
        rw [HNE.out]
        rintro e w3 ⟨rfl, rfl⟩
        have htl : (wordsB vs k).length < 1000000 := by omega
        go_wp2_with (at_builtin; refine wpList_apps rfl _ _ rfl w1.heap.size u3 _ S rfl HOS2.out rfl htl (Nat.le_trans HBL.out.size HB2.out.size) ?_; intro v' w4 hown4 hb4; have HO4 := Lib.hid hown4; have HB4 := Lib.hid hb4; clear hown4 hb4)
        clear hs1 hs2
        go_roundw
        case rel => exact ⟨k + 1, by omega, by go_num, by rw [HSU.out]; exact HO4.out, HBL.out.trans ((HB2.out.mono HBL.out.size).trans HB4.out)⟩
        case measure => simp [intOf]; omega
      · go_wp2_with fail
        refine (awake_any wr).mono ?_
        rintro e wz ⟨rfl, hbz⟩
        go_wp2_with fail
        go_ret
        exact ⟨rfl, B2.out.trans (hbz.mono B2.out.size)⟩
end Go.Proofs.YtdfnmapmnmecnaaDoor

/- More plain laws of chapter 22: a view of a table is accepted again; what the errors of a view can be. No walk in sight. -/
namespace Go.Proofs.YtdfnmapmnmecnaaDoor

theorem filter_range_more {p : Nat → Bool} {m : Nat} : ∀ (n : Nat), m ≤ n → (∀ x, m ≤ x → x < n → p x = false) → (List.range n).filter p = (List.range m).filter p
  | 0, h, _ => by have : m = 0 := by omega
                  subst this; rfl
  | n + 1, h, hp => by
    by_cases e : m = n + 1
    · subst e; rfl
    · rw [List.range_succ, List.filter_append, filter_range_more n (by omega) (fun x h1 h2 => hp x h1 (by omega))]
      simp [hp n (by omega) (by omega)]
theorem pastL_take {vs : List Vw} (ha : Acyc vs) {m : Nat} (hm : m ≤ vs.length) {l : List Nat} (hl : ∀ c, c ∈ l → c < m) : pastL (vs.take m) l = pastL vs l := by
  unfold pastL
  have hlen : (vs.take m).length = m := by simp; omega
  rw [hlen]
  rw [filter_range_more (m := m) vs.length hm (fun x h1 h2 => ?_)]
  · refine List.filter_congr fun x hx => ?_
    rw [Bool.eq_iff_iff, List.any_eq_true, List.any_eq_true]
    constructor
    · rintro ⟨c, hc, h⟩
      exact ⟨c, hc, by rwa [reach_take ha (hl c hc) (by have := hl c hc; omega)] at h⟩
    · rintro ⟨c, hc, h⟩
      exact ⟨c, hc, by rwa [reach_take ha (hl c hc) (by have := hl c hc; omega)]⟩
  · rw [Bool.eq_false_iff]
    intro h
    obtain ⟨c, hc, h⟩ := List.any_eq_true.1 h
    have := hl c hc
    have := reach_lt ha (by omega) h
    omega
theorem consB_take {vs : List Vw} {m : Nat} : ∀ {l : List Nat}, (∀ c, c ∈ l → c < m) → consB (vs.take m) l = consB vs l
  | [], _ => rfl
  | a :: l, h => by
    have hcl : ∀ b, b ∈ l → clash (vs.take m) a b = clash vs a b := fun b hb => by
      unfold clash
      rw [getV_take (h a (by simp)), getV_take (h b (by simp [hb]))]
    show ((l.all fun b => !clash (vs.take m) a b) && consB (vs.take m) l) = ((l.all fun b => !clash vs a b) && consB vs l)
    rw [consB_take (fun c hc => h c (by simp [hc]))]
    congr 1
    rw [Bool.eq_iff_iff, List.all_eq_true, List.all_eq_true]
    exact ⟨fun hh b hb => by rw [← hcl b hb]; exact hh b hb, fun hh b hb => by rw [hcl b hb]; exact hh b hb⟩
theorem checkE_take {n : Int} {vs : List Vw} (ha : Acyc vs) {v : Vw} {m : Nat} (hm : m ≤ vs.length) (h : checkE n (vs.take m) v = 0) : checkE n vs v = 0 := by
  obtain ⟨h1, h2⟩ := checkE_ok h
  by_cases hr : v.r = 0
  · unfold checkE; rw [if_pos (.inr hr)]; exact h1
  · obtain ⟨hl, ho, hc⟩ := h2 hr
    have hlen : (vs.take m).length = m := by simp; omega
    have hl' : ∀ q, q < 5 → linkE vs v q = 0 := fun q hq => by
      by_cases hq1 : v.h q = -1
      · unfold linkE; rw [if_pos hq1]
      · obtain ⟨a, b, c, d⟩ := linkE_ok (hl q hq) hq1
        rw [hlen] at b
        rw [getV_take b] at c d
        unfold linkE
        rw [if_neg hq1, if_neg (by omega), if_neg (by omega)]
    have hk : ∀ c, c ∈ kids v → c < m := fun c hc => by
      have := (kid_ok h hc).1
      omega
    unfold checkE
    rw [if_neg (by simp [h1, hr]), if_neg (by simp [fstE_zero.2 hl']), if_neg ho, ← pastL_take ha hm hk, ← consB_take (m := m), if_pos hc]
    intro c hc'
    rw [pastL_take ha hm hk] at hc'
    obtain ⟨_, d, hd, hr'⟩ := mem_pastL.1 hc'
    have := hk d hd
    have := reach_lt ha (by omega) hr'
    omega
theorem checkE_mem {n : Int} {vs : List Vw} (h : Wf n vs) {v : Vw} (hv : v ∈ vs) : checkE n vs v = 0 := by
  obtain ⟨k, hk, rfl⟩ := List.mem_iff_getElem.1 hv
  have := h.row_ok hk
  rw [getV_eq hk] at this
  exact checkE_take h.acyc (by omega) this
theorem ite_ne {c : Prop} [Decidable c] {a b d : Int} (h1 : a ≠ d) (h2 : b ≠ d) : (if c then a else b) ≠ d := by split <;> assumption
theorem checkE_ne7 {n : Int} {vs : List Vw} {v : Vw} : checkE n vs v ≠ 7 := by
  have hb : begE n v ≠ 7 := by unfold begE; exact ite_ne (by decide) (ite_ne (by decide) (ite_ne (by decide) (by decide)))
  have hl : ∀ k, fstE (linkE vs v) k ≠ 7 := fun k => by
    induction k with
    | zero => simp [fstE]
    | succ k ih =>
      unfold fstE
      split
      · unfold linkE; exact ite_ne (by decide) (ite_ne (by decide) (ite_ne (by decide) (by decide)))
      · exact ih
  unfold checkE
  exact ite_ne hb (ite_ne (hl 5) (ite_ne (by decide) (ite_ne (by decide) (by decide))))
end Go.Proofs.YtdfnmapmnmecnaaDoor

/- law: ViewsSettle: answers true for every table and view. -/
namespace Go.Proofs.YtdfnmapmnmecnaaDoor
open Go.RowKit

theorem settle_bad {n : Int} {vs : List Vw} {v : Vw} (h : goodB n vs = true) (hc : checkE n vs v ≠ 0) : addE n vs v = ((0, []), 0, checkE n vs v) ∧ findE n vs v = (0, false, 0) :=
  ⟨addE_row (good_check h) hc, findE_no (good_check h) (fun hv => hc (checkE_mem (good_wf h) hv))⟩
theorem settle_old {n : Int} {vs : List Vw} {v : Vw} (h : goodB n vs = true) (hv : v ∈ vs) : addE n vs v = ((n, vs), idxE vs v, 0) ∧ findE n vs v = (idxE vs v, true, 0) :=
  ⟨addE_old (good_check h) (checkE_mem (good_wf h) hv) hv, findE_yes (good_check h) hv⟩
theorem settle_new {n : Int} {vs : List Vw} {v : Vw} (h : goodB n vs = true) (hc : checkE n vs v = 0) (hv : v ∉ vs) :
    addE n vs v = ((n, vs ++ [v]), (vs.length : Int), 0) ∧ findE n vs v = (0, false, 0) ∧ addE n (vs ++ [v]) v = ((n, vs ++ [v]), (vs.length : Int), 0) ∧ findE n (vs ++ [v]) v = ((vs.length : Int), true, 0) ∧ CheckE n (vs ++ [v]) = 0 := by
  have hl := few_len (good_few h)
  have hw := (good_wf h).snoc hc hv
  have hC : CheckE n (vs ++ [v]) = 0 := CheckE_of_wf hw (by simp; omega)
  have hm : v ∈ vs ++ [v] := by simp
  exact ⟨addE_new (good_check h) hc hv (by omega), findE_no (good_check h) hv, by rw [addE_old hC (checkE_mem hw hm) hm, idxE_snoc hv], by rw [findE_yes hC hm, idxE_snoc hv], hC⟩

set_option maxRecDepth 100000 in
set_option maxHeartbeats 8000000 in
theorem law_settle (n : Int) (A : Option Addr) (cap : Nat) (vs : List Vw) (v : Vw) (w : World) (hA : VAt w w.heap.size A vs) (hc : vs.length ≤ cap) (hm : cap ≤ maxLen) (hl : vs.length ≤ 2199023255552) :
    Calls Tryd.prog 7 #[.agg #[.int .i64 n, .slice A vs.length cap], .agg v.cells] w (RetTrue w) := by
  have HA := Lib.hid hA
  have HC := Lib.hid hc
  have HM := Lib.hid hm
  clear hA hc hm
  go_enter Tryd.func7, Tryd.ntmps7
  unfold Vw.cells
  go_wp2_with fail
  obtain ⟨W0, hW0, d0, d1, hsz, hB0⟩ := twoboxes w #[.int .i64 n, .slice A vs.length cap] v.cells 24 27
  unfold Vw.cells at hW0 d1
  rw [hW0]
  clear hW0
  refine (good_any n A cap vs W0 ((HA.out.keep hB0).more hB0.size) HC.out HM.out hl).mono ?_
  rintro e w1 ⟨rfl, hb⟩
  have DT := Lib.hid d0
  have DV := Lib.hid d1
  have B := Lib.hid hB0
  clear d0 d1 hB0 hsz
  replace DT := Lib.hid ((hb.block _ (blk_lt DT.out)).trans DT.out)
  replace DV := Lib.hid ((hb.block _ (blk_lt DV.out)).trans DV.out)
  replace B := Lib.hid (B.out.trans (hb.mono B.out.size))
  clear hb
  have dT := DT.out
  have cT0 := blk_cell dT 0 rfl
  have cT1 := blk_cell dT 1 rfl
  have lT := blk_lt dT
  clear dT
  have dV := DV.out
  have cV0 := blk_cell dV 0 rfl
  have cV1 := blk_cell dV 1 rfl
  have cV2 := blk_cell dV 2 rfl
  have cV3 := blk_cell dV 3 rfl
  have cV4 := blk_cell dV 4 rfl
  have cV5 := blk_cell dV 5 rfl
  have cV6 := blk_cell dV 6 rfl
  have cV7 := blk_cell dV 7 rfl
  have lV := blk_lt dV
  clear dV
  obtain ⟨gg, hgg⟩ : ∃ gg, goodB n vs = gg := ⟨_, rfl⟩
  rw [hgg]
  have HG := Lib.hid hgg
  clear hgg
  cases gg
  · go_wp2_with fail
    refine (awake_any w1).mono ?_
    rintro e wz ⟨rfl, hbz⟩
    go_wp2_with fail
    go_ret
    exact ⟨rfl, B.out.trans (hbz.mono B.out.size)⟩
  · have HT : Hid (TArg w A cap vs) := ⟨HA.out, HC.out, HM.out, by have := few_len (good_few HG.out); omega⟩
    have HTA : Hid (TArg w1 A cap vs) := HT.out.keep B.out
    have hfew := few_len (good_few HG.out)
    clear HA HC HM HT hl
    by_cases h4 : 4 < v.r
    · have g1 : decide (v.r > 4) = true := by simpa using h4
      clear h4
      go_wp2_with fail
      refine (awake_any w1).mono ?_
      rintro e wz ⟨rfl, hbz⟩
      go_wp2_with fail
      go_ret
      exact ⟨rfl, B.out.trans (hbz.mono B.out.size)⟩
    · have g1 : decide (v.r > 4) = false := by simpa using h4
      clear h4
      by_cases hck : checkE n vs v = 0
      · by_cases hv : v ∈ vs
        · have hE1 := (settle_old HG.out hv).1
          have hE2 := (settle_old HG.out hv).2
          have E1 := Lib.hid hE1
          have E2 := Lib.hid hE2
          have E3 := Lib.hid hE1
          have E4 := Lib.hid hE2
          have E5 := Lib.hid (good_check HG.out)
          clear hE1 hE2 hv hck
          obtain ⟨us, hus⟩ : ∃ us, vs = us := ⟨_, rfl⟩
          rw [hus] at E1 E3 E4 E5 E2
          have hul : us.length ≤ 61 := by rw [← hus]; omega
          obtain ⟨i0, hi0⟩ : ∃ i0 : Int, idxE us v = i0 := ⟨_, rfl⟩
          rw [hi0] at E1 E3 E4 E2
          have HUS := Lib.hid hus
          have HI0 := Lib.hid hi0
          clear hus hi0
          rw [← HUS.out] at E1 E2
          have hc := vadd_any n A cap vs v _ HTA.out
          rw [E1.out] at hc
          unfold Vw.cells at hc
          have HCL := Lib.hid hc
          clear hc
          go_wp2_with fail
          refine HCL.out.mono ?_
          rintro e w2 ⟨A5, cap5, rfl, hT5, hb⟩
          clear HCL
          rw [HUS.out] at hT5
          have hll : vs.length = us.length := by rw [HUS.out]
          rw [hll]
          clear hll
          have HT5 := Lib.hid hT5
          clear hT5
          clear cV0 cV1 cV2 cV3 cV4 cV5 cV6 cV7 lV
          clear cT0 cT1 lT
          replace DT := Lib.hid ((hb.block _ (blk_lt DT.out)).trans DT.out)
          replace DV := Lib.hid ((hb.block _ (blk_lt DV.out)).trans DV.out)
          replace B := Lib.hid (B.out.trans (hb.mono B.out.size))
          replace HTA := Lib.hid (HTA.out.keep hb)
          clear hb
          have dT := DT.out
          have cT0 := blk_cell dT 0 rfl
          have cT1 := blk_cell dT 1 rfl
          have lT := blk_lt dT
          clear dT
          have dV := DV.out
          have cV0 := blk_cell dV 0 rfl
          have cV1 := blk_cell dV 1 rfl
          have cV2 := blk_cell dV 2 rfl
          have cV3 := blk_cell dV 3 rfl
          have cV4 := blk_cell dV 4 rfl
          have cV5 := blk_cell dV 5 rfl
          have cV6 := blk_cell dV 6 rfl
          have cV7 := blk_cell dV 7 rfl
          have lV := blk_lt dV
          clear dV
          go_wp2_with fail
          obtain ⟨W3, hW3, d3, hs3, hB3⟩ := onebox w2 #[.int .i64 n, .slice A5 us.length cap5] 24
          rw [hW3]
          clear hW3
          have DU := Lib.hid d3
          clear d3 hs3
          clear cV0 cV1 cV2 cV3 cV4 cV5 cV6 cV7 lV
          clear cT0 cT1 lT
          replace DT := Lib.hid ((hB3.block _ (blk_lt DT.out)).trans DT.out)
          replace DV := Lib.hid ((hB3.block _ (blk_lt DV.out)).trans DV.out)
          replace B := Lib.hid (B.out.trans (hB3.mono B.out.size))
          replace HTA := Lib.hid (HTA.out.keep hB3)
          replace HT5 := Lib.hid (HT5.out.keep hB3)
          clear hB3
          have dT := DT.out
          have cT0 := blk_cell dT 0 rfl
          have cT1 := blk_cell dT 1 rfl
          have lT := blk_lt dT
          clear dT
          have dV := DV.out
          have cV0 := blk_cell dV 0 rfl
          have cV1 := blk_cell dV 1 rfl
          have cV2 := blk_cell dV 2 rfl
          have cV3 := blk_cell dV 3 rfl
          have cV4 := blk_cell dV 4 rfl
          have cV5 := blk_cell dV 5 rfl
          have cV6 := blk_cell dV 6 rfl
          have cV7 := blk_cell dV 7 rfl
          have lV := blk_lt dV
          clear dV
          have dU := DU.out
          have cU0 := blk_cell dU 0 rfl
          have cU1 := blk_cell dU 1 rfl
          have lU := blk_lt dU
          clear dU
          have hc := vfind_any n A cap vs v _ HTA.out
          rw [E2.out] at hc
          unfold Vw.cells at hc
          have HCL := Lib.hid hc
          clear hc
          go_wp2_with fail
          refine HCL.out.mono ?_
          rintro e w4 ⟨rfl, hb⟩
          clear HCL
          clear cU0 cU1 lU
          clear cV0 cV1 cV2 cV3 cV4 cV5 cV6 cV7 lV
          clear cT0 cT1 lT
          replace DT := Lib.hid ((hb.block _ (blk_lt DT.out)).trans DT.out)
          replace DV := Lib.hid ((hb.block _ (blk_lt DV.out)).trans DV.out)
          replace DU := Lib.hid ((hb.block _ (blk_lt DU.out)).trans DU.out)
          replace B := Lib.hid (B.out.trans (hb.mono B.out.size))
          replace HTA := Lib.hid (HTA.out.keep hb)
          replace HT5 := Lib.hid (HT5.out.keep hb)
          clear hb
          have dT := DT.out
          have cT0 := blk_cell dT 0 rfl
          have cT1 := blk_cell dT 1 rfl
          have lT := blk_lt dT
          clear dT
          have dV := DV.out
          have cV0 := blk_cell dV 0 rfl
          have cV1 := blk_cell dV 1 rfl
          have cV2 := blk_cell dV 2 rfl
          have cV3 := blk_cell dV 3 rfl
          have cV4 := blk_cell dV 4 rfl
          have cV5 := blk_cell dV 5 rfl
          have cV6 := blk_cell dV 6 rfl
          have cV7 := blk_cell dV 7 rfl
          have lV := blk_lt dV
          clear dV
          have dU := DU.out
          have cU0 := blk_cell dU 0 rfl
          have cU1 := blk_cell dU 1 rfl
          have lU := blk_lt dU
          clear dU
          have hc := vadd_any n A5 cap5 us v _ HT5.out
          rw [E3.out] at hc
          unfold Vw.cells at hc
          have HCL := Lib.hid hc
          clear hc
          go_wp2_with fail
          refine HCL.out.mono ?_
          rintro e w5 ⟨A7, cap7, rfl, hT7, hb⟩
          clear HCL
          have HT7 := Lib.hid hT7
          clear hT7
          clear cU0 cU1 lU
          clear cV0 cV1 cV2 cV3 cV4 cV5 cV6 cV7 lV
          clear cT0 cT1 lT
          replace DT := Lib.hid ((hb.block _ (blk_lt DT.out)).trans DT.out)
          replace DV := Lib.hid ((hb.block _ (blk_lt DV.out)).trans DV.out)
          replace DU := Lib.hid ((hb.block _ (blk_lt DU.out)).trans DU.out)
          replace B := Lib.hid (B.out.trans (hb.mono B.out.size))
          replace HTA := Lib.hid (HTA.out.keep hb)
          replace HT5 := Lib.hid (HT5.out.keep hb)
          clear hb
          have dT := DT.out
          have cT0 := blk_cell dT 0 rfl
          have cT1 := blk_cell dT 1 rfl
          have lT := blk_lt dT
          clear dT
          have dV := DV.out
          have cV0 := blk_cell dV 0 rfl
          have cV1 := blk_cell dV 1 rfl
          have cV2 := blk_cell dV 2 rfl
          have cV3 := blk_cell dV 3 rfl
          have cV4 := blk_cell dV 4 rfl
          have cV5 := blk_cell dV 5 rfl
          have cV6 := blk_cell dV 6 rfl
          have cV7 := blk_cell dV 7 rfl
          have lV := blk_lt dV
          clear dV
          have dU := DU.out
          have cU0 := blk_cell dU 0 rfl
          have cU1 := blk_cell dU 1 rfl
          have lU := blk_lt dU
          clear dU
          go_wp2_with fail
          obtain ⟨W6, hW6, d6, hs6, hB6⟩ := onebox w5 #[.int .i64 n, .slice A7 us.length cap7] 24
          rw [hW6]
          clear hW6
          have DW := Lib.hid d6
          clear d6 hs6
          clear cU0 cU1 lU
          clear cV0 cV1 cV2 cV3 cV4 cV5 cV6 cV7 lV
          clear cT0 cT1 lT
          replace DT := Lib.hid ((hB6.block _ (blk_lt DT.out)).trans DT.out)
          replace DV := Lib.hid ((hB6.block _ (blk_lt DV.out)).trans DV.out)
          replace DU := Lib.hid ((hB6.block _ (blk_lt DU.out)).trans DU.out)
          replace B := Lib.hid (B.out.trans (hB6.mono B.out.size))
          replace HTA := Lib.hid (HTA.out.keep hB6)
          replace HT5 := Lib.hid (HT5.out.keep hB6)
          replace HT7 := Lib.hid (HT7.out.keep hB6)
          clear hB6
          have dT := DT.out
          have cT0 := blk_cell dT 0 rfl
          have cT1 := blk_cell dT 1 rfl
          have lT := blk_lt dT
          clear dT
          have dV := DV.out
          have cV0 := blk_cell dV 0 rfl
          have cV1 := blk_cell dV 1 rfl
          have cV2 := blk_cell dV 2 rfl
          have cV3 := blk_cell dV 3 rfl
          have cV4 := blk_cell dV 4 rfl
          have cV5 := blk_cell dV 5 rfl
          have cV6 := blk_cell dV 6 rfl
          have cV7 := blk_cell dV 7 rfl
          have lV := blk_lt dV
          clear dV
          have dU := DU.out
          have cU0 := blk_cell dU 0 rfl
          have cU1 := blk_cell dU 1 rfl
          have lU := blk_lt dU
          clear dU
          have dW := DW.out
          have cW0 := blk_cell dW 0 rfl
          have cW1 := blk_cell dW 1 rfl
          have lW := blk_lt dW
          clear dW
          have hc := vfind_any n A5 cap5 us v _ HT5.out
          rw [E4.out] at hc
          unfold Vw.cells at hc
          have HCL := Lib.hid hc
          clear hc
          go_wp2_with fail
          refine HCL.out.mono ?_
          rintro e w7 ⟨rfl, hb⟩
          clear HCL
          clear cU0 cU1 lU
          clear cW0 cW1 lW
          clear cV0 cV1 cV2 cV3 cV4 cV5 cV6 cV7 lV
          clear cT0 cT1 lT
          replace DT := Lib.hid ((hb.block _ (blk_lt DT.out)).trans DT.out)
          replace DV := Lib.hid ((hb.block _ (blk_lt DV.out)).trans DV.out)
          replace DU := Lib.hid ((hb.block _ (blk_lt DU.out)).trans DU.out)
          replace DW := Lib.hid ((hb.block _ (blk_lt DW.out)).trans DW.out)
          replace B := Lib.hid (B.out.trans (hb.mono B.out.size))
          replace HTA := Lib.hid (HTA.out.keep hb)
          replace HT5 := Lib.hid (HT5.out.keep hb)
          replace HT7 := Lib.hid (HT7.out.keep hb)
          clear hb
          have dT := DT.out
          have cT0 := blk_cell dT 0 rfl
          have cT1 := blk_cell dT 1 rfl
          have lT := blk_lt dT
          clear dT
          have dV := DV.out
          have cV0 := blk_cell dV 0 rfl
          have cV1 := blk_cell dV 1 rfl
          have cV2 := blk_cell dV 2 rfl
          have cV3 := blk_cell dV 3 rfl
          have cV4 := blk_cell dV 4 rfl
          have cV5 := blk_cell dV 5 rfl
          have cV6 := blk_cell dV 6 rfl
          have cV7 := blk_cell dV 7 rfl
          have lV := blk_lt dV
          clear dV
          have dU := DU.out
          have cU0 := blk_cell dU 0 rfl
          have cU1 := blk_cell dU 1 rfl
          have lU := blk_lt dU
          clear dU
          have dW := DW.out
          have cW0 := blk_cell dW 0 rfl
          have cW1 := blk_cell dW 1 rfl
          have lW := blk_lt dW
          clear dW
          have e1 : (i0 != i0) = false := by simp
          have hul2 : us.length ≤ 2199023255552 := by omega
          have hc := same_any n n A5 A7 cap5 cap7 us us w7 w7.heap.size (Nat.le_refl _) HT5.out.rows HT7.out.rows hul2 hul2
          have HCL := Lib.hid hc
          clear hc
          go_wp2_with fail
          refine HCL.out.mono ?_
          rintro e w8 ⟨rfl, hb⟩
          clear HCL
          clear cU0 cU1 lU
          clear cW0 cW1 lW
          clear cV0 cV1 cV2 cV3 cV4 cV5 cV6 cV7 lV
          clear cT0 cT1 lT
          replace DT := Lib.hid ((hb.block _ (blk_lt DT.out)).trans DT.out)
          replace DV := Lib.hid ((hb.block _ (blk_lt DV.out)).trans DV.out)
          replace DU := Lib.hid ((hb.block _ (blk_lt DU.out)).trans DU.out)
          replace DW := Lib.hid ((hb.block _ (blk_lt DW.out)).trans DW.out)
          replace B := Lib.hid (B.out.trans (hb.mono B.out.size))
          replace HTA := Lib.hid (HTA.out.keep hb)
          replace HT5 := Lib.hid (HT5.out.keep hb)
          replace HT7 := Lib.hid (HT7.out.keep hb)
          clear hb
          have dT := DT.out
          have cT0 := blk_cell dT 0 rfl
          have cT1 := blk_cell dT 1 rfl
          have lT := blk_lt dT
          clear dT
          have dV := DV.out
          have cV0 := blk_cell dV 0 rfl
          have cV1 := blk_cell dV 1 rfl
          have cV2 := blk_cell dV 2 rfl
          have cV3 := blk_cell dV 3 rfl
          have cV4 := blk_cell dV 4 rfl
          have cV5 := blk_cell dV 5 rfl
          have cV6 := blk_cell dV 6 rfl
          have cV7 := blk_cell dV 7 rfl
          have lV := blk_lt dV
          clear dV
          have dU := DU.out
          have cU0 := blk_cell dU 0 rfl
          have cU1 := blk_cell dU 1 rfl
          have lU := blk_lt dU
          clear dU
          have dW := DW.out
          have cW0 := blk_cell dW 0 rfl
          have cW1 := blk_cell dW 1 rfl
          have lW := blk_lt dW
          clear dW
          have e2 : decide (n = n ∧ us = us) = true := by simp
          have hc := vcheck_any n A5 cap5 us w8 HT5.out
          rw [E5.out] at hc
          have HCL := Lib.hid hc
          clear hc
          go_wp2_with fail
          refine HCL.out.mono ?_
          rintro e w9 ⟨rfl, hb⟩
          clear HCL e2 e1
          clear cU0 cU1 lU
          clear cW0 cW1 lW
          clear cV0 cV1 cV2 cV3 cV4 cV5 cV6 cV7 lV
          clear cT0 cT1 lT
          replace DT := Lib.hid ((hb.block _ (blk_lt DT.out)).trans DT.out)
          replace DV := Lib.hid ((hb.block _ (blk_lt DV.out)).trans DV.out)
          replace DU := Lib.hid ((hb.block _ (blk_lt DU.out)).trans DU.out)
          replace DW := Lib.hid ((hb.block _ (blk_lt DW.out)).trans DW.out)
          replace B := Lib.hid (B.out.trans (hb.mono B.out.size))
          replace HTA := Lib.hid (HTA.out.keep hb)
          replace HT5 := Lib.hid (HT5.out.keep hb)
          replace HT7 := Lib.hid (HT7.out.keep hb)
          clear hb
          have dT := DT.out
          have cT0 := blk_cell dT 0 rfl
          have cT1 := blk_cell dT 1 rfl
          have lT := blk_lt dT
          clear dT
          have dV := DV.out
          have cV0 := blk_cell dV 0 rfl
          have cV1 := blk_cell dV 1 rfl
          have cV2 := blk_cell dV 2 rfl
          have cV3 := blk_cell dV 3 rfl
          have cV4 := blk_cell dV 4 rfl
          have cV5 := blk_cell dV 5 rfl
          have cV6 := blk_cell dV 6 rfl
          have cV7 := blk_cell dV 7 rfl
          have lV := blk_lt dV
          clear dV
          have dU := DU.out
          have cU0 := blk_cell dU 0 rfl
          have cU1 := blk_cell dU 1 rfl
          have lU := blk_lt dU
          clear dU
          have dW := DW.out
          have cW0 := blk_cell dW 0 rfl
          have cW1 := blk_cell dW 1 rfl
          have lW := blk_lt dW
          clear dW
          have hc := same_any n n A5 A cap5 cap us vs w9 w9.heap.size (Nat.le_refl _) HT5.out.rows HTA.out.rows hul2 (by omega)
          have e3 : decide (n = n ∧ us = vs) = true := by simp [HUS.out]
          rw [e3] at hc
          have HCL := Lib.hid hc
          clear hc e3
          have e4 : (i0 == i0) = true := by simp
          go_wp2_with fail
          refine HCL.out.mono ?_
          rintro e w10 ⟨rfl, hb⟩
          clear HCL
          clear cU0 cU1 lU
          clear cW0 cW1 lW
          clear cV0 cV1 cV2 cV3 cV4 cV5 cV6 cV7 lV
          clear cT0 cT1 lT
          replace DT := Lib.hid ((hb.block _ (blk_lt DT.out)).trans DT.out)
          replace DV := Lib.hid ((hb.block _ (blk_lt DV.out)).trans DV.out)
          replace DU := Lib.hid ((hb.block _ (blk_lt DU.out)).trans DU.out)
          replace DW := Lib.hid ((hb.block _ (blk_lt DW.out)).trans DW.out)
          replace B := Lib.hid (B.out.trans (hb.mono B.out.size))
          replace HTA := Lib.hid (HTA.out.keep hb)
          replace HT5 := Lib.hid (HT5.out.keep hb)
          replace HT7 := Lib.hid (HT7.out.keep hb)
          clear hb
          have dT := DT.out
          have cT0 := blk_cell dT 0 rfl
          have cT1 := blk_cell dT 1 rfl
          have lT := blk_lt dT
          clear dT
          have dV := DV.out
          have cV0 := blk_cell dV 0 rfl
          have cV1 := blk_cell dV 1 rfl
          have cV2 := blk_cell dV 2 rfl
          have cV3 := blk_cell dV 3 rfl
          have cV4 := blk_cell dV 4 rfl
          have cV5 := blk_cell dV 5 rfl
          have cV6 := blk_cell dV 6 rfl
          have cV7 := blk_cell dV 7 rfl
          have lV := blk_lt dV
          clear dV
          have dU := DU.out
          have cU0 := blk_cell dU 0 rfl
          have cU1 := blk_cell dU 1 rfl
          have lU := blk_lt dU
          clear dU
          have dW := DW.out
          have cW0 := blk_cell dW 0 rfl
          have cW1 := blk_cell dW 1 rfl
          have lW := blk_lt dW
          clear dW
          go_wp2_with fail
          refine (awake_any w10).mono ?_
          rintro e wz ⟨rfl, hbz⟩
          go_wp2_with fail
          go_ret
          exact ⟨rfl, B.out.trans (hbz.mono B.out.size)⟩
        · obtain ⟨hE1, hE2, hE3, hE4, hE5⟩ := settle_new HG.out hck hv
          have E1 := Lib.hid hE1
          have E2 := Lib.hid hE2
          have E3 := Lib.hid hE3
          have E4 := Lib.hid hE4
          have E5 := Lib.hid hE5
          clear hE1 hE2 hE3 hE4 hE5 hv hck
          obtain ⟨us, hus⟩ : ∃ us, (vs ++ [v]) = us := ⟨_, rfl⟩
          rw [hus] at E1 E3 E4 E5
          have hul : us.length ≤ 61 := by rw [← hus]; simp; omega
          obtain ⟨i0, hi0⟩ : ∃ i0 : Int, (vs.length : Int) = i0 := ⟨_, rfl⟩
          rw [hi0] at E1 E3 E4
          have HUS := Lib.hid hus
          have HI0 := Lib.hid hi0
          clear hus hi0
          have hc := vadd_any n A cap vs v _ HTA.out
          rw [E1.out] at hc
          unfold Vw.cells at hc
          have HCL := Lib.hid hc
          clear hc
          go_wp2_with fail
          refine HCL.out.mono ?_
          rintro e w2 ⟨A5, cap5, rfl, hT5, hb⟩
          clear HCL
          have HT5 := Lib.hid hT5
          clear hT5
          clear cV0 cV1 cV2 cV3 cV4 cV5 cV6 cV7 lV
          clear cT0 cT1 lT
          replace DT := Lib.hid ((hb.block _ (blk_lt DT.out)).trans DT.out)
          replace DV := Lib.hid ((hb.block _ (blk_lt DV.out)).trans DV.out)
          replace B := Lib.hid (B.out.trans (hb.mono B.out.size))
          replace HTA := Lib.hid (HTA.out.keep hb)
          clear hb
          have dT := DT.out
          have cT0 := blk_cell dT 0 rfl
          have cT1 := blk_cell dT 1 rfl
          have lT := blk_lt dT
          clear dT
          have dV := DV.out
          have cV0 := blk_cell dV 0 rfl
          have cV1 := blk_cell dV 1 rfl
          have cV2 := blk_cell dV 2 rfl
          have cV3 := blk_cell dV 3 rfl
          have cV4 := blk_cell dV 4 rfl
          have cV5 := blk_cell dV 5 rfl
          have cV6 := blk_cell dV 6 rfl
          have cV7 := blk_cell dV 7 rfl
          have lV := blk_lt dV
          clear dV
          go_wp2_with fail
          obtain ⟨W3, hW3, d3, hs3, hB3⟩ := onebox w2 #[.int .i64 n, .slice A5 us.length cap5] 24
          rw [hW3]
          clear hW3
          have DU := Lib.hid d3
          clear d3 hs3
          clear cV0 cV1 cV2 cV3 cV4 cV5 cV6 cV7 lV
          clear cT0 cT1 lT
          replace DT := Lib.hid ((hB3.block _ (blk_lt DT.out)).trans DT.out)
          replace DV := Lib.hid ((hB3.block _ (blk_lt DV.out)).trans DV.out)
          replace B := Lib.hid (B.out.trans (hB3.mono B.out.size))
          replace HTA := Lib.hid (HTA.out.keep hB3)
          replace HT5 := Lib.hid (HT5.out.keep hB3)
          clear hB3
          have dT := DT.out
          have cT0 := blk_cell dT 0 rfl
          have cT1 := blk_cell dT 1 rfl
          have lT := blk_lt dT
          clear dT
          have dV := DV.out
          have cV0 := blk_cell dV 0 rfl
          have cV1 := blk_cell dV 1 rfl
          have cV2 := blk_cell dV 2 rfl
          have cV3 := blk_cell dV 3 rfl
          have cV4 := blk_cell dV 4 rfl
          have cV5 := blk_cell dV 5 rfl
          have cV6 := blk_cell dV 6 rfl
          have cV7 := blk_cell dV 7 rfl
          have lV := blk_lt dV
          clear dV
          have dU := DU.out
          have cU0 := blk_cell dU 0 rfl
          have cU1 := blk_cell dU 1 rfl
          have lU := blk_lt dU
          clear dU
          have hc := vfind_any n A cap vs v _ HTA.out
          rw [E2.out] at hc
          unfold Vw.cells at hc
          have HCL := Lib.hid hc
          clear hc
          go_wp2_with fail
          refine HCL.out.mono ?_
          rintro e w4 ⟨rfl, hb⟩
          clear HCL
          clear cU0 cU1 lU
          clear cV0 cV1 cV2 cV3 cV4 cV5 cV6 cV7 lV
          clear cT0 cT1 lT
          replace DT := Lib.hid ((hb.block _ (blk_lt DT.out)).trans DT.out)
          replace DV := Lib.hid ((hb.block _ (blk_lt DV.out)).trans DV.out)
          replace DU := Lib.hid ((hb.block _ (blk_lt DU.out)).trans DU.out)
          replace B := Lib.hid (B.out.trans (hb.mono B.out.size))
          replace HTA := Lib.hid (HTA.out.keep hb)
          replace HT5 := Lib.hid (HT5.out.keep hb)
          clear hb
          have dT := DT.out
          have cT0 := blk_cell dT 0 rfl
          have cT1 := blk_cell dT 1 rfl
          have lT := blk_lt dT
          clear dT
          have dV := DV.out
          have cV0 := blk_cell dV 0 rfl
          have cV1 := blk_cell dV 1 rfl
          have cV2 := blk_cell dV 2 rfl
          have cV3 := blk_cell dV 3 rfl
          have cV4 := blk_cell dV 4 rfl
          have cV5 := blk_cell dV 5 rfl
          have cV6 := blk_cell dV 6 rfl
          have cV7 := blk_cell dV 7 rfl
          have lV := blk_lt dV
          clear dV
          have dU := DU.out
          have cU0 := blk_cell dU 0 rfl
          have cU1 := blk_cell dU 1 rfl
          have lU := blk_lt dU
          clear dU
          have hc := vadd_any n A5 cap5 us v _ HT5.out
          rw [E3.out] at hc
          unfold Vw.cells at hc
          have HCL := Lib.hid hc
          clear hc
          go_wp2_with fail
          refine HCL.out.mono ?_
          rintro e w5 ⟨A7, cap7, rfl, hT7, hb⟩
          clear HCL
          have HT7 := Lib.hid hT7
          clear hT7
          clear cU0 cU1 lU
          clear cV0 cV1 cV2 cV3 cV4 cV5 cV6 cV7 lV
          clear cT0 cT1 lT
          replace DT := Lib.hid ((hb.block _ (blk_lt DT.out)).trans DT.out)
          replace DV := Lib.hid ((hb.block _ (blk_lt DV.out)).trans DV.out)
          replace DU := Lib.hid ((hb.block _ (blk_lt DU.out)).trans DU.out)
          replace B := Lib.hid (B.out.trans (hb.mono B.out.size))
          replace HTA := Lib.hid (HTA.out.keep hb)
          replace HT5 := Lib.hid (HT5.out.keep hb)
          clear hb
          have dT := DT.out
          have cT0 := blk_cell dT 0 rfl
          have cT1 := blk_cell dT 1 rfl
          have lT := blk_lt dT
          clear dT
          have dV := DV.out
          have cV0 := blk_cell dV 0 rfl
          have cV1 := blk_cell dV 1 rfl
          have cV2 := blk_cell dV 2 rfl
          have cV3 := blk_cell dV 3 rfl
          have cV4 := blk_cell dV 4 rfl
          have cV5 := blk_cell dV 5 rfl
          have cV6 := blk_cell dV 6 rfl
          have cV7 := blk_cell dV 7 rfl
          have lV := blk_lt dV
          clear dV
          have dU := DU.out
          have cU0 := blk_cell dU 0 rfl
          have cU1 := blk_cell dU 1 rfl
          have lU := blk_lt dU
          clear dU
          go_wp2_with fail
          obtain ⟨W6, hW6, d6, hs6, hB6⟩ := onebox w5 #[.int .i64 n, .slice A7 us.length cap7] 24
          rw [hW6]
          clear hW6
          have DW := Lib.hid d6
          clear d6 hs6
          clear cU0 cU1 lU
          clear cV0 cV1 cV2 cV3 cV4 cV5 cV6 cV7 lV
          clear cT0 cT1 lT
          replace DT := Lib.hid ((hB6.block _ (blk_lt DT.out)).trans DT.out)
          replace DV := Lib.hid ((hB6.block _ (blk_lt DV.out)).trans DV.out)
          replace DU := Lib.hid ((hB6.block _ (blk_lt DU.out)).trans DU.out)
          replace B := Lib.hid (B.out.trans (hB6.mono B.out.size))
          replace HTA := Lib.hid (HTA.out.keep hB6)
          replace HT5 := Lib.hid (HT5.out.keep hB6)
          replace HT7 := Lib.hid (HT7.out.keep hB6)
          clear hB6
          have dT := DT.out
          have cT0 := blk_cell dT 0 rfl
          have cT1 := blk_cell dT 1 rfl
          have lT := blk_lt dT
          clear dT
          have dV := DV.out
          have cV0 := blk_cell dV 0 rfl
          have cV1 := blk_cell dV 1 rfl
          have cV2 := blk_cell dV 2 rfl
          have cV3 := blk_cell dV 3 rfl
          have cV4 := blk_cell dV 4 rfl
          have cV5 := blk_cell dV 5 rfl
          have cV6 := blk_cell dV 6 rfl
          have cV7 := blk_cell dV 7 rfl
          have lV := blk_lt dV
          clear dV
          have dU := DU.out
          have cU0 := blk_cell dU 0 rfl
          have cU1 := blk_cell dU 1 rfl
          have lU := blk_lt dU
          clear dU
          have dW := DW.out
          have cW0 := blk_cell dW 0 rfl
          have cW1 := blk_cell dW 1 rfl
          have lW := blk_lt dW
          clear dW
          have hc := vfind_any n A5 cap5 us v _ HT5.out
          rw [E4.out] at hc
          unfold Vw.cells at hc
          have HCL := Lib.hid hc
          clear hc
          go_wp2_with fail
          refine HCL.out.mono ?_
          rintro e w7 ⟨rfl, hb⟩
          clear HCL
          clear cU0 cU1 lU
          clear cW0 cW1 lW
          clear cV0 cV1 cV2 cV3 cV4 cV5 cV6 cV7 lV
          clear cT0 cT1 lT
          replace DT := Lib.hid ((hb.block _ (blk_lt DT.out)).trans DT.out)
          replace DV := Lib.hid ((hb.block _ (blk_lt DV.out)).trans DV.out)
          replace DU := Lib.hid ((hb.block _ (blk_lt DU.out)).trans DU.out)
          replace DW := Lib.hid ((hb.block _ (blk_lt DW.out)).trans DW.out)
          replace B := Lib.hid (B.out.trans (hb.mono B.out.size))
          replace HTA := Lib.hid (HTA.out.keep hb)
          replace HT5 := Lib.hid (HT5.out.keep hb)
          replace HT7 := Lib.hid (HT7.out.keep hb)
          clear hb
          have dT := DT.out
          have cT0 := blk_cell dT 0 rfl
          have cT1 := blk_cell dT 1 rfl
          have lT := blk_lt dT
          clear dT
          have dV := DV.out
          have cV0 := blk_cell dV 0 rfl
          have cV1 := blk_cell dV 1 rfl
          have cV2 := blk_cell dV 2 rfl
          have cV3 := blk_cell dV 3 rfl
          have cV4 := blk_cell dV 4 rfl
          have cV5 := blk_cell dV 5 rfl
          have cV6 := blk_cell dV 6 rfl
          have cV7 := blk_cell dV 7 rfl
          have lV := blk_lt dV
          clear dV
          have dU := DU.out
          have cU0 := blk_cell dU 0 rfl
          have cU1 := blk_cell dU 1 rfl
          have lU := blk_lt dU
          clear dU
          have dW := DW.out
          have cW0 := blk_cell dW 0 rfl
          have cW1 := blk_cell dW 1 rfl
          have lW := blk_lt dW
          clear dW
          have e1 : (i0 != i0) = false := by simp
          have hul2 : us.length ≤ 2199023255552 := by omega
          have hc := same_any n n A5 A7 cap5 cap7 us us w7 w7.heap.size (Nat.le_refl _) HT5.out.rows HT7.out.rows hul2 hul2
          have HCL := Lib.hid hc
          clear hc
          go_wp2_with fail
          refine HCL.out.mono ?_
          rintro e w8 ⟨rfl, hb⟩
          clear HCL
          clear cU0 cU1 lU
          clear cW0 cW1 lW
          clear cV0 cV1 cV2 cV3 cV4 cV5 cV6 cV7 lV
          clear cT0 cT1 lT
          replace DT := Lib.hid ((hb.block _ (blk_lt DT.out)).trans DT.out)
          replace DV := Lib.hid ((hb.block _ (blk_lt DV.out)).trans DV.out)
          replace DU := Lib.hid ((hb.block _ (blk_lt DU.out)).trans DU.out)
          replace DW := Lib.hid ((hb.block _ (blk_lt DW.out)).trans DW.out)
          replace B := Lib.hid (B.out.trans (hb.mono B.out.size))
          replace HTA := Lib.hid (HTA.out.keep hb)
          replace HT5 := Lib.hid (HT5.out.keep hb)
          replace HT7 := Lib.hid (HT7.out.keep hb)
          clear hb
          have dT := DT.out
          have cT0 := blk_cell dT 0 rfl
          have cT1 := blk_cell dT 1 rfl
          have lT := blk_lt dT
          clear dT
          have dV := DV.out
          have cV0 := blk_cell dV 0 rfl
          have cV1 := blk_cell dV 1 rfl
          have cV2 := blk_cell dV 2 rfl
          have cV3 := blk_cell dV 3 rfl
          have cV4 := blk_cell dV 4 rfl
          have cV5 := blk_cell dV 5 rfl
          have cV6 := blk_cell dV 6 rfl
          have cV7 := blk_cell dV 7 rfl
          have lV := blk_lt dV
          clear dV
          have dU := DU.out
          have cU0 := blk_cell dU 0 rfl
          have cU1 := blk_cell dU 1 rfl
          have lU := blk_lt dU
          clear dU
          have dW := DW.out
          have cW0 := blk_cell dW 0 rfl
          have cW1 := blk_cell dW 1 rfl
          have lW := blk_lt dW
          clear dW
          have e2 : decide (n = n ∧ us = us) = true := by simp
          have hc := vcheck_any n A5 cap5 us w8 HT5.out
          rw [E5.out] at hc
          have HCL := Lib.hid hc
          clear hc
          go_wp2_with fail
          refine HCL.out.mono ?_
          rintro e w9 ⟨rfl, hb⟩
          clear HCL e2 e1
          clear cU0 cU1 lU
          clear cW0 cW1 lW
          clear cV0 cV1 cV2 cV3 cV4 cV5 cV6 cV7 lV
          clear cT0 cT1 lT
          replace DT := Lib.hid ((hb.block _ (blk_lt DT.out)).trans DT.out)
          replace DV := Lib.hid ((hb.block _ (blk_lt DV.out)).trans DV.out)
          replace DU := Lib.hid ((hb.block _ (blk_lt DU.out)).trans DU.out)
          replace DW := Lib.hid ((hb.block _ (blk_lt DW.out)).trans DW.out)
          replace B := Lib.hid (B.out.trans (hb.mono B.out.size))
          replace HTA := Lib.hid (HTA.out.keep hb)
          replace HT5 := Lib.hid (HT5.out.keep hb)
          replace HT7 := Lib.hid (HT7.out.keep hb)
          clear hb
          have dT := DT.out
          have cT0 := blk_cell dT 0 rfl
          have cT1 := blk_cell dT 1 rfl
          have lT := blk_lt dT
          clear dT
          have dV := DV.out
          have cV0 := blk_cell dV 0 rfl
          have cV1 := blk_cell dV 1 rfl
          have cV2 := blk_cell dV 2 rfl
          have cV3 := blk_cell dV 3 rfl
          have cV4 := blk_cell dV 4 rfl
          have cV5 := blk_cell dV 5 rfl
          have cV6 := blk_cell dV 6 rfl
          have cV7 := blk_cell dV 7 rfl
          have lV := blk_lt dV
          clear dV
          have dU := DU.out
          have cU0 := blk_cell dU 0 rfl
          have cU1 := blk_cell dU 1 rfl
          have lU := blk_lt dU
          clear dU
          have dW := DW.out
          have cW0 := blk_cell dW 0 rfl
          have cW1 := blk_cell dW 1 rfl
          have lW := blk_lt dW
          clear dW
          obtain rfl := HI0.out
          have hulv : us.length = vs.length + 1 := by rw [← HUS.out]; simp
          have hlt : vs.length < us.length := by omega
          have HROW := Lib.hid (HT5.out.rows.row vs.length hlt)
          have hget : us[vs.length] = v := by simp [← HUS.out]
          rw [hget] at HROW
          obtain ⟨rb, ro, rfl, hrb, r0, r1, r2, r3, r4, r5, r6, r7⟩ := HROW.out
          have HSM : Hid (VAt w9 w9.heap.size (some ⟨rb, ro, none⟩) vs) := by
            have h := HT5.out.rows.take vs.length
            have e : us.take vs.length = vs := by rw [← HUS.out]; simp
            rwa [e] at h
          have hcap : us.length ≤ cap5 := HT5.out.lec
          have hcm : cap5 ≤ maxLen := HT5.out.lem
          have heq : ∀ X : World, (binOp .eql 27 (.agg #[.int .i64 v.p, .int .i64 v.r, .int .i64 v.i, .int .i64 v.h0, .int .i64 v.h1, .int .i64 v.h2, .int .i64 v.h3, .int .i64 v.h4]) (.agg #[.int .i64 v.p, .int .i64 v.r, .int .i64 v.i, .int .i64 v.h0, .int .i64 v.h1, .int .i64 v.h2, .int .i64 v.h3, .int .i64 v.h4])).run Tryd.prog X = .ok (.bool true) X := fun X => by have h := eql_view v v X; rw [show decide (v = v) = true from by simp] at h; exact h
          have q1 : ((vs.length : Int) == (vs.length : Int)) = true := by simp
          have q2 : ((us.length : Int) == (vs.length : Int) + 1) = true := by rw [hulv]; simp
          have q3 : (0 : Int) ≤ (vs.length : Int) := by omega
          have q4 : (vs.length : Int) ≤ (cap5 : Int) := by omega
          have q5 : (vs.length : Int) < (us.length : Int) := by omega
          have q6 : IntKind.i64.wrap ((vs.length : Int) + 1) = (vs.length : Int) + 1 := IntWalk.i64_in _ ⟨by omega, by omega⟩
          unfold maxLen at hcm
          clear hget HROW hulv E1 E2 E3 E4 E5 HUS HI0
          go_upto_region 15 with fail
          go_region_held3 (fun w' => w'.cell? ⟨w.heap.size, 0, none⟩ = some (.int .i64 n) ∧ w'.cell? ⟨w.heap.size, 1, none⟩ = some (.slice A vs.length cap) ∧ w'.cell? ⟨w2.heap.size, 0, none⟩ = some (.int .i64 n) ∧ w'.cell? ⟨w2.heap.size, 1, none⟩ = some (.slice (some ⟨rb, ro, none⟩) us.length cap5) ∧ w'.cell? ⟨w.heap.size + 1, 0, none⟩ = some (.int .i64 v.p) ∧ w'.cell? ⟨w.heap.size + 1, 1, none⟩ = some (.int .i64 v.r) ∧ w'.cell? ⟨w.heap.size + 1, 2, none⟩ = some (.int .i64 v.i) ∧ w'.cell? ⟨w.heap.size + 1, 3, none⟩ = some (.int .i64 v.h0) ∧ w'.cell? ⟨w.heap.size + 1, 4, none⟩ = some (.int .i64 v.h1) ∧ w'.cell? ⟨w.heap.size + 1, 5, none⟩ = some (.int .i64 v.h2) ∧ w'.cell? ⟨w.heap.size + 1, 6, none⟩ = some (.int .i64 v.h3) ∧ w'.cell? ⟨w.heap.size + 1, 7, none⟩ = some (.int .i64 v.h4) ∧ w'.cell? ⟨rb, ro + vs.length * 8, none⟩ = some (.int .i64 v.p) ∧ w'.cell? ⟨rb, ro + vs.length * 8 + 1, none⟩ = some (.int .i64 v.r) ∧ w'.cell? ⟨rb, ro + vs.length * 8 + 2, none⟩ = some (.int .i64 v.i) ∧ w'.cell? ⟨rb, ro + vs.length * 8 + 3, none⟩ = some (.int .i64 v.h0) ∧ w'.cell? ⟨rb, ro + vs.length * 8 + 4, none⟩ = some (.int .i64 v.h1) ∧ w'.cell? ⟨rb, ro + vs.length * 8 + 5, none⟩ = some (.int .i64 v.h2) ∧ w'.cell? ⟨rb, ro + vs.length * 8 + 6, none⟩ = some (.int .i64 v.h3) ∧ w'.cell? ⟨rb, ro + vs.length * 8 + 7, none⟩ = some (.int .i64 v.h4))
            (first
              | exact ⟨cT0, cT1, cU0, cU1, cV0, cV1, cV2, cV3, cV4, cV5, cV6, cV7, r0, r1, r2, r3, r4, r5, r6, r7⟩
              | exact ⟨(hbS.cell (p := ⟨w.heap.size, 0, none⟩) lT).trans cT0, (hbS.cell (p := ⟨w.heap.size, 1, none⟩) lT).trans cT1, (hbS.cell (p := ⟨w2.heap.size, 0, none⟩) lU).trans cU0, (hbS.cell (p := ⟨w2.heap.size, 1, none⟩) lU).trans cU1, (hbS.cell (p := ⟨w.heap.size + 1, 0, none⟩) lV).trans cV0, (hbS.cell (p := ⟨w.heap.size + 1, 1, none⟩) lV).trans cV1, (hbS.cell (p := ⟨w.heap.size + 1, 2, none⟩) lV).trans cV2, (hbS.cell (p := ⟨w.heap.size + 1, 3, none⟩) lV).trans cV3, (hbS.cell (p := ⟨w.heap.size + 1, 4, none⟩) lV).trans cV4, (hbS.cell (p := ⟨w.heap.size + 1, 5, none⟩) lV).trans cV5, (hbS.cell (p := ⟨w.heap.size + 1, 6, none⟩) lV).trans cV6, (hbS.cell (p := ⟨w.heap.size + 1, 7, none⟩) lV).trans cV7, (hbS.cell (p := ⟨rb, ro + vs.length * 8, none⟩) hrb).trans r0, (hbS.cell (p := ⟨rb, ro + vs.length * 8 + 1, none⟩) hrb).trans r1, (hbS.cell (p := ⟨rb, ro + vs.length * 8 + 2, none⟩) hrb).trans r2, (hbS.cell (p := ⟨rb, ro + vs.length * 8 + 3, none⟩) hrb).trans r3, (hbS.cell (p := ⟨rb, ro + vs.length * 8 + 4, none⟩) hrb).trans r4, (hbS.cell (p := ⟨rb, ro + vs.length * 8 + 5, none⟩) hrb).trans r5, (hbS.cell (p := ⟨rb, ro + vs.length * 8 + 6, none⟩) hrb).trans r6, (hbS.cell (p := ⟨rb, ro + vs.length * 8 + 7, none⟩) hrb).trans r7⟩
              | exact ⟨(hbS2.cell (p := ⟨w.heap.size, 0, none⟩) lT).trans cT0, (hbS2.cell (p := ⟨w.heap.size, 1, none⟩) lT).trans cT1, (hbS2.cell (p := ⟨w2.heap.size, 0, none⟩) lU).trans cU0, (hbS2.cell (p := ⟨w2.heap.size, 1, none⟩) lU).trans cU1, (hbS2.cell (p := ⟨w.heap.size + 1, 0, none⟩) lV).trans cV0, (hbS2.cell (p := ⟨w.heap.size + 1, 1, none⟩) lV).trans cV1, (hbS2.cell (p := ⟨w.heap.size + 1, 2, none⟩) lV).trans cV2, (hbS2.cell (p := ⟨w.heap.size + 1, 3, none⟩) lV).trans cV3, (hbS2.cell (p := ⟨w.heap.size + 1, 4, none⟩) lV).trans cV4, (hbS2.cell (p := ⟨w.heap.size + 1, 5, none⟩) lV).trans cV5, (hbS2.cell (p := ⟨w.heap.size + 1, 6, none⟩) lV).trans cV6, (hbS2.cell (p := ⟨w.heap.size + 1, 7, none⟩) lV).trans cV7, (hbS2.cell (p := ⟨rb, ro + vs.length * 8, none⟩) hrb).trans r0, (hbS2.cell (p := ⟨rb, ro + vs.length * 8 + 1, none⟩) hrb).trans r1, (hbS2.cell (p := ⟨rb, ro + vs.length * 8 + 2, none⟩) hrb).trans r2, (hbS2.cell (p := ⟨rb, ro + vs.length * 8 + 3, none⟩) hrb).trans r3, (hbS2.cell (p := ⟨rb, ro + vs.length * 8 + 4, none⟩) hrb).trans r4, (hbS2.cell (p := ⟨rb, ro + vs.length * 8 + 5, none⟩) hrb).trans r5, (hbS2.cell (p := ⟨rb, ro + vs.length * 8 + 6, none⟩) hrb).trans r6, (hbS2.cell (p := ⟨rb, ro + vs.length * 8 + 7, none⟩) hrb).trans r7⟩)
            ((first
            | (go_at_call 15; refine (same_any n n (some ⟨rb, ro, none⟩) A cap5 cap vs vs _ w9.heap.size (by exact Nat.le_refl _) (by exact HSM.out.keep ((Below.refl _ _).drew)) (by exact HTA.out.rows.keep ((Below.refl _ _).drew)) (by omega) (by omega)).mono ?_; rintro e w10 ⟨rfl, hbS0⟩; have hbS := belU hbS0)
            | (go_at_call 12; refine (awake_any _).mono ?_; rintro e w11 ⟨rfl, hbA⟩; have hbS2 := hbS.trans (hbA.mono hbS.size))))
          all_goals
            go_wp2_with fail
            go_ret
            exact ⟨rfl, B.out.trans (hbS2.mono B.out.size)⟩
      · have hE1 := (settle_bad HG.out hck).1
        have hE2 := (settle_bad HG.out hck).2
        obtain ⟨c1, hc1⟩ : ∃ c1, checkE n vs v = c1 := ⟨_, rfl⟩
        rw [hc1] at hE1 hck
        have h7 : c1 ≠ 7 := by rw [← hc1]; exact checkE_ne7
        have E1 := Lib.hid hE1
        have E2 := Lib.hid hE2
        have e1 : (c1 != 0) = true := by simpa using hck
        have e2 : (c1 != 7) = true := by simpa using h7
        clear hE1 hE2 hc1 h7 hck
        have hc := vadd_any n A cap vs v _ HTA.out
        rw [E1.out] at hc
        unfold Vw.cells at hc
        have HCL := Lib.hid hc
        clear hc
        go_wp2_with fail
        refine HCL.out.mono ?_
        rintro e w2 ⟨A5, cap5, rfl, hT5, hb⟩
        clear HCL
        clear hT5
        clear cV0 cV1 cV2 cV3 cV4 cV5 cV6 cV7 lV
        clear cT0 cT1 lT
        replace DT := Lib.hid ((hb.block _ (blk_lt DT.out)).trans DT.out)
        replace DV := Lib.hid ((hb.block _ (blk_lt DV.out)).trans DV.out)
        replace B := Lib.hid (B.out.trans (hb.mono B.out.size))
        replace HTA := Lib.hid (HTA.out.keep hb)
        clear hb
        have dT := DT.out
        have cT0 := blk_cell dT 0 rfl
        have cT1 := blk_cell dT 1 rfl
        have lT := blk_lt dT
        clear dT
        have dV := DV.out
        have cV0 := blk_cell dV 0 rfl
        have cV1 := blk_cell dV 1 rfl
        have cV2 := blk_cell dV 2 rfl
        have cV3 := blk_cell dV 3 rfl
        have cV4 := blk_cell dV 4 rfl
        have cV5 := blk_cell dV 5 rfl
        have cV6 := blk_cell dV 6 rfl
        have cV7 := blk_cell dV 7 rfl
        have lV := blk_lt dV
        clear dV
        go_wp2_with fail
        obtain ⟨W3, hW3, d3, hs3, hB3⟩ := onebox w2 #[.int .i64 0, .slice A5 0 cap5] 24
        rw [hW3]
        clear hW3 d3 hs3
        clear cV0 cV1 cV2 cV3 cV4 cV5 cV6 cV7 lV
        clear cT0 cT1 lT
        replace DT := Lib.hid ((hB3.block _ (blk_lt DT.out)).trans DT.out)
        replace DV := Lib.hid ((hB3.block _ (blk_lt DV.out)).trans DV.out)
        replace B := Lib.hid (B.out.trans (hB3.mono B.out.size))
        replace HTA := Lib.hid (HTA.out.keep hB3)
        clear hB3
        have dT := DT.out
        have cT0 := blk_cell dT 0 rfl
        have cT1 := blk_cell dT 1 rfl
        have lT := blk_lt dT
        clear dT
        have dV := DV.out
        have cV0 := blk_cell dV 0 rfl
        have cV1 := blk_cell dV 1 rfl
        have cV2 := blk_cell dV 2 rfl
        have cV3 := blk_cell dV 3 rfl
        have cV4 := blk_cell dV 4 rfl
        have cV5 := blk_cell dV 5 rfl
        have cV6 := blk_cell dV 6 rfl
        have cV7 := blk_cell dV 7 rfl
        have lV := blk_lt dV
        clear dV
        have hc := vfind_any n A cap vs v _ HTA.out
        rw [E2.out] at hc
        unfold Vw.cells at hc
        have HCL := Lib.hid hc
        clear hc
        go_wp2_with fail
        refine HCL.out.mono ?_
        rintro e w4 ⟨rfl, hb⟩
        clear HCL
        clear cV0 cV1 cV2 cV3 cV4 cV5 cV6 cV7 lV
        clear cT0 cT1 lT
        replace DT := Lib.hid ((hb.block _ (blk_lt DT.out)).trans DT.out)
        replace DV := Lib.hid ((hb.block _ (blk_lt DV.out)).trans DV.out)
        replace B := Lib.hid (B.out.trans (hb.mono B.out.size))
        replace HTA := Lib.hid (HTA.out.keep hb)
        clear hb
        have dT := DT.out
        have cT0 := blk_cell dT 0 rfl
        have cT1 := blk_cell dT 1 rfl
        have lT := blk_lt dT
        clear dT
        have dV := DV.out
        have cV0 := blk_cell dV 0 rfl
        have cV1 := blk_cell dV 1 rfl
        have cV2 := blk_cell dV 2 rfl
        have cV3 := blk_cell dV 3 rfl
        have cV4 := blk_cell dV 4 rfl
        have cV5 := blk_cell dV 5 rfl
        have cV6 := blk_cell dV 6 rfl
        have cV7 := blk_cell dV 7 rfl
        have lV := blk_lt dV
        clear dV
        go_wp2_with fail
        refine (awake_any w4).mono ?_
        rintro e wz ⟨rfl, hbz⟩
        go_wp2_with fail
        go_ret
        exact ⟨rfl, B.out.trans (hbz.mono B.out.size)⟩
end Go.Proofs.YtdfnmapmnmecnaaDoor
