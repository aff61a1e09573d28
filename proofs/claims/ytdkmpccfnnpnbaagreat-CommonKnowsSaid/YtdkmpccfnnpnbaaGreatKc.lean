/- Parts Cts CtsC Map KeysA TArg CloneA AppVA StillIn Float Cnt BuiltE RowX WordsA FromR BdA Silence Rep8 PlayA Vecs PlayC PlayB. -/
import Derived.Test.YtdkmpccfnnpnbaaGreatProg
import Derived.Test.YtdkmpccfnnpnbaaGreatKb
import Derived.Maps.Own
import Derived.Maps.OwnIn
import Derived.WalkKit
import Derived.Test.YtdkmpccfnnpnbaaGreatKa
import Derived.Deep.AppendLies
import Derived.StillTailTactics
import Derived.OrdersIn
import Derived.RangeFuncCalls
import Derived.Deep.QuietTactic
import Derived.Deep.DeepCutAuto
import Derived.BigQuiet
import Derived.Laws.Pointers
import Derived.Laws.CopyOwn
import Derived.Deep.RegionLaw
import Derived.StillTactics
import Derived.IntWalk
import Derived.Maps.RangeWalk

namespace Go.Proofs.YtdkmpccfnnpnbaaGreat
set_option maxHeartbeats 4000000
section
open Go.RowKit
def yt (vs : List Rd) : List Value := vs.flatMap fun x => x.cells.toList
theorem jP (vs us : List Rd) : yt (vs ++ us) = yt vs ++ yt us := by simp [yt]
theorem xh (vs : List Rd) : (yt vs).length = vs.length * 7 := by
 induction vs with
 | nil => rfl
 | cons v vs ih => simp only [yt, List.flatMap_cons, List.length_append, List.length_cons] at *; rw [ih]; simp [Rd.cells]; omega
theorem vR : ∀ (vs : List Rd) (i : Nat) (hi : i < vs.length) (k : Nat), k < 7 → (yt vs)[i * 7 + k]? = vs[i].cells[k]?
 | v :: vs, 0, hi, k, hk => by
  simp only [yt, List.flatMap_cons, List.getElem_cons_zero, Nat.zero_mul, Nat.zero_add]
  rw [List.getElem?_append_left (by simp [Rd.cells]; omega)]
  simp
 | v :: vs, i + 1, hi, k, hk => by
  have := vR vs i (by simpa using hi) k hk
  simp only [yt, List.flatMap_cons, List.getElem_cons_succ] at *
  rw [List.getElem?_append_right (by simp [Rd.cells]; omega), ← this]
  congr 1
  simp [Rd.cells]; omega
theorem j7 (vs : List Rd) : ∀ u ∈ yt vs, u.oneCell' = true := by
 intro u hu
 obtain ⟨v, _, hv⟩ := List.mem_flatMap.1 hu
 simp only [Rd.cells, List.mem_cons, List.not_mem_nil, or_false] at hv
 rcases hv with rfl | rfl | rfl | rfl | rfl | rfl | rfl <;> rfl
theorem gc {w : World} {A : Option Addr} {vs : List Rd} (h : RAt w w.heap.size A vs) : Raw w A vs.length (yt vs) := fun h0 => by
 obtain ⟨b, off, e, hlt, hc⟩ := h h0
 refine ⟨b, off, e, hlt, fun j u hj => ?_⟩
 have hj8 : j < vs.length * 7 := by have := (List.getElem?_eq_some_iff.1 hj).1; rwa [xh] at this
 have hi' : j / 7 < vs.length := by omega
 have h8 : j / 7 * 7 + j % 7 = j := by omega
 rw [← h8, vR vs (j / 7) hi' (j % 7) (by omega)] at hj
 have := hc (j / 7) hi' (j % 7) u hj
 rwa [Nat.add_assoc, h8] at this
theorem jZ {w : World} {base : Nat} {v : Value} {vs : List Rd} (h : OwnR kRd w base v vs.length (yt vs)) : ∃ A cap, v = .slice A vs.length cap ∧ vs.length ≤ cap ∧ cap ≤ maxLen ∧ RAtS (fun k => base ≤ k) w A vs := by
 have hlt := h.lt
 obtain ⟨A, cap, rfl, hc, hm, hr⟩ := h.form
 refine ⟨A, cap, rfl, hc, hm, fun h0 => ?_⟩
 obtain ⟨g, rfl, hg, hgl, hcl⟩ := hr h0
 refine ⟨g, 0, rfl, (hlt g hg).1, hgl, fun i hi k u hu => ?_⟩
 have hk : k < 7 := by have := (Array.getElem?_eq_some_iff.1 hu).1; simpa [Rd.cells] using this
 rw [Nat.zero_add]
 exact hcl _ u (by rw [vR vs i hi k hk]; exact hu)
def qQ (vs : List Mv) : List Value := vs.flatMap fun x => x.cells.toList
theorem jR (vs : List Mv) : (qQ vs).length = vs.length * 8 := by
 induction vs with
 | nil => rfl
 | cons v vs ih => simp only [qQ, List.flatMap_cons, List.length_append, List.length_cons] at *; rw [ih]; simp [Mv.cells]; omega
theorem ug : ∀ (vs : List Mv) (i : Nat) (hi : i < vs.length) (k : Nat), k < 8 → (qQ vs)[i * 8 + k]? = vs[i].cells[k]?
 | v :: vs, 0, hi, k, hk => by
  simp only [qQ, List.flatMap_cons, List.getElem_cons_zero, Nat.zero_mul, Nat.zero_add]
  rw [List.getElem?_append_left (by simp [Mv.cells]; omega)]
  simp
 | v :: vs, i + 1, hi, k, hk => by
  have := ug vs i (by simpa using hi) k hk
  simp only [qQ, List.flatMap_cons, List.getElem_cons_succ] at *
  rw [List.getElem?_append_right (by simp [Mv.cells]; omega), ← this]
  congr 1
  simp [Mv.cells]; omega
theorem QC (vs : List Mv) : ∀ u ∈ qQ vs, u.oneCell' = true := by
 intro u hu
 obtain ⟨v, _, hv⟩ := List.mem_flatMap.1 hu
 simp only [Mv.cells, List.mem_cons, List.not_mem_nil, or_false] at hv
 rcases hv with rfl | rfl | rfl | rfl | rfl | rfl | rfl | rfl <;> rfl
theorem QA {w : World} {A : Option Addr} {vs : List Mv} (h : MAt w w.heap.size A vs) : Raw w A vs.length (qQ vs) := fun h0 => by
 obtain ⟨b, off, e, hlt, hc⟩ := h h0
 refine ⟨b, off, e, hlt, fun j u hj => ?_⟩
 have hj8 : j < vs.length * 8 := by have := (List.getElem?_eq_some_iff.1 hj).1; rwa [jR] at this
 have hi' : j / 8 < vs.length := by omega
 have h8 : j / 8 * 8 + j % 8 = j := by omega
 rw [← h8, ug vs (j / 8) hi' (j % 8) (by omega)] at hj
 have := hc (j / 8) hi' (j % 8) u hj
 rwa [Nat.add_assoc, h8] at this
theorem QB {w : World} {base : Nat} {v : Value} {vs : List Mv} (h : OwnR kMv w base v vs.length (qQ vs)) : ∃ A cap, v = .slice A vs.length cap ∧ vs.length ≤ cap ∧ cap ≤ maxLen ∧ MAtS (fun k => base ≤ k) w A vs := by
 have hlt := h.lt
 obtain ⟨A, cap, rfl, hc, hm, hr⟩ := h.form
 refine ⟨A, cap, rfl, hc, hm, fun h0 => ?_⟩
 obtain ⟨g, rfl, hg, hgl, hcl⟩ := hr h0
 refine ⟨g, 0, rfl, (hlt g hg).1, hgl, fun i hi k u hu => ?_⟩
 have hk : k < 8 := by have := (Array.getElem?_eq_some_iff.1 hu).1; simpa [Mv.cells] using this
 rw [Nat.zero_add]
 exact hcl _ u (by rw [ug vs i hi k hk]; exact hu)
def cIs : Ct (List Int) := ⟨kIs, fun S w cs xs => ∃ A c, cs = [.slice A xs.length c] ∧ IAtS S w A xs⟩
theorem yv : CtOk cIs where
 len := fun ⟨A, c, e, _⟩ => by rw [e]; rfl
 one := fun ⟨A, c, e, _⟩ u hu => by rw [e] at hu; simp at hu; subst hu; rfl
 keep := fun ⟨A, c, e, h⟩ hk => ⟨A, c, e, h.keep hk⟩
 keepC := fun ⟨A, c, e, h⟩ hk => ⟨A, c, e, h.keepC hk⟩
 mono := fun ⟨A, c, e, h⟩ hm => ⟨A, c, e, h.mono hm⟩
def cWd : Ct (List Rd) := ⟨kWd, fun S w cs xs => ∃ A c, cs = [.slice A xs.length c] ∧ RAtS S w A xs⟩
theorem qa : CtOk cWd where
 len := fun ⟨A, c, e, _⟩ => by rw [e]; rfl
 one := fun ⟨A, c, e, _⟩ u hu => by rw [e] at hu; simp at hu; subst hu; rfl
 keep := fun ⟨A, c, e, h⟩ hk => ⟨A, c, e, h.keep hk⟩
 keepC := fun ⟨A, c, e, h⟩ hk => ⟨A, c, e, h.keepC hk⟩
 mono := fun ⟨A, c, e, h⟩ hm => ⟨A, c, e, h.mono hm⟩
def cMl : Ct (List Mv) := ⟨kMl, fun S w cs xs => ∃ A c, cs = [.slice A xs.length c] ∧ MAtS S w A xs⟩
theorem qF : CtOk cMl where
 len := fun ⟨A, c, e, _⟩ => by rw [e]; rfl
 one := fun ⟨A, c, e, _⟩ u hu => by rw [e] at hu; simp at hu; subst hu; rfl
 keep := fun ⟨A, c, e, h⟩ hk => ⟨A, c, e, h.keep hk⟩
 keepC := fun ⟨A, c, e, h⟩ hk => ⟨A, c, e, h.keepC hk⟩
 mono := fun ⟨A, c, e, h⟩ hm => ⟨A, c, e, h.mono hm⟩
def cXn : Ct Exn := ⟨kXn, fun S w cs x => ∃ A c A2 c2, cs = [.int .i64 x.c, .slice A x.word.length c, .slice A2 x.views.length c2] ∧ RAtS S w A x.word ∧ LAtS S w A2 x.views⟩
theorem yO : CtOk cXn where
 len := fun ⟨A, c, A2, c2, e, _⟩ => by rw [e]; rfl
 one := fun ⟨A, c, A2, c2, e, _⟩ u hu => by rw [e] at hu; simp at hu; rcases hu with rfl | rfl | rfl <;> rfl
 keep := fun ⟨A, c, A2, c2, e, h1, h2⟩ hk => ⟨A, c, A2, c2, e, h1.keep hk, h2.keep hk⟩
 keepC := fun ⟨A, c, A2, c2, e, h1, h2⟩ hk => ⟨A, c, A2, c2, e, h1.keepC hk, h2.keepC hk⟩
 mono := fun ⟨A, c, A2, c2, e, h1, h2⟩ hm => ⟨A, c, A2, c2, e, h1.mono hm, h2.mono hm⟩
def cCs : Ct Cs := ⟨kCs, fun S w cs x => ∃ A0 c0 A1 c1 A2 c2, cs = [.slice A0 x.inp.length c0, .slice A1 x.out.length c1, .slice A2 x.calm.length c2] ∧ IAtS S w A0 x.inp ∧ LAtS S w A1 x.out ∧ LAtS S w A2 x.calm⟩
theorem xu : CtOk cCs where
 len := fun ⟨A0, c0, A1, c1, A2, c2, e, _⟩ => by rw [e]; rfl
 one := fun ⟨A0, c0, A1, c1, A2, c2, e, _⟩ u hu => by rw [e] at hu; simp at hu; rcases hu with rfl | rfl | rfl <;> rfl
 keep := fun ⟨A0, c0, A1, c1, A2, c2, e, h0, h1, h2⟩ hk => ⟨A0, c0, A1, c1, A2, c2, e, h0.keep hk, h1.keep hk, h2.keep hk⟩
 keepC := fun ⟨A0, c0, A1, c1, A2, c2, e, h0, h1, h2⟩ hk => ⟨A0, c0, A1, c1, A2, c2, e, h0.keepC hk, h1.keepC hk, h2.keepC hk⟩
 mono := fun ⟨A0, c0, A1, c1, A2, c2, e, h0, h1, h2⟩ hm => ⟨A0, c0, A1, c1, A2, c2, e, h0.mono hm, h1.mono hm, h2.mono hm⟩
section
variable {S : Nat → Prop} {w : World} {base : Nat} {v : Value}
theorem cIs_form {xs : List (List Int)} (h : OwnX cIs S w base v xs) : ∃ A cap, v = .slice A xs.length cap ∧ xs.length ≤ cap ∧ cap ≤ maxLen ∧ LAt w w.heap.size A xs := by
 obtain ⟨A, cap, e, h1, h2, h3⟩ := h.form yv
 refine ⟨A, cap, e, h1, h2, fun h0 => ?_⟩
 obtain ⟨g, rfl, _, hg, hc⟩ := h3 h0
 refine ⟨g, 0, rfl, hg, fun i hi => ?_⟩
 obtain ⟨cs, ⟨A', c', rfl, hl⟩, hcell⟩ := hc i hi
 refine ⟨A', c', ?_, hl.iat⟩
 have := hcell 0 _ rfl
 rw [Nat.zero_add]
 rwa [show i * cIs.K.size + 0 = i by show i * 1 + 0 = i; omega] at this
theorem Zd {xs : List (List Rd)} (h : OwnX cWd S w base v xs) : ∃ A cap, v = .slice A xs.length cap ∧ xs.length ≤ cap ∧ cap ≤ maxLen ∧ WAt w w.heap.size A xs := by
 obtain ⟨A, cap, e, h1, h2, h3⟩ := h.form qa
 refine ⟨A, cap, e, h1, h2, fun h0 => ?_⟩
 obtain ⟨g, rfl, _, hg, hc⟩ := h3 h0
 refine ⟨g, 0, rfl, hg, fun i hi => ?_⟩
 obtain ⟨cs, ⟨A', c', rfl, hl⟩, hcell⟩ := hc i hi
 refine ⟨A', c', ?_, hl.rat⟩
 have := hcell 0 _ rfl
 rw [Nat.zero_add]
 rwa [show i * cWd.K.size + 0 = i by show i * 1 + 0 = i; omega] at this
theorem XX {xs : List (List Int)} (h : OwnX cIs S w base v xs) : ∃ A cap, v = .slice A xs.length cap ∧ xs.length ≤ cap ∧ cap ≤ maxLen ∧ LAtS (fun k => S k ∨ base ≤ k) w A xs := by
 obtain ⟨A, cap, e, h1, h2, h3⟩ := h.form yv
 refine ⟨A, cap, e, h1, h2, fun h0 => ?_⟩
 obtain ⟨g, rfl, hb, hg, hc⟩ := h3 h0
 refine ⟨g, 0, rfl, .inr hb, hg, fun i hi => ?_⟩
 obtain ⟨cs, ⟨A', c', rfl, hl⟩, hcell⟩ := hc i hi
 refine ⟨A', c', ?_, hl.mono fun k _ hs => .inl hs.1⟩
 have := hcell 0 _ rfl
 rw [Nat.zero_add]
 rwa [show i * cIs.K.size + 0 = i by show i * 1 + 0 = i; omega] at this
theorem Z0 {xs : List (List Int)} (h : OwnX cIs S w base v xs) : ∃ A cap, v = .slice A xs.length cap ∧ xs.length ≤ cap ∧ cap ≤ maxLen ∧ LAtS (fun k => S k ∨ v.ownBlock = some k) w A xs := by
 obtain ⟨A, cap, e, h1, h2, h3⟩ := h.form yv
 refine ⟨A, cap, e, h1, h2, fun h0 => ?_⟩
 obtain ⟨g, rfl, hb, hg, hc⟩ := h3 h0
 refine ⟨g, 0, rfl, .inr (by rw [e]; rfl), hg, fun i hi => ?_⟩
 obtain ⟨cs, ⟨A', c', rfl, hl⟩, hcell⟩ := hc i hi
 refine ⟨A', c', ?_, hl.mono fun k _ hs => .inl hs.1⟩
 have := hcell 0 _ rfl
 rw [Nat.zero_add]
 rwa [show i * cIs.K.size + 0 = i by show i * 1 + 0 = i; omega] at this
theorem cXn_form {xs : List Exn} (h : OwnX cXn S w base v xs) : ∃ A cap, v = .slice A xs.length cap ∧ xs.length ≤ cap ∧ cap ≤ maxLen ∧ XAt w w.heap.size A xs := by
 obtain ⟨A, cap, e, h1, h2, h3⟩ := h.form yO
 refine ⟨A, cap, e, h1, h2, fun h0 => ?_⟩
 obtain ⟨g, rfl, _, hg, hc⟩ := h3 h0
 refine ⟨g, 0, rfl, hg, fun i hi => ?_⟩
 obtain ⟨cs, ⟨A', c', A2, c2, rfl, hr, hl⟩, hcell⟩ := hc i hi
 have h0 := hcell 0 _ rfl
 have h1 := hcell 1 _ rfl
 have h2 := hcell 2 _ rfl
 change w.cell? ⟨g, i * 3 + 0, none⟩ = _ at h0
 change w.cell? ⟨g, i * 3 + 1, none⟩ = _ at h1
 change w.cell? ⟨g, i * 3 + 2, none⟩ = _ at h2
 refine ⟨_, _, _, ?_, ?_, ?_, rfl, ⟨A', c', rfl, hr.rat⟩, ⟨A2, c2, rfl, hl.lat⟩⟩
 · simpa using h0
 · simpa using h1
 · simpa using h2
end
end
section
open Go.RowKit
def cXnC : Ct Exn := ⟨kXn, fun S w cs x => ∃ A c A2 c2, cs = [.int .i64 x.c, .slice A x.word.length c, .slice A2 x.views.length c2] ∧ RAtS S w A x.word ∧ LAtS S w A2 x.views ∧ x.word.length ≤ c⟩
theorem yP : CtOk cXnC where
 len := fun ⟨A, c, A2, c2, e, _⟩ => by rw [e]; rfl
 one := fun ⟨A, c, A2, c2, e, _⟩ u hu => by rw [e] at hu; simp at hu; rcases hu with rfl | rfl | rfl <;> rfl
 keep := fun ⟨A, c, A2, c2, e, h1, h2, h3⟩ hk => ⟨A, c, A2, c2, e, h1.keep hk, h2.keep hk, h3⟩
 keepC := fun ⟨A, c, A2, c2, e, h1, h2, h3⟩ hk => ⟨A, c, A2, c2, e, h1.keepC hk, h2.keepC hk, h3⟩
 mono := fun ⟨A, c, A2, c2, e, h1, h2, h3⟩ hm => ⟨A, c, A2, c2, e, h1.mono hm, h2.mono hm, h3⟩
def XCap (w : World) (A : Option Addr) (xs : List Exn) : Prop := ∀ b o q, A = some ⟨b, o, q⟩ → ∀ (i : Nat) (_ : i < xs.length) (B : Option Addr) (n c : Nat), w.cell? ⟨b, o + i * 3 + 1, none⟩ = some (.slice B n c) → n ≤ c
section
variable {S : Nat → Prop} {w : World} {base : Nat} {v : Value}
theorem ZZ {xs : List Exn} (h : OwnX cXnC S w base v xs) : ∃ A cap, v = .slice A xs.length cap ∧ xs.length ≤ cap ∧ cap ≤ maxLen ∧ XAt w w.heap.size A xs ∧ XCap w A xs := by
 obtain ⟨A, cap, e, h1, h2, h3⟩ := h.form yP
 have key : ∀ g, A = some ⟨g, 0, none⟩ → ∀ (i : Nat) (hi : i < xs.length), ∃ A' c' A2 c2, w.cell? ⟨g, i * 3, none⟩ = some (.int .i64 xs[i].c) ∧ w.cell? ⟨g, i * 3 + 1, none⟩ = some (.slice A' xs[i].word.length c') ∧ w.cell? ⟨g, i * 3 + 2, none⟩ = some (.slice A2 xs[i].views.length c2) ∧ RAt w w.heap.size A' xs[i].word ∧ LAt w w.heap.size A2 xs[i].views ∧ xs[i].word.length ≤ c' := by
  intro g eg i hi
  obtain ⟨g', eg', _, hg, hc⟩ := h3 (by omega)
  rw [eg] at eg'
  cases eg'
  obtain ⟨cs, ⟨A', c', A2, c2, rfl, hr, hl, hw⟩, hcell⟩ := hc i hi
  have h0 := hcell 0 _ rfl
  have h1 := hcell 1 _ rfl
  have h2 := hcell 2 _ rfl
  change w.cell? ⟨g, i * 3 + 0, none⟩ = _ at h0
  change w.cell? ⟨g, i * 3 + 1, none⟩ = _ at h1
  change w.cell? ⟨g, i * 3 + 2, none⟩ = _ at h2
  exact ⟨A', c', A2, c2, by simpa using h0, by simpa using h1, by simpa using h2, hr.rat, hl.lat, hw⟩
 refine ⟨A, cap, e, h1, h2, fun h0 => ?_, fun b o q eA i hi B n c hcell => ?_⟩
 · obtain ⟨g, rfl, _, hg, _⟩ := h3 h0
   refine ⟨g, 0, rfl, hg, fun i hi => ?_⟩
   obtain ⟨A', c', A2, c2, k0, k1, k2, hr, hl, _⟩ := key g rfl i hi
   refine ⟨_, _, _, ?_, ?_, ?_, rfl, ⟨A', c', rfl, hr⟩, ⟨A2, c2, rfl, hl⟩⟩
   · simpa using k0
   · simpa using k1
   · simpa using k2
 · obtain ⟨g, eg, _, hg, _⟩ := h3 (by omega)
   have eg2 := eg
   rw [eA] at eg
   cases eg
   obtain ⟨A', c', A2, c2, k0, k1, k2, hr, hl, hw⟩ := key _ eg2 i hi
   rw [Nat.zero_add] at hcell
   rw [k1] at hcell
   cases hcell
   exact hw
end
end
section
open Go.RowKit
structure KeyOk {κ : Type} (P : Program) (kt : TypeId) (enc : κ → Value) : Prop where
 inj : ∀ a b, enc a = enc b → a = b
 check : ∀ (w : World) (em : Bool) (a : κ), (Instr.checkKey em 10000 kt (enc a)).run P w = .ok () w
 equal : ∀ (w : World) (a b : κ), (Op.equal kt (enc a) (enc b)).run P w = .ok (@decide (enc a = enc b) (Classical.propDecidable _)) w
 now : ∀ (d : TypeDesc), P.underlying kt = some d → (∀ a b : κ, Instr.sameNow d (enc a) (enc b) = some (@decide (enc a = enc b) (Classical.propDecidable _))) ∨ (∀ a b : κ, Instr.sameNow d (enc a) (enc b) = none)
 stays : ∀ a : κ, Instr.sameBits 10000 (enc a) (enc a) = true
 kind : ∃ d, P.underlying kt = some d
section
variable {κ : Type} {P : Program} {kt : TypeId} {enc : κ → Value}
open Classical
theorem uR {d : TypeDesc} (h : ∀ a b : κ, Instr.sameNow d (enc a) (enc b) = some (decide (enc a = enc b))) (x : κ) : ∀ (es : List MapEntry) (i : Nat), (∀ e ∈ es, ∃ k, e.key = enc k) →
  (Instr.findNow d (enc x) es i = some none ∧ ∀ e ∈ es, e.key ≠ enc x) ∨ ∃ j e, Instr.findNow d (enc x) es i = some (some (i + j, e.val)) ∧ es[j]? = some e ∧ e.key = enc x
 | [], i, _ => .inl ⟨rfl, fun _ h => by cases h⟩
 | e :: es, i, hk => by
  obtain ⟨k, hek⟩ := hk e (by simp)
  by_cases he : enc x = enc k
  · refine .inr ⟨0, e, ?_, rfl, by rw [hek, he]⟩
    simp [Instr.findNow, hek, h, he]
  · rcases uR h x es (i + 1) (fun e he => hk e (by simp [he])) with ⟨h1, h2⟩ | ⟨j, e', h1, h2, h3⟩
    · refine .inl ⟨by simp [Instr.findNow, hek, h, he, h1], fun e' he' => ?_⟩
      rcases List.mem_cons.1 he' with rfl | he'
      · rw [hek]; exact fun e2 => he e2.symm
      · exact h2 e' he'
    · exact .inr ⟨j + 1, e', by simp [Instr.findNow, hek, h, he, h1]; omega, by simpa using h2, h3⟩
theorem jl (K : KeyOk P kt enc) (w : World) (x : κ) : ∀ (es : List MapEntry) (i : Nat), (∀ e ∈ es, ∃ k, e.key = enc k) →
  ((Instr.findAsking kt (enc x) es i).run P w = .ok none w ∧ ∀ e ∈ es, e.key ≠ enc x) ∨ ∃ j e, (Instr.findAsking kt (enc x) es i).run P w = .ok (some (i + j, e.val)) w ∧ es[j]? = some e ∧ e.key = enc x
 | [], i, _ => .inl ⟨rfl, fun _ h => by cases h⟩
 | e :: es, i, hk => by
  obtain ⟨k, hek⟩ := hk e (by simp)
  by_cases he : enc x = enc k
  · refine .inr ⟨0, e, ?_, rfl, by rw [hek, he]⟩
    simp [Instr.findAsking, hek, K.equal, he, Result.andThen]
  · rcases jl K w x es (i + 1) (fun e he => hk e (by simp [he])) with ⟨h1, h2⟩ | ⟨j, e', h1, h2, h3⟩
    · refine .inl ⟨by simp [Instr.findAsking, hek, K.equal, he, h1, Result.andThen], fun e' he' => ?_⟩
      rcases List.mem_cons.1 he' with rfl | he'
      · rw [hek]; exact fun e2 => he e2.symm
      · exact h2 e' he'
    · exact .inr ⟨j + 1, e', by simp [Instr.findAsking, hek, K.equal, he, h1, Result.andThen]; omega, by simpa using h2, h3⟩
theorem gU {d : TypeDesc} (h : ∀ a b : κ, Instr.sameNow d (enc a) (enc b) = none) (x : κ) (es : List MapEntry) (hk : ∀ e ∈ es, ∃ k, e.key = enc k) :
  es = [] ∨ Instr.findNow d (enc x) es 0 = none := by
 cases es with
 | nil => exact .inl rfl
 | cons e es =>
  obtain ⟨k, hek⟩ := hk e (by simp)
  exact .inr (by simp [Instr.findNow, hek, h])
theorem gT (K : KeyOk P kt enc) (w : World) (x : κ) (es : List MapEntry) (hk : ∀ e ∈ es, ∃ k, e.key = enc k) :
  ((Instr.findKey kt (enc x) es).run P w = .ok none w ∧ ∀ e ∈ es, e.key ≠ enc x) ∨ ∃ j e, (Instr.findKey kt (enc x) es).run P w = .ok (some (j, e.val)) w ∧ es[j]? = some e ∧ e.key = enc x := by
 obtain ⟨d, hd⟩ := K.kind
 rcases K.now d hd with h | h
 · rcases uR h x es 0 hk with ⟨h1, h2⟩ | ⟨j, e, h1, h2, h3⟩
   · exact .inl ⟨by simp [Instr.findKey, run_underlying hd, h1], h2⟩
   · exact .inr ⟨j, e, by simp [Instr.findKey, run_underlying hd, h1], h2, h3⟩
 · rcases gU h x es hk with rfl | hn
   · exact .inl ⟨by simp [Instr.findKey, run_underlying hd, Instr.findNow], fun _ h => by cases h⟩
   · rcases jl K w x es 0 hk with ⟨h1, h2⟩ | ⟨j, e, h1, h2, h3⟩
     · exact .inl ⟨by simp [Instr.findKey, run_underlying hd, hn, h1], h2⟩
     · exact .inr ⟨j, e, by simp [Instr.findKey, run_underlying hd, hn, h1], h2, h3⟩
def MapOf (enc : κ → Value) (w : World) (b n : Nat) (f : κ → Option Value) : Prop :=
 ∃ es clock, w.heap[b]? = some (.map es clock) ∧ es.size ≤ n ∧ (es.toList.Pairwise fun x y => x.key ≠ y.key) ∧ (∀ e ∈ es.toList, ∃ k, e.key = enc k ∧ f k = some e.val) ∧ (∀ k v, f k = some v → ∃ e ∈ es.toList, e.key = enc k ∧ e.val = v)
theorem MapOf.made (w : World) : MapOf enc (w.alloc (.map #[] 0)) w.heap.size 0 (fun _ => none) :=
 ⟨#[], 0, heap_alloc_new w _, Nat.le_refl _, List.Pairwise.nil, fun e h => by simp at h, fun k v h => by cases h⟩
theorem MapOf.same {w w' : World} {b n : Nat} {f : κ → Option Value} (h : MapOf enc w b n f) (hs : w'.heap[b]? = w.heap[b]?) : MapOf enc w' b n f := by
 obtain ⟨es, clock, hb, r⟩ := h
 exact ⟨es, clock, hs.trans hb, r⟩
theorem MapOf.lt {w : World} {b n : Nat} {f : κ → Option Value} (h : MapOf enc w b n f) : b < w.heap.size := by
 obtain ⟨es, clock, hb, r⟩ := h
 exact (Array.getElem?_eq_some_iff.1 hb).1
theorem MapOf.look {w : World} {b n : Nat} {f : κ → Option Value} {t e : TypeId} {z : Value} (h : MapOf enc w b n f) (K : KeyOk P kt enc) (ht : P.underlying t = some (.map kt e)) (hz : (zeroValue e).run P w = .ok z w) (k : κ) :
  (Instr.lookup t (.map (some b)) (enc k) false).run P w = .ok ((f k).getD z) w := by
 obtain ⟨es, clock, hb, _, _, h1, h2⟩ := h
 rcases gT K w k es.toList (fun e he => by obtain ⟨k, hk, _⟩ := h1 e he; exact ⟨k, hk⟩) with ⟨r1, r2⟩ | ⟨j, e0, r1, r2, r3⟩
 · have hf : f k = none := by
    cases hf : f k with
    | none => rfl
    | some v => obtain ⟨e, he, hk, _⟩ := h2 k v hf; exact absurd hk (r2 e he)
   simp [Instr.lookup, run_underlying ht, MapKept.run_getObj_map hb, K.check w _ k, r1, hz, Result.andThen, hf]
 · obtain ⟨k', hk', hf⟩ := h1 e0 (List.mem_of_getElem? r2)
   have : k = k' := K.inj _ _ (r3.symm.trans hk')
   subst this
   simp [Instr.lookup, run_underlying ht, MapKept.run_getObj_map hb, K.check w _ k, r1, Result.andThen, hf]
theorem MapOf.look2 {w : World} {b n : Nat} {f : κ → Option Value} {t e : TypeId} {z : Value} (h : MapOf enc w b n f) (K : KeyOk P kt enc) (ht : P.underlying t = some (.map kt e)) (hz : (zeroValue e).run P w = .ok z w) (k : κ) :
  (Instr.lookup t (.map (some b)) (enc k) true).run P w = .ok (.tuple #[(f k).getD z, .bool (f k).isSome]) w := by
 obtain ⟨es, clock, hb, _, _, h1, h2⟩ := h
 rcases gT K w k es.toList (fun e he => by obtain ⟨k, hk, _⟩ := h1 e he; exact ⟨k, hk⟩) with ⟨r1, r2⟩ | ⟨j, e0, r1, r2, r3⟩
 · have hf : f k = none := by
    cases hf : f k with
    | none => rfl
    | some v => obtain ⟨e, he, hk, _⟩ := h2 k v hf; exact absurd hk (r2 e he)
   simp [Instr.lookup, run_underlying ht, MapKept.run_getObj_map hb, K.check w _ k, r1, hz, Result.andThen, hf]
 · obtain ⟨k', hk', hf⟩ := h1 e0 (List.mem_of_getElem? r2)
   have : k = k' := K.inj _ _ (r3.symm.trans hk')
   subst this
   simp [Instr.lookup, run_underlying ht, MapKept.run_getObj_map hb, K.check w _ k, r1, Result.andThen, hf]
def qe [DecidableEq κ] (f : κ → Option Value) (k : κ) (v : Value) : κ → Option Value := fun x => if x = k then some v else f x
theorem kP {P : Program} {w : World} {b : Nat} {es es' : Array MapEntry} {c c' : Nat} (hb : w.heap[b]? = some (.map es c)) :
  (setObj b (.map es' c')).run P w = .ok () { w with heap := w.heap.setIfInBounds b (.map es' c') } := by
 simp [setObj, Sem.run, hb]
theorem pw_key {l : List MapEntry} (h : l.Pairwise fun x y => x.key ≠ y.key) {i j : Nat} {a b : MapEntry} (hi : l[i]? = some a) (hj : l[j]? = some b) (he : a.key = b.key) : i = j := by
 obtain ⟨hil, rfl⟩ := List.getElem?_eq_some_iff.1 hi
 obtain ⟨hjl, rfl⟩ := List.getElem?_eq_some_iff.1 hj
 rcases Nat.lt_trichotomy i j with hlt | h' | hlt
 · exact absurd he (List.pairwise_iff_getElem.1 h i j hil hjl hlt)
 · exact h'
 · exact absurd he.symm (List.pairwise_iff_getElem.1 h j i hjl hil hlt)
theorem pw_set {l : List MapEntry} (h : l.Pairwise fun x y => x.key ≠ y.key) {j : Nat} {a a' : MapEntry} (hj : l[j]? = some a) (he : a.key = a'.key) : (l.set j a').Pairwise fun x y => x.key ≠ y.key := by
 obtain ⟨hjl, rfl⟩ := List.getElem?_eq_some_iff.1 hj
 rw [List.pairwise_iff_getElem] at h ⊢
 intro i k hi hk hik
 simp only [List.length_set] at hi hk
 simp only [List.getElem_set]
 split
 · rename_i h1; subst h1
   split
   · omega
   · rw [← he]; exact h _ _ hi hk hik
 · split
   · rename_i h1; subst h1
     rw [← he]; exact h _ _ hi hk hik
   · exact h _ _ hi hk hik
theorem MapOf.put [DecidableEq κ] {w : World} {b n : Nat} {f : κ → Option Value} {t e : TypeId} (h : MapOf enc w b n f) (K : KeyOk P kt enc) (ht : P.underlying t = some (.map kt e)) (k : κ) (v : Value) :
  ∃ w', (Instr.mapUpdate t (.map (some b)) (enc k) v).run P w = .ok () w' ∧ MapOf enc w' b (n + 1) (qe f k v) ∧ w.grownBy w' (some b) := by
 obtain ⟨es, clock, hb, hn, hpw, h1, h2⟩ := h
 have hbl := (Array.getElem?_eq_some_iff.1 hb).1
 have grown : ∀ o, w.grownBy { w with heap := w.heap.setIfInBounds b o } (some b) := fun o =>
  ⟨rfl, rfl, rfl, by simp, fun i _ hi => by simp only; rw [Array.getElem?_setIfInBounds_ne (fun e => hi (by rw [e]))]⟩
 have at_ : ∀ o, ({ w with heap := w.heap.setIfInBounds b o } : World).heap[b]? = some o := fun o => by simp [hbl]
 rcases gT K w k es.toList (fun e he => by obtain ⟨k, hk, _⟩ := h1 e he; exact ⟨k, hk⟩) with ⟨r1, r2⟩ | ⟨j, e0, r1, r2, r3⟩
 · refine ⟨_, ?_, ⟨es.push { key := enc k, val := v, born := clock }, clock + 1, at_ _, by simp; omega, ?_, ?_, ?_⟩, grown _⟩
   · simp [Instr.mapUpdate, run_underlying ht, MapKept.run_getObj_map hb, K.check w false k, r1, kP hb, Result.andThen]
   · rw [Array.toList_push]
     exact List.pairwise_append.2 ⟨hpw, List.pairwise_singleton _ _, fun a ha c hc => by simp only [List.mem_singleton] at hc; subst hc; exact r2 a ha⟩
   · intro e he
     simp only [Array.toList_push, List.mem_append, List.mem_singleton] at he
     rcases he with he | rfl
     · obtain ⟨k', hk', hf⟩ := h1 e he
       refine ⟨k', hk', ?_⟩
       have : k' ≠ k := fun e2 => r2 e he (by rw [hk', e2])
       simp [qe, this, hf]
     · exact ⟨k, rfl, by simp [qe]⟩
   · intro k' v' hf
     unfold qe at hf
     split at hf
     · rename_i hk; subst hk
       cases hf
       exact ⟨_, by simp; exact .inr rfl, rfl, rfl⟩
     · obtain ⟨e, he, hk, hv⟩ := h2 k' v' hf
       exact ⟨e, by simp; exact .inl (by simpa using he), hk, hv⟩
 · have hjs : es[j]? = some e0 := by simpa using r2
   have hs : (Instr.keyThatStays e0.key (enc k)).run P w = .ok (enc k) w := by simp [Instr.keyThatStays, r3, K.stays]
   have hjl : j < es.toList.length := (List.getElem?_eq_some_iff.1 r2).1
   have hlist : (es.modify j (fun e' => { e' with key := enc k, val := v })).toList = es.toList.set j { e0 with key := enc k, val := v } := by
    rw [Array.toList_modify, ChangeMaps.modify_eq_set _ _ _ _ r2]
   refine ⟨_, ?_, ⟨es.modify j (fun e' => { e' with key := enc k, val := v }), clock, at_ _, by simp; omega, ?_, ?_, ?_⟩, grown _⟩
   · simp [Instr.mapUpdate, run_underlying ht, MapKept.run_getObj_map hb, K.check w false k, r1, hjs, hs, kP hb, Result.andThen]
   · rw [hlist]
     exact pw_set hpw r2 (by simpa using r3)
   · intro e he
     rw [hlist] at he
     obtain ⟨i, hi, rfl⟩ := List.getElem_of_mem he
     rw [List.getElem_set]
     split
     · exact ⟨k, rfl, by simp [qe]⟩
     · rename_i hne
       have hi' : i < es.toList.length := by simpa using hi
       obtain ⟨k', hk', hf⟩ := h1 _ (List.getElem_mem hi')
       refine ⟨k', hk', ?_⟩
       by_cases e2 : k' = k
       · exact absurd (hk'.trans ((congrArg enc e2).trans r3.symm)) (fun e3 => hne (pw_key hpw r2 (List.getElem?_eq_getElem hi') e3.symm))
       · simp [qe, e2, hf]
   · intro k' v' hf
     unfold qe at hf
     split at hf
     · rename_i hk; subst hk
       cases hf
       refine ⟨{ e0 with key := enc k', val := v }, ?_, rfl, rfl⟩
       rw [hlist]
       exact List.mem_iff_getElem.2 ⟨j, by simpa using hjl, by simp⟩
     · rename_i hk
       obtain ⟨e, he, hke, hv⟩ := h2 k' v' hf
       refine ⟨e, ?_, hke, hv⟩
       rw [hlist]
       obtain ⟨i, hi, rfl⟩ := List.getElem_of_mem he
       have hij : j ≠ i := by
        rintro rfl
        rw [List.getElem?_eq_getElem hjl] at r2
        cases r2
        exact hk (K.inj _ _ (hke.symm.trans r3))
       exact List.mem_iff_getElem.2 ⟨i, by simpa using hi, by simp [hij]⟩
end
end
section
open Go.RowKit
open Classical in
theorem qo : KeyOk Tryz.prog 3 (Value.int .i64) where
 inj := fun a b h => by injection h
 check := fun w em a => by
  have hi : Tryz.prog.underlying 3 = some (.int .i64) := Tryz.underlying3
  unfold Instr.checkKey
  simp [run_underlying hi, Result.andThen]
 equal := fun w a b => by
  have hi : Tryz.prog.underlying 3 = some (.int .i64) := Tryz.underlying3
  unfold Op.equal Op.maxDepth
  rw [run_equalIn_int w _ 3 _ _ _ _ hi]
  by_cases h : a = b <;> simp [h]
 now := fun d hd => .inl fun a b => by
  have hi : Tryz.prog.underlying 3 = some (.int .i64) := Tryz.underlying3
  rw [hi] at hd
  cases hd
  by_cases h : a = b <;> simp [Instr.sameNow, h]
 stays := fun a => by simp [Instr.sameBits]
 kind := ⟨_, Tryz.underlying3⟩
theorem YR (a b : Vw) (h : Value.agg a.cells = .agg b.cells) : a = b := by
 injection h with h
 obtain ⟨a0, a1, a2, a3, a4, a5, a6, a7⟩ := a
 obtain ⟨b0, b1, b2, b3, b4, b5, b6, b7⟩ := b
 simpa [Vw.cells] using h
theorem uq (w : World) (em : Bool) (n : Nat) (a : Int) : (Instr.checkKey em (n + 1) 3 (.int .i64 a)).run Tryz.prog w = .ok () w := by
 have hi : Tryz.prog.underlying 3 = some (.int .i64) := Tryz.underlying3
 unfold Instr.checkKey
 simp [run_underlying hi, Result.andThen]
theorem check_arr (w : World) (em : Bool) (n : Nat) (a b c d e : Int) : (Instr.checkKey em (n + 2) 95 (.agg #[.int .i64 a, .int .i64 b, .int .i64 c, .int .i64 d, .int .i64 e])).run Tryz.prog w = .ok () w := by
 have hu : Tryz.prog.underlying 95 = some (.array 5 3) := Tryz.underlying95
 have hs : (sizeOf 3).run Tryz.prog w = .ok 1 w := by kernel_rfl
 have p0 := fun x0 x1 x2 x3 x4 => zL #[x0, x1, x2, x3, x4] 0 x0 rfl w
 have p1 := fun x0 x1 x2 x3 x4 => zL #[x0, x1, x2, x3, x4] 1 x1 rfl w
 have p2 := fun x0 x1 x2 x3 x4 => zL #[x0, x1, x2, x3, x4] 2 x2 rfl w
 have p3 := fun x0 x1 x2 x3 x4 => zL #[x0, x1, x2, x3, x4] 3 x3 rfl w
 have p4 := fun x0 x1 x2 x3 x4 => zL #[x0, x1, x2, x3, x4] 4 x4 rfl w
 unfold Instr.checkKey
 simp only [Sem.run_bind, run_underlying hu, Result.andThen_ok, hs, Std.Legacy.Range.forIn_eq_forIn_range', Std.Legacy.Range.size, Nat.sub_zero, Nat.add_sub_cancel, Nat.div_one, show List.range' 0 5 1 = [0, 1, 2, 3, 4] from rfl, List.forIn_cons, List.forIn_nil, p0, p1, p2, p3, p4, Nat.mul_one, uq, Sem.run_pure]
open Classical in
theorem wG : KeyOk Tryz.prog 224 (fun v : Vw => .agg v.cells) where
 inj := YR
 check := fun w em v => by
  have hu : Tryz.prog.underlying 224 = some (.struct (Tryz.prog.fieldsOf 224)) := by kernel_rfl
  have hf : (Tryz.prog.fieldsOf 224).toList.map (fun f => (f.name, f.type, f.offset)) = [("Proc", 3, 0), ("Round", 3, 1), ("Input", 3, 2), ("Heard", 95, 3)] := by kernel_rfl
  have p0 : ∀ x : Vw, (part 3 x.cells 0).run Tryz.prog w = .ok (.int .i64 x.p) w := fun x => zL _ 0 _ rfl w
  have p1 : ∀ x : Vw, (part 3 x.cells 1).run Tryz.prog w = .ok (.int .i64 x.r) w := fun x => zL _ 1 _ rfl w
  have p2 : ∀ x : Vw, (part 3 x.cells 2).run Tryz.prog w = .ok (.int .i64 x.i) w := fun x => zL _ 2 _ rfl w
  have p3 : ∀ x : Vw, (part 95 x.cells 3).run Tryz.prog w = .ok (.agg #[.int .i64 x.h0, .int .i64 x.h1, .int .i64 x.h2, .int .i64 x.h3, .int .i64 x.h4]) w := fun x => by unfold Vw.cells; kernel_rfl
  unfold Instr.checkKey
  simp only [Sem.run_bind, run_underlying hu, Result.andThen_ok]
  rw [← Array.forIn_toList]
  generalize (Tryz.prog.fieldsOf 224).toList = fs at hf
  obtain ⟨f0, f1, f2, f3, rfl⟩ : ∃ f0 f1 f2 f3, fs = [f0, f1, f2, f3] := by
   have hl : fs.length = 4 := by simpa using congrArg List.length hf
   rcases fs with _ | ⟨f0, _ | ⟨f1, _ | ⟨f2, _ | ⟨f3, _ | ⟨f4, r⟩⟩⟩⟩⟩ <;> simp at hl
   exact ⟨_, _, _, _, rfl⟩
  clear hu
  simp only [List.map_cons, List.map_nil, List.cons.injEq, Prod.mk.injEq, and_true] at hf
  obtain ⟨⟨n0, t0, o0⟩, ⟨n1, t1, o1⟩, ⟨n2, t2, o2⟩, ⟨n3, t3, o3⟩⟩ := hf
  simp only [List.forIn_cons, List.forIn_nil, n0, n1, n2, n3, t0, t1, t2, t3, o0, o1, o2, o3, p0, p1, p2, p3, Sem.run_bind, Result.andThen_ok, uq, check_arr, ne_eq, String.reduceEq, not_false_eq_true, if_true, Sem.run_pure]
 equal := fun w a b => by
  unfold Op.equal Op.maxDepth
  rw [ve 9997 a b w]
  by_cases h : a = b
  · simp [h]
  · have : ¬ (Value.agg a.cells = .agg b.cells) := fun e => h (YR a b e)
    rw [decide_eq_false h, decide_eq_false this]
 now := fun d hd => .inr fun a b => by
  have hu : Tryz.prog.underlying 224 = some (.struct (Tryz.prog.fieldsOf 224)) := by kernel_rfl
  rw [hu] at hd
  cases hd
  simp [Instr.sameNow]
 stays := fun a => by simp [Instr.sameBits, Vw.cells]
 kind := ⟨_, by have hu : Tryz.prog.underlying 224 = some (.struct (Tryz.prog.fieldsOf 224)) := by kernel_rfl
                exact hu⟩
end
section
open Go.RowKit
structure TArg (w : World) (A : Option Addr) (cap : Nat) (vs : List Vw) : Prop where
 rows : VAt w w.heap.size A vs
 lec : vs.length ≤ cap
 lem : cap ≤ maxLen
 few : vs.length ≤ 100000
theorem TArg.keep {w w' : World} {A : Option Addr} {cap : Nat} {vs : List Vw} (h : TArg w A cap vs) (hb : Below w.heap.size w w') : TArg w' A cap vs :=
 ⟨(h.rows.keep hb).more hb.size, h.lec, h.lem, h.few⟩
end
section
open Go.RowKit
def yr (vs : List Vw) : List Value := vs.flatMap fun x => x.cells.toList
theorem jL (vs us : List Vw) : yr (vs ++ us) = yr vs ++ yr us := by simp [yr]
theorem jK (vs : List Vw) : (yr vs).length = vs.length * 8 := by
 induction vs with
 | nil => rfl
 | cons v vs ih => simp only [yr, List.flatMap_cons, List.length_append, List.length_cons] at *; rw [ih]; simp [Vw.cells]; omega
theorem vO : ∀ (vs : List Vw) (i : Nat) (hi : i < vs.length) (k : Nat), k < 8 → (yr vs)[i * 8 + k]? = vs[i].cells[k]?
 | v :: vs, 0, hi, k, hk => by
  simp only [yr, List.flatMap_cons, List.getElem_cons_zero, Nat.zero_mul, Nat.zero_add]
  rw [List.getElem?_append_left (by simp [Vw.cells]; omega)]
  simp
 | v :: vs, i + 1, hi, k, hk => by
  have := vO vs i (by simpa using hi) k hk
  simp only [yr, List.flatMap_cons, List.getElem_cons_succ] at *
  rw [List.getElem?_append_right (by simp [Vw.cells]; omega), ← this]
  congr 1
  simp [Vw.cells]; omega
def OwnV (w : World) (base : Nat) (v : Value) (vs : List Vw) : Prop := w.ownsRow base 224 8 v vs.length (yr vs)
theorem OwnV.nil (w : World) (base : Nat) : OwnV w base (.slice none 0 0) [] := World.ownsRow_nil w base _ 8
theorem OwnV.form {w : World} {base : Nat} {v : Value} {vs : List Vw} (h : OwnV w base v vs) (hf : vs.length ≤ 100000) : ∃ A cap, v = .slice A vs.length cap ∧ TArg w A cap vs := by
 rcases h.2 with ⟨rfl, h0⟩ | ⟨g, cap, cur, rfl, _, hg, hle, hcm, _⟩
 · have : vs = [] := List.eq_nil_of_length_eq_zero h0
   subst this
   exact ⟨none, 0, rfl, fun h => absurd h (by simp), Nat.le_refl _, Nat.zero_le _, hf⟩
 · refine ⟨_, _, rfl, fun _ => ⟨g, 0, rfl, (Array.getElem?_eq_some_iff.1 hg).1, fun i hi k u hk => ?_⟩, hle, hcm, hf⟩
   have hk8 : k < 8 := by have := (Array.getElem?_eq_some_iff.1 hk).1; simpa [Vw.cells] using this
   have := h.cells (g := g) rfl (i * 8 + k) u (by rw [vO vs i hi k hk8]; exact hk)
   rw [show (⟨g, 0, none⟩ : Addr).add (i * 8 + k) = ⟨g, 0 + i * 8 + k, none⟩ from by unfold Addr.add; split <;> simp_all] at this
   exact this
theorem OwnV.low {w : World} {base base' : Nat} {v : Value} {xs : List Vw} (h : OwnV w base v xs) (hb : base' ≤ base) : OwnV w base' v xs := by
 refine ⟨h.1, ?_⟩
 rcases h.2 with h2 | ⟨g, cap, cur, hv, hg, r⟩
 · exact Or.inl h2
 · exact Or.inr ⟨g, cap, cur, hv, by omega, r⟩
theorem OwnV.lt {w : World} {base : Nat} {v : Value} {xs : List Vw} (h : OwnV w base v xs) : ∀ k, v.ownBlock = some k → base ≤ k ∧ k < w.heap.size := World.ownsRow.lt h
theorem uk : (Tryz.prog.info? 224).map (fun i => (i.zero, i.size, i.bytes)) = some (some (.agg (⟨0, 0, 0, 0, 0, 0, 0, 0⟩ : Vw).cells), 8, 64) := by kernel_rfl
theorem ur (v : Vw) : ∀ u ∈ v.cells.toList, u.oneCell' = true := by
 intro u hu
 simp only [Vw.cells, List.mem_cons, List.not_mem_nil, or_false] at hu
 rcases hu with rfl | rfl | rfl | rfl | rfl | rfl | rfl | rfl <;> rfl
theorem Qa (vs : List Vw) : ∀ u ∈ yr vs, u.oneCell' = true := by
 intro u hu
 obtain ⟨v, _, hv⟩ := List.mem_flatMap.1 hu
 exact ur v u hv
end
section
open Go.RowKit
theorem Zm (c : Nat) (ty : TypeId) (W : World) : (Builtin.append_ #[30, 30] ty #[.slice none 0 0, .slice none 0 c]).run Tryz.prog W = .ok (.slice none 0 0) W := by
 obtain ⟨i0, hi, _⟩ := info_parts uk
 simp [Builtin.append_, run_underlying Tryz.underlying30, sizeOf, typeInfo, hi, Builtin.lenOf, Builtin.firstCells]
theorem TArg.news {w : World} {ad : Addr} {cap : Nat} {vs : List Vw} (h : TArg w (some ad) cap vs) : ∀ j u, (yr vs)[j]? = some u → w.cell? (ad.add j) = some u := by
 intro j u hj
 have hj8 : j < vs.length * 8 := by have := (List.getElem?_eq_some_iff.1 hj).1; rwa [jK] at this
 obtain ⟨b, off, e, hlt, hc⟩ := h.rows (by omega)
 cases e
 rw [Addr.add_lit]
 have hi' : j / 8 < vs.length := by omega
 have h8 : j / 8 * 8 + j % 8 = j := by omega
 rw [← h8, vO vs (j / 8) hi' (j % 8) (by omega)] at hj
 have := hc (j / 8) hi' (j % 8) u hj
 rwa [Nat.add_assoc, h8] at this
theorem OwnV.lit {w : World} {base : Nat} {v : Value} {vs : List Vw} (h : OwnV w base v vs) : ∃ A cap, v = .slice A vs.length cap := by
 rcases h.2 with ⟨rfl, h0⟩ | ⟨g, cap, cur, rfl, _⟩
 · exact ⟨none, 0, by rw [h0]⟩
 · exact ⟨_, _, rfl⟩
theorem wp_appv0 {o : Oper} {a : Act} {K : Act → World → Prop} {Q : Exit → Act → World → Prop} {W : World} (s x : Operand)
  (ho : o.op = .call { callee := .builtin .append, args := #[s, x], argTypes := #[30, 30] }) (base : Nat) (hs : a.eval s = .slice none 0 0) (A : Option Addr) (cap : Nat) (vs : List Vw)
  (hx : a.eval x = .slice A vs.length cap) (hT : TArg W A cap vs) (hb : base ≤ W.heap.size)
  (h : ∀ A' cap' w1, OwnV w1 base (.slice A' vs.length cap') vs → W.grownBy w1 none → K (a.put o.dst (.slice A' vs.length cap')) w1) : o.wp Tryz.prog a W K Q := by
 obtain ⟨i0, hi, hz0, hz1, hz2⟩ := info_parts uk
 cases A with
 | none =>
  have hvs : vs = [] := by
   rcases Nat.eq_zero_or_pos vs.length with h | h
   · exact List.eq_nil_of_length_eq_zero h
   · obtain ⟨b, off, e, _⟩ := hT.rows h; cases e
  subst hvs
  have hrun := Zm cap o.type W
  unfold Oper.wp execOp
  simp only [ho, resolve, invoke, builtin, Sem.run_bind, Sem.run_pure, Result.andThen_ok, List.map_toArray, List.map_cons, List.map_nil, hs, hx, List.length_nil, hrun]
  exact h none 0 W (OwnV.nil _ _) (World.grownBy.refl _ _)
 | some ad =>
  refine wp_append_own W s x 30 ho base 224 i0 _ 8 64 Tryz.underlying30 hi hz0 hz1 hz2 rfl (by decide) _ 0 [] hs (World.ownsRow_nil W base _ 8) ad vs.length cap (yr vs) hx (jK vs) hT.news (Qa vs) (by have := hT.few; unfold maxLen; omega) (by have := hT.few; omega) hb ?_
  intro v' w1 hown hgrow _
  have hown' : OwnV w1 base v' vs := by unfold OwnV; simpa using hown
  obtain ⟨A', cap', rfl⟩ := hown'.lit
  exact h A' cap' w1 hown' hgrow
theorem wp_appv1 {o : Oper} {a : Act} {K : Act → World → Prop} {Q : Exit → Act → World → Prop} {W : World} (s x : Operand)
  (ho : o.op = .call { callee := .builtin .append, args := #[s, x], argTypes := #[30, 30] }) (base : Nat) (V : Value) (vs : List Vw) (v : Vw) (hs : a.eval s = V) (hown : OwnV W base V vs) (hf : vs.length ≤ 100000)
  (g : Nat) (hx : a.eval x = .slice (some ⟨g, 0, none⟩) 1 1) (hg : W.heap[g]? = some (.cells v.cells 224 (0, 0))) (hb : base ≤ W.heap.size)
  (h : ∀ A' cap' w1, OwnV w1 base (.slice A' (vs.length + 1) cap') (vs ++ [v]) → W.grownBy w1 V.ownBlock → K (a.put o.dst (.slice A' (vs.length + 1) cap')) w1) : o.wp Tryz.prog a W K Q := by
 obtain ⟨i0, hi, hz0, hz1, hz2⟩ := info_parts uk
 refine wp_append_lies W s x 30 ho base 224 i0 _ 8 64 Tryz.underlying30 hi hz0 hz1 hz2 rfl (by decide) V vs.length (yr vs) hs hown ⟨g, 0, none⟩ 1 1 v.cells.toList hx (by simp [Vw.cells])
  (World.news_of_block hg) (ur v) (by omega) (by unfold maxLen; omega) (by omega) hb _ rfl ?_
 intro g' cap w1 hown' hgrow _ _
 refine h _ cap w1 ?_ hgrow
 unfold OwnV
 rw [List.length_append, jL]
 simpa [yr] using hown'
theorem Qe {ops : Array Oper} {o : Oper} {a : Act} {K : Act → World → Prop} {Q : Exit → Act → World → Prop} {E : Prop} {W : World} (hgd : o.guard = none) (s x : Operand)
  (ho : o.op = .call { callee := .builtin .append, args := #[s, x], argTypes := #[30, 30] }) (base : Nat) (hs : a.eval s = .slice none 0 0) (A : Option Addr) (cap : Nat) (vs : List Vw)
  (hx : a.eval x = .slice A vs.length cap) (hT : TArg W A cap vs) (hb : base ≤ W.heap.size)
  (h : ∀ A' cap' w1, OwnV w1 base (.slice A' vs.length cap') vs → W.grownBy w1 none → K (a.put o.dst (.slice A' vs.length cap')) w1) :
  if Region.wanted o (yielded ops a.tmps) = true then Oper.wp Tryz.prog o a W K Q else E := by
 have hw : Region.wanted o (yielded ops a.tmps) = true := by simp [Region.wanted, hgd]
 rw [if_pos hw]
 exact wp_appv0 s x ho base hs A cap vs hx hT hb h
theorem wO {ops : Array Oper} {o : Oper} {a : Act} {K : Act → World → Prop} {Q : Exit → Act → World → Prop} {E : Prop} {W : World} (hgd : o.guard = none) (s x : Operand)
  (ho : o.op = .call { callee := .builtin .append, args := #[s, x], argTypes := #[30, 30] }) (base : Nat) (V : Value) (vs : List Vw) (v : Vw) (hs : a.eval s = V) (hown : OwnV W base V vs) (hf : vs.length ≤ 100000)
  (g : Nat) (hx : a.eval x = .slice (some ⟨g, 0, none⟩) 1 1) (hg : W.heap[g]? = some (.cells v.cells 224 (0, 0))) (hb : base ≤ W.heap.size)
  (h : ∀ A' cap' w1, OwnV w1 base (.slice A' (vs.length + 1) cap') (vs ++ [v]) → W.grownBy w1 V.ownBlock → K (a.put o.dst (.slice A' (vs.length + 1) cap')) w1) :
  if Region.wanted o (yielded ops a.tmps) = true then Oper.wp Tryz.prog o a W K Q else E := by
 have hw : Region.wanted o (yielded ops a.tmps) = true := by simp [Region.wanted, hgd]
 rw [if_pos hw]
 exact wp_appv1 s x ho base V vs v hs hown hf g hx hg hb h
theorem zR {W w1 : World} {row : Option Nat} {b o : Nat} {u : Value} (hg : W.grownBy w1 row) (h : W.cell? ⟨b, o, none⟩ = some u) (hne : row ≠ some b) : w1.cell? ⟨b, o, none⟩ = some u := by
 obtain ⟨ob, ho, _⟩ := cells_of_cell h
 rw [World.cell?_of_block ((hg.block b (Array.getElem?_eq_some_iff.1 ho).1 (fun e => hne e.symm)))]
 exact h
theorem vc (w : World) (g k : Nat) (v' : Value) : w.grownBy (w.setCell ⟨g, k, none⟩ v') (some g) :=
 ⟨rfl, rfl, rfl, by simp [World.setCell], fun j _ hj => Below.heap_setCell w ⟨g, k, none⟩ v' j (fun e => hj (by rw [e]))⟩
theorem QR {W w1 : World} {row : Option Nat} {b : Nat} {o : Obj} (hg : W.grownBy w1 row) (h : W.heap[b]? = some o) (hne : row ≠ some b) : w1.heap[b]? = some o :=
 (hg.block b (Array.getElem?_eq_some_iff.1 h).1 (fun e => hne e.symm)).trans h
theorem OwnV.kept {w w' : World} {base : Nat} {v : Value} {vs : List Vw} {row : Option Nat} (h : OwnV w base v vs) (hg : w.grownBy w' row) (hne : v.ownBlock = none ∨ v.ownBlock ≠ row) : OwnV w' base v vs := World.ownsRow.kept h hg hne
theorem OwnV.alloc {w : World} {base : Nat} {v : Value} {vs : List Vw} (h : OwnV w base v vs) (o : Obj) : OwnV (w.alloc o) base v vs := World.ownsRow.alloc h o
theorem OwnV.drew {w : World} {base : Nat} {v : Value} {vs : List Vw} (h : OwnV w base v vs) : OwnV w.drew base v vs := h
theorem OwnV.below {w w' : World} {base B : Nat} {v : Value} {xs : List Vw} (h : OwnV w base v xs) (hb : Below B w w') (hB : w.heap.size ≤ B) : OwnV w' base v xs :=
 World.ownsRow.kept (row := none) h ⟨hb.os, hb.tape, hb.output, hb.size, fun k hk _ => hb.block k (by omega)⟩ (by cases v.ownBlock <;> simp)
theorem vd {W w1 : World} {row : Option Nat} {b o : Nat} (hg : W.grownBy w1 row) (h : W.frozen? ⟨b, o, none⟩ = false) (hlt : b < W.heap.size) (hne : row ≠ some b) : w1.frozen? ⟨b, o, none⟩ = false :=
 (World.grownBy.frozen_far hg ⟨b, o, none⟩ hlt (fun e => hne e.symm)).trans h
theorem OwnV.ne {w : World} {base b : Nat} {v : Value} {xs : List Vw} (h : OwnV w base v xs) (hb : b < base) : v.ownBlock ≠ some b := fun e => by
 have := (h.lt b e).1
 omega
def RetPut (n : Int) (A : Option Addr) (cap : Nat) (vs : List Vw) (v : Vw) (w : World) (e : Ending) (w' : World) : Prop :=
 Below w.heap.size w w' ∧ (v ∈ vs → e = .returned (.tuple #[.agg #[.int .i64 n, .slice A vs.length cap], .int .i64 (qH vs v)])) ∧
  (v ∉ vs → ∃ A3 cap3, e = .returned (.tuple #[.agg #[.int .i64 n, .slice A3 (vs.length + 1) cap3], .int .i64 vs.length]) ∧ OwnV w' w.heap.size (.slice A3 (vs.length + 1) cap3) (vs ++ [v]))
end
section
open Go.RowKit
section
variable {P : Program} {md : Region.Mode} {ops : Array Oper} {Q : Exit → Act → World → Prop} {l n : Nat}
theorem op_round {o : Oper} {a : Act} {w : World} {K : Act → World → Prop} (hd : ∀ c, o.op ≠ .defer c) (h : o.wp P a w K Q) : o.wpIn (Fence.wide.inRound l) n P a w K Q := by
 refine ⟨fun _ _ => trivial, ?_⟩
 show o.uponIn (Fence.wide.inRound l) n P a K Q ((o.semAt (some l) a.eval).run P w)
 rw [Oper.semAt_some l a.eval o hd]
 unfold Oper.wp at h
 revert h
 cases (execOp a.eval o).run P w with
 | ok x w' =>
  cases x with
  | value v => exact fun h => h
  | skip => exact fun h => h
  | defer d => exact fun h => h
  | enter f args => exact fun h => ⟨(fun h' => Bool.noConfusion (show false = true from h')), CallsIn.inRound l (callsIn_wide.2 h)⟩
  | row r args => exact fun h => ⟨(fun h' => Bool.noConfusion (show false = true from h')), fun b cs _ => by obtain ⟨v, w'', hR, hs⟩ := h b cs; exact ⟨v, w'', hR, stepsIn_wide.2 hs⟩⟩
  | _ => exact fun h => h.elim
 | halt s w' =>
  cases s with
  | panic v => exact fun h => h
  | _ => exact fun h => h.elim
def wj (ops : Array Oper) : Bool := ops.toList.all fun o => match o.op with | .defer _ => false | _ => true
theorem Qw (h : wj ops = true) {i : Nat} {o : Oper} (ho : ops[i]? = some o) : ∀ c, o.op ≠ .defer c := by
 intro c e
 have hm : o ∈ ops.toList := by rw [Array.mem_toList_iff]; exact Array.mem_of_getElem? ho
 have := List.all_eq_true.1 h o hm
 rw [e] at this
 cases this
theorem ku (hd : wj ops = true) (hno : ¬ LetsOut Q) : ∀ (fuel : Nat) (listed : Array Bool) (a : Act) (w : World), wpAny P md ops Q fuel listed a w → wpAnyIn (Fence.wide.inRound l) n P md ops Q fuel listed a w
 | 0, _, _, _, h => h
 | fuel + 1, listed, a, w, h => by
  refine ⟨h.1, fun i hi => ?_⟩
  have h2 := h.2 i hi
  unfold wpOp at h2
  unfold wpOpIn
  cases ho : ops[i]? with
  | none => rw [ho] at h2; exact ku hd hno fuel _ _ _ h2
  | some o =>
   rw [ho] at h2
   dsimp only at h2 ⊢
   by_cases hw : Region.wanted o (yielded ops a.tmps) = true
   · rw [if_pos hw] at h2 ⊢
     rcases h2 with h2 | h2
     · exact op_round (Qw hd ho) (Oper.wp_mono (fun a' w' hk => ku hd hno fuel _ _ _ hk) h2)
     · exact absurd h2.2 hno
   · rw [if_neg hw] at h2 ⊢
     exact ⟨fun _ _ => trivial, ku hd hno fuel _ _ _ h2⟩
theorem any_still {n : Nat} {w : World} {a : Act} {xs : List Oper} (hB : Region.lexTailB .any xs.toArray n = true)
  (h : wpStill P xs.toArray w (fun a' => wpList P xs.toArray Q (xs.drop n) a' w) (xs.take n) a) : wpAny P .any xs.toArray Q xs.toArray.size (Array.replicate xs.toArray.size false) a w := by
 unfold Region.lexTailB at hB
 simp only [Bool.and_eq_true, decide_eq_true_eq] at hB
 have hn : n < xs.length := by simpa using hB.1.1.1.2
 have e1 : (xs.take n).length = n := by rw [List.length_take]; omega
 have e2 : (xs.drop n).length = xs.toArray.size - n := by rw [List.length_drop]; rfl
 have hI : HeadInv .any xs.toArray n (Array.replicate xs.toArray.size false) :=
  ⟨by simp, fun _ _ _ hl => (by rw [getD_replicate_false] at hl; exact Bool.noConfusion hl), fun _ _ ht => getD_in (by simpa using ht) (getD_replicate_false _ _)⟩
 have H := wpAnyL_lex (md := .any) (g := xs.toArray.size - n) hB.1.1.1.1 hB.1.1.2 hB.1.2 hB.1.1.1.2 (xs.take n) 0 _ a
  (fun j hj => by
   rw [e1] at hj
   simp [hj]) (by simpa using e1) hI (by rw [e1]; exact hB.2) h
 have R := wpAny_of_head (Q' := Q) (g := xs.toArray.size - n) (fun listed a' hL => by
  have T := wpAny_of_seq (md := .any) (Q' := Q) (xs.drop n) n listed a' w (fun j => by simp [List.getElem?_drop]) (by rw [e2]; exact hL.1) hL.2
  rwa [e2] at T) _ _ _ H
 rw [e1] at R
 have e3 : n + (xs.toArray.size - n) = xs.toArray.size := by have : xs.toArray.size = xs.length := rfl; omega
 rwa [e3] at R
theorem qy {id k : Nat} {a : Act} {w : World} {xs : List Oper} (n : Nat) (hm : P.follows .mixedOrders = true) (hd : wj xs.toArray = true) (hB : Region.lexTailB .any xs.toArray n = true) (hno : ¬ LetsOut Q)
  (h : wpStill P xs.toArray w.drew (fun a' => wpList P xs.toArray Q (xs.drop n) a' w.drew) (xs.take n) a) : (Code.region id xs.toArray true).wpIn (Fence.wide.inRound l) k P Q a w :=
 wpIn_region_any hm (ku hd hno _ _ _ _ (any_still hB h))
end
end
section
open Go.RowKit
section
variable {P : Program} {ops : Array Oper} {md : Region.Mode}
def Qf : Exit → Act → World → Prop := fun _ _ _ => False
theorem Jk : ¬ LetsOut Qf := fun ⟨_, _, h⟩ => h
theorem wp_of_qf {o : Oper} {a : Act} {w : World} {K : Act → World → Prop} {Q : Exit → Act → World → Prop} (hh : o.wp P a w K Qf) : o.wp P a w K Q := by
 unfold Oper.wp at *
 generalize (execOp a.eval o).run P w = r at *
 cases r with
 | ok n w' =>
  cases n <;> simp only [Oper.upon] at hh ⊢ <;>
   first
    | exact hh
    | exact Calls.mono hh (fun e w'' he => by
      cases e with
      | returned v => exact he
      | panicked c => exact False.elim he
      | outgrown => exact absurd he Jk)
 | halt x w' => cases x <;> simp only [Oper.upon] at hh ⊢ <;> exact False.elim hh
def QJ (P : Program) (ops : Array Oper) (i : Nat) (K : Act → World → Prop) (a : Act) (w : World) : Prop :=
 ∃ o, ops[i]? = some o ∧ if Region.wanted o (yielded ops a.tmps) = true then o.wp P a w K Qf else K (a.put o.dst undef) w
theorem ZK {i : Nat} {K K' : Act → World → Prop} {a : Act} {w : World} (h : ∀ a w, K a w → K' a w) (hh : QJ P ops i K a w) : QJ P ops i K' a w := by
 obtain ⟨o, ho, hh⟩ := hh
 refine ⟨o, ho, ?_⟩
 split at hh
 · rename_i hw; rw [if_pos hw]; exact Oper.wp_mono h hh
 · rename_i hw; rw [if_neg hw]; exact h _ _ hh
def Jc (md : Region.Mode) (ops : Array Oper) : Nat → Nat → Nat → Bool
 | 0, _, _ => false
 | f + 1, j, i => match ops[j]? with
  | some o => o.after.any fun e => Region.binds md e && (e.on == i || Jc md ops f e.on i)
  | none => false
def YW (md : Region.Mode) (ops : Array Oper) (F : List Nat) (j : Nat) : Bool := F.all fun i => Jc md ops ops.size j i
def Closed (md : Region.Mode) (ops : Array Oper) (listed : Array Bool) : Prop := ∀ (j : Nat) (oj : Oper), ops[j]? = some oj → listed.getD j false = true → ∀ e ∈ oj.after, Region.binds md e = true → listed.getD e.on false = true
theorem Closed.set {listed : Array Bool} (h : Closed md ops listed) {i : Nat} (hi : i ∈ Region.ready md ops listed) : Closed md ops (listed.setIfInBounds i true) := by
 obtain ⟨_, oi, hoi, hall⟩ := mem_ready.1 hi
 intro j oj hj hl e he hb
 by_cases hij : i = j
 · subst hij
   have : oj = oi := Option.some.inj (hj.symm.trans hoi)
   subst this
   exact getD_set_true (hall e he hb)
 · rw [getD_set_ne false hij] at hl
   exact getD_set_true (h j oj hj hl e he hb)
theorem uz {listed : Array Bool} (h : Closed md ops listed) : ∀ (f j i : Nat), (∀ oj, ops[j]? = some oj → ∀ e ∈ oj.after, Region.binds md e = true → listed.getD e.on false = true) → Jc md ops f j i = true → listed.getD i false = true
 | 0, _, _, _, hr => by cases hr
 | f + 1, j, i, hj, hr => by
  unfold Jc at hr
  cases ho : ops[j]? with
  | none => rw [ho] at hr; cases hr
  | some o =>
   rw [ho] at hr
   obtain ⟨e, he, hb⟩ := Array.any_eq_true'.1 hr
   simp only [Bool.and_eq_true, Bool.or_eq_true, beq_iff_eq] at hb
   have hl := hj o ho e he hb.1
   rcases hb.2 with h1 | h1
   · rw [← h1]; exact hl
   · exact uz h f e.on i (fun oj hoj e' he' hb' => h e.on oj hoj hl e' he' hb') h1
theorem YV {listed : Array Bool} (h : Closed md ops listed) {F : List Nat} {j i : Nat} (hj : j ∈ Region.ready md ops listed) (hs : YW md ops F j = true) (hi : i ∈ F) : listed.getD i false = true := by
 obtain ⟨_, oj, hoj, hall⟩ := mem_ready.1 hj
 refine uz h ops.size j i (fun o ho e he hb => ?_) (List.all_eq_true.1 hs i hi)
 have : oj = o := Option.some.inj (hoj.symm.trans ho)
 subst this
 exact hall e he hb
def wC (P : Program) (md : Region.Mode) (ops : Array Oper) (F : List Nat) (Q : Act → World → Prop) : Nat → Array Bool → (World → Prop) → Act → World → Prop
 | 0, listed, _, a, w => Region.ready md ops listed = [] ∧ Q a w
 | fuel + 1, listed, Kp, a, w => (Region.ready md ops listed = [] → Q a w) ∧
   ∀ i ∈ Region.ready md ops listed, QJ P ops i (fun a' w' => ∃ Kp' : World → Prop, ((∀ W, Kp' W → Kp W) ∨ YW md ops F i = true) ∧ Kp' w' ∧ wC P md ops F Q fuel (listed.setIfInBounds i true) Kp' a' w') a w
theorem jV {F : List Nat} {Q : Exit → Act → World → Prop} {Qn : Act → World → Prop} (hQ : ∀ a w, Qn a w → Q .normal a w) : ∀ (fuel : Nat) (listed : Array Bool) (Kp : World → Prop) (a : Act) (w : World),
  wC P md ops F Qn fuel listed Kp a w → wpAny P md ops Q fuel listed a w
 | 0, _, _, _, _, h => ⟨h.1, hQ _ _ h.2⟩
 | fuel + 1, listed, Kp, a, w, h => by
  refine ⟨fun h0 => hQ _ _ (h.1 h0), fun i hi => ?_⟩
  obtain ⟨o, ho, h2⟩ := h.2 i hi
  unfold wpOp
  rw [ho]
  dsimp only
  split at h2
  · rename_i hw
    rw [if_pos hw]
    exact .inl (Oper.wp_mono (fun a' w' ⟨Kp', _, _, h3⟩ => jV hQ fuel _ Kp' a' w' h3) (wp_of_qf h2))
  · rename_i hw
    rw [if_neg hw]
    obtain ⟨Kp', _, _, h3⟩ := h2
    exact jV hQ fuel _ Kp' _ _ h3
def FloatTo (P : Program) (ops : Array Oper) (Kp : World → Prop) (o : Oper) (a a1 : Act) : Prop := ∀ W, Kp W → ∃ v, YieldsAt P ops W o v a ∧ a.put o.dst v = a1
theorem FloatTo.less {Kp Kp' : World → Prop} {o : Oper} {a a1 : Act} (h : FloatTo P ops Kp o a a1) (hs : ∀ W, Kp' W → Kp W) : FloatTo P ops Kp' o a a1 := fun W hW => h W (hs W hW)
theorem vS (a : Act) (d : Option Tmp) (v : Value) (x : Deferred) : ({ a.put d v with defers := x :: (a.put d v).defers } : Act) = ({ a with defers := x :: a.defers } : Act).put d v := by
 cases d <;> rfl
theorem kpOp_put {j : Nat} {oi oj : Oper} {Kp : World → Prop} (hj : ops[j]? = some oj) (hap : oi.apart ops oj = true)
  (hsi : ∀ cs b, oi.op ≠ .select cs b) (hsj : ∀ cs b, oj.op ≠ .select cs b) {K : Act → World → Prop} {a a1 : Act} {w : World}
  (hy : FloatTo P ops Kp oi a a1) (hk : Kp w) (h : QJ P ops j K a1 w) :
  QJ P ops j (fun a' w' => ∃ a1', FloatTo P ops Kp oi a' a1' ∧ K a1' w') a w := by
 obtain ⟨h1, h2, h3⟩ := Oper.apart_spec hap
 obtain ⟨v, hv, rfl⟩ := hy w hk
 have keep : ∀ u, FloatTo P ops Kp oi (a.put oj.dst u) ((a.put oi.dst v).put oj.dst u) := fun u W hW => by
  obtain ⟨v', hy', e⟩ := hy W hW
  exact ⟨v', hy'.of_same (execOp_put oi hsi a oj.dst u h3) (wanted_put oi a oj.dst u h3), by rw [← Act.put_comm a v' u h2, e]⟩
 have keepD : ∀ (x : Deferred) u, FloatTo P ops Kp oi (({ a with defers := x :: a.defers } : Act).put oj.dst u) ((({ a.put oi.dst v with defers := x :: (a.put oi.dst v).defers } : Act)).put oj.dst u) := fun x u W hW => by
  obtain ⟨v', hy', e⟩ := keep u W hW
  rw [← vS a oj.dst u x, ← vS (a.put oi.dst v) oj.dst u x]
  refine ⟨v', hy'.of_same rfl rfl, ?_⟩
  rw [← vS, e]
 obtain ⟨o, ho, h⟩ := h
 have : oj = o := Option.some.inj (hj.symm.trans ho)
 subst this
 refine ⟨oj, hj, ?_⟩
 rw [wanted_put oj a oi.dst v h1] at h
 split
 · rename_i hw
   rw [if_pos hw] at h
   unfold Oper.wp at *
   rw [execOp_put oj hsj a oi.dst v h1] at h
   generalize (execOp a.eval oj).run P w = r at *
   cases r with
   | ok n w' =>
    cases n <;> simp only [Oper.upon] at h ⊢
    case value u => exact ⟨_, keep u, h⟩
    case skip => exact ⟨_, keep undef, h⟩
    case defer d => exact ⟨_, keepD d undef, h⟩
    case enter f args =>
     exact Calls.mono h (fun e w'' he => by
       cases e with
       | returned u => exact ⟨_, keep u, he⟩
       | panicked c => exact False.elim he
       | outgrown => exact absurd he Jk)
    case row row args => exact Rows.mono h (fun u w'' he => ⟨_, keep u, he⟩)
   | halt x w' => cases x <;> simp only [Oper.upon] at h ⊢ <;> exact h
 · rename_i hw
   rw [if_neg hw] at h
   exact ⟨_, keep undef, h⟩
theorem uw {i : Nat} {o : Oper} {v : Value} {a : Act} {w : World} (hi : ops[i]? = some o) (hy : YieldsAt P ops w o v a) {K : Act → World → Prop} (h : K (a.put o.dst v) w) : QJ P ops i K a w := by
 refine ⟨o, hi, ?_⟩
 rcases hy with ⟨hw, hv | ⟨hv, rfl⟩ | ⟨f, args, hv, hc⟩⟩ | ⟨hw, rfl⟩
 · rw [if_pos hw]; unfold Oper.wp; rw [hv]; exact h
 · rw [if_pos hw]; unfold Oper.wp; rw [hv]; exact h
 · rw [if_pos hw]; unfold Oper.wp; rw [hv]
   exact hc.mono fun e w'' ⟨he, hw2⟩ => by subst he; subst hw2; exact h
 · rw [if_neg (by rw [hw]; decide)]; exact h
theorem Z5 {F : List Nat} {Q : Act → World → Prop} {i : Nat} {oi : Oper} (hF : i ∈ F) (hi : ops[i]? = some oi) (hsel : ∀ (j : Nat) (o : Oper) cs b, ops[j]? = some o → o.op ≠ .select cs b) :
  ∀ (fuel : Nat) (listed : Array Bool) (Kp : World → Prop) (a a1 : Act) (w : World),
   (∀ j oj, ops[j]? = some oj → j ≠ i → listed.getD j true = false → (∀ e ∈ oj.after, Region.binds md e = true → e.on ≠ i) → oi.apart ops oj = true) →
   Closed md ops listed → i ∈ Region.ready md ops listed → FloatTo P ops Kp oi a a1 → Kp w →
   wC P md ops F Q fuel (listed.setIfInBounds i true) Kp a1 w → wC P md ops F Q (fuel + 1) listed Kp a w := by
 intro fuel
 induction fuel with
 | zero =>
  intro listed Kp a a1 w _ _ hr hy hk H
  refine ⟨fun h => (by rw [h] at hr; cases hr), fun j hj => ?_⟩
  by_cases hji : j = i
  · subst hji
    obtain ⟨v, hv, rfl⟩ := hy w hk
    exact uw hi hv ⟨Kp, .inl fun _ h => h, hk, H⟩
  · have := ready_mono hj hji
    rw [H.1] at this
    cases this
 | succ fuel ih =>
  intro listed Kp a a1 w hfree hcl hr hy hk H
  refine ⟨fun h => (by rw [h] at hr; cases hr), fun j hj => ?_⟩
  by_cases hji : j = i
  · subst hji
    obtain ⟨v, hv, rfl⟩ := hy w hk
    exact uw hi hv ⟨Kp, .inl fun _ h => h, hk, H⟩
  · have h1 := H.2 j (ready_mono hj hji)
    obtain ⟨hjun, oj, hoj, hall⟩ := mem_ready.1 hj
    have hnot : ∀ e ∈ oj.after, Region.binds md e = true → e.on ≠ i := fun e he hb heq => by
     have h1 := hall e he hb
     have h0 := (mem_ready.1 hr).1
     rw [heq] at h1
     rcases Nat.lt_or_ge i listed.size with h' | h'
     · simp [h'] at h0 h1; rw [h0] at h1; cases h1
     · simp [Array.getElem?_eq_none h'] at h1
    have h2 := kpOp_put hoj (hfree j oj hoj hji hjun hnot) (fun cs b => hsel i oi cs b hi) (fun cs b => hsel j oj cs b hoj) hy hk h1
    have hfree' : ∀ k ok, ops[k]? = some ok → k ≠ i → (listed.setIfInBounds j true).getD k true = false →
      (∀ e ∈ ok.after, Region.binds md e = true → e.on ≠ i) → oi.apart ops ok = true := fun k ok hk hki hun hno => by
     refine hfree k ok hk hki ?_ hno
     by_cases hjk : j = k
     · subst hjk; exact hjun
     · rw [getD_set_ne true hjk] at hun; exact hun
    have hns : YW md ops F j = true → False := fun hse => by
     have h1 := YV hcl hj hse hF
     have h0 := (mem_ready.1 hr).1
     rcases Nat.lt_or_ge i listed.size with h' | h'
     · simp [h'] at h0 h1; rw [h0] at h1; cases h1
     · simp [Array.getElem?_eq_none h'] at h1
    refine ZK (fun a' w' ⟨a1', hf, Kp', hsub, hk', h3⟩ => ⟨Kp', hsub, hk', ih (listed.setIfInBounds j true) Kp' a' a1' w' hfree' (hcl.set hj) (ready_mono hr (Ne.symm hji)) (hf.less (hsub.resolve_right hns)) hk' ?_⟩) h2
    rw [Array.setIfInBounds_comm _ _ hji]
    exact h3
def qU (P : Program) (md : Region.Mode) (ops : Array Oper) (F : List Nat) (Q : Act → World → Prop) : List (Nat × Bool) → (World → Prop) → Act → World → Prop
 | [], _, a, w => Q a w
 | (i, true) :: r, Kp, a, w => ∃ o a1, ops[i]? = some o ∧ FloatTo P ops Kp o a a1 ∧ qU P md ops F Q r Kp a1 w
 | (i, false) :: r, Kp, a, w => QJ P ops i (fun a' w' => ∃ Kp' : World → Prop, ((∀ W, Kp' W → Kp W) ∨ YW md ops F i = true) ∧ Kp' w' ∧ qU P md ops F Q r Kp' a' w') a w
def Qz (md : Region.Mode) (ops : Array Oper) (F : List Nat) : List (Nat × Bool) → Array Bool → Bool
 | [], listed => (Region.ready md ops listed).isEmpty
 | (i, true) :: r, listed => F.contains i && (Region.ready md ops listed).contains i && Region.free md ops listed i && Qz md ops F r (listed.setIfInBounds i true)
 | (i, false) :: r, listed => decide (Region.ready md ops listed = [i]) && Qz md ops F r (listed.setIfInBounds i true)
theorem jW {F : List Nat} {Q : Act → World → Prop} (hs : Region.noSelect ops = true) : ∀ (l : List (Nat × Bool)) (listed : Array Bool) (Kp : World → Prop) (a : Act) (w : World),
  Qz md ops F l listed = true → Closed md ops listed → Kp w → qU P md ops F Q l Kp a w → wC P md ops F Q l.length listed Kp a w
 | [], _, _, _, _, hB, _, _, h => ⟨by simpa [Qz] using hB, h⟩
 | (i, true) :: l, listed, Kp, a, w, hB, hcl, hk, h => by
  simp only [Qz, Bool.and_eq_true] at hB
  obtain ⟨o, a1, ho, hf, h⟩ := h
  have hr : i ∈ Region.ready md ops listed := by simpa using hB.1.1.2
  exact Z5 (by simpa using hB.1.1.1) ho (Region.noSelect_spec hs) l.length listed Kp a a1 w (Region.free_spec ho hB.1.2) hcl hr hf hk (jW hs l _ Kp a1 w hB.2 (hcl.set hr) hk h)
 | (i, false) :: l, listed, Kp, a, w, hB, hcl, hk, h => by
  simp only [Qz, Bool.and_eq_true, decide_eq_true_eq] at hB
  refine ⟨fun h1 => (by rw [hB.1] at h1; cases h1), fun j hj => ?_⟩
  rw [hB.1] at hj
  have hji : j = i := by simpa using hj
  subst hji
  exact ZK (fun a' w' ⟨Kp', hsub, hk', h3⟩ => ⟨Kp', hsub, hk', jW hs l _ Kp' a' w' hB.2 (hcl.set (by rw [hB.1]; simp)) hk' h3⟩) h
def vB (l : List (Nat × Bool)) : List Nat := l.filterMap fun x => if x.2 then some x.1 else none
theorem XV : Closed md ops (Array.replicate ops.size false) := fun j _ _ h => by rw [getD_replicate_false] at h; cases h
def Yq (md : Region.Mode) (ops : Array Oper) (l : List (Nat × Bool)) : Bool := Region.noSelect ops && Qz md ops (vB l) l (Array.replicate ops.size false) && l.length == ops.size
theorem JL {Q : Exit → Act → World → Prop} {a : Act} {w : World} {xs : List Oper} (l : List (Nat × Bool)) (Kp : World → Prop) (hB : Yq .any xs.toArray l = true)
  (h0 : Kp w) (h : qU P .any xs.toArray (vB l) (fun a' w' => Q .normal a' w') l Kp a w) : wpAny P .any xs.toArray Q xs.toArray.size (Array.replicate xs.toArray.size false) a w := by
 unfold Yq at hB
 simp only [Bool.and_eq_true, beq_iff_eq] at hB
 have := jW (md := .any) hB.1.1 l _ Kp a w hB.1.2 XV h0 h
 rw [hB.2] at this
 exact jV (fun _ _ h => h) _ _ _ _ _ this
theorem zr {id : Nat} {Q : Exit → Act → World → Prop} {a : Act} {w : World} {xs : List Oper} (l : List (Nat × Bool)) (Kp : World → Prop) (hm : P.follows .mixedOrders = true) (hB : Yq .any xs.toArray l = true)
  (h0 : Kp w.drew) (h : qU P .any xs.toArray (vB l) (fun a' w' => Q .normal a' w') l Kp a w.drew) : (Code.region id xs.toArray true).wp P Q a w :=
 wp_region_any hm (JL l Kp hB h0 h)
theorem yY {id k l0 : Nat} {Q : Exit → Act → World → Prop} {a : Act} {w : World} {xs : List Oper} (l : List (Nat × Bool)) (Kp : World → Prop) (hm : P.follows .mixedOrders = true) (hd : wj xs.toArray = true) (hB : Yq .any xs.toArray l = true) (hno : ¬ LetsOut Q)
  (h0 : Kp w.drew) (h : qU P .any xs.toArray (vB l) (fun a' w' => Q .normal a' w') l Kp a w.drew) : (Code.region id xs.toArray true).wpIn (Fence.wide.inRound l0) k P Q a w :=
 wpIn_region_any hm (ku hd hno _ _ _ _ (JL l Kp hB h0 h))
theorem zA {F : List Nat} {Q : Act → World → Prop} {i : Nat} {r : List (Nat × Bool)} {Kp : World → Prop} {a a1 : Act} {w : World} {o : Oper} (ho : ops[i]? = some o)
  (h : ∀ (K : Act → Prop), K a1 → ∀ W, Kp W → if Region.wanted o (yielded ops a.tmps) = true then o.still P a W K else K (a.put o.dst undef))
  (k : qU P md ops F Q r Kp a1 w) : qU P md ops F Q ((i, true) :: r) Kp a w := by
 refine ⟨o, a1, ho, fun W hW => ?_, k⟩
 have h2 := h (fun x => x = a1) rfl W hW
 have h3 : stOp P ops W i (fun x => x = a1) a := by unfold stOp; simp only [ho]; exact h2
 obtain ⟨v, hv, he⟩ := yieldsAt_of_stOp ho h3
 exact ⟨v, hv, he⟩
theorem zC {F : List Nat} {Q : Act → World → Prop} {i : Nat} {r : List (Nat × Bool)} {Kp : World → Prop} {a : Act} {w : World} {o : Oper} (ho : ops[i]? = some o)
  (h : ∀ K : Act → World → Prop, (∀ a' w', Kp w' → qU P md ops F Q r Kp a' w' → K a' w') → if Region.wanted o (yielded ops a.tmps) = true then o.wp P a w K Qf else K (a.put o.dst undef) w) : qU P md ops F Q ((i, false) :: r) Kp a w :=
 ⟨o, ho, h _ fun _ _ hk h3 => ⟨Kp, .inl fun _ h => h, hk, h3⟩⟩
theorem zG {F : List Nat} {Q : Act → World → Prop} {Kp : World → Prop} {a : Act} {w : World} (h : Q a w) : qU P md ops F Q [] Kp a w := h
theorem yW {F : List Nat} {Q : Act → World → Prop} {i : Nat} {r : List (Nat × Bool)} {Kp : World → Prop} {a : Act} {w : World} {o : Oper} (ho : ops[i]? = some o) (hs : YW md ops F i = true)
  (h : ∀ K : Act → World → Prop, (∀ (Kp' : World → Prop) a' w', Kp' w' → qU P md ops F Q r Kp' a' w' → K a' w') → if Region.wanted o (yielded ops a.tmps) = true then o.wp P a w K Qf else K (a.put o.dst undef) w) : qU P md ops F Q ((i, false) :: r) Kp a w :=
 ⟨o, ho, h _ fun Kp' _ _ hk h2 => ⟨Kp', .inr hs, hk, h2⟩⟩
end
end
section
open Go.RowKit
def zN (a : Ad) : Nat → Int → Nat
 | 0, _ => 1
 | k + 1, s => ((a.at_ s).map fun m => zN a k m.to).sum
def yG (L x : Nat) : Nat := min x (L + 1)
def cl (a : Ad) (L k s : Nat) : List Int := (List.range s).map fun (j : Nat) => ((yG L (zN a k (j : Int)) : Nat) : Int)
theorem kM (a : Ad) (L k s : Nat) : (cl a L k s).length = s := by unfold cl; simp
theorem JF (a : Ad) (L k s : Nat) : cl a L k (s + 1) = cl a L k s ++ [((yG L (zN a k (s : Int)) : Nat) : Int)] := by
 unfold cl; rw [List.range_succ, List.map_append]; rfl
theorem Za (a : Ad) (L k s j : Nat) (h : j < (cl a L k s).length) : (cl a L k s)[j] = ((yG L (zN a k (j : Int)) : Nat) : Int) := by
 simp [cl]
def qX (a : Ad) (k : Nat) (M : List Mv) (j : Nat) : Nat := ((M.take j).map fun m => zN a k m.to).sum
theorem Qc (a : Ad) (k : Nat) (M : List Mv) : qX a k M 0 = 0 := by unfold qX; rw [List.take_zero]; rfl
theorem Qd (a : Ad) (k : Nat) (M : List Mv) {j : Nat} (h : j < M.length) : qX a k M (j + 1) = qX a k M j + zN a k M[j].to := by
 unfold qX; rw [List.take_succ_eq_append_getElem h, List.map_append, List.sum_append]; simp
theorem JV (a : Ad) (k : Nat) {s : Nat} (h : s < a.sts.length) : qX a k a.sts[s] (a.sts[s].length) = zN a (k + 1) (s : Int) := by
 unfold qX; rw [zN, List.take_length, show a.at_ (s : Int) = a.sts[s] by unfold Ad.at_; rw [Int.toNat_natCast, List.getD_eq_getElem?_getD, List.getElem?_eq_getElem h]; rfl]
theorem vP (L x : Nat) : yG L x ≤ L + 1 := Nat.min_le_right _ _
theorem Jh (L x y : Nat) : min (yG L x + yG L y) (L + 1) = yG L (x + y) := by unfold yG; omega
theorem YY (L : Nat) : yG L 0 = 0 := by unfold yG; omega
theorem Jf (L : Nat) : yG L 1 = 1 := by unfold yG; omega
theorem sat_gt (L x : Nat) : (L < yG L x) ↔ L < x := by unfold yG; omega
theorem sat_eq {L x : Nat} (h : x ≤ L) : yG L x = x := by unfold yG; omega
theorem Jg (L c x : Nat) (hc : 1 ≤ c) : (L < c * yG L x) ↔ L < c * x := by
 unfold yG
 by_cases h : x ≤ L + 1
 · rw [Nat.min_eq_left h]
 · rw [Nat.min_eq_right (by omega)]
   have h1 : 1 * (L + 1) ≤ c * (L + 1) := Nat.mul_le_mul_right _ hc
   have h2 : c * (L + 1) ≤ c * x := Nat.mul_le_mul_left _ (by omega)
   constructor <;> intro _ <;> omega
end
section
open Go.RowKit
def zy (a : Ad) : Nat → Int → List (List Rd)
 | 0, _ => [[]]
 | k + 1, s => (a.at_ s).flatMap fun m => (zy a k m.to).map (m.r :: ·)
theorem yo (a : Ad) : ∀ (k : Nat) (s : Int), (zy a k s).length = zN a k s
 | 0, _ => rfl
 | k + 1, s => by
  rw [zy, zN, List.length_flatMap]
  congr 1
  exact List.map_congr_left fun m _ => by rw [List.length_map, yo a k m.to]
theorem yV (a : Ad) : ∀ (k : Nat) (s : Int), ∀ w ∈ zy a k s, w.length = k
 | 0, _, w, h => by simp [zy] at h; subst h; rfl
 | k + 1, s, w, h => by
  rw [zy] at h
  obtain ⟨m, _, hm⟩ := List.mem_flatMap.1 h
  obtain ⟨w', hw, rfl⟩ := List.mem_map.1 hm
  rw [List.length_cons, yV a k m.to w' hw]
theorem at_mem {a : Ad} {s : Int} {m : Mv} (h : m ∈ a.at_ s) : m ∈ a.mvs := by
 unfold Ad.at_ at h
 unfold Ad.mvs
 rw [List.getD_eq_getElem?_getD] at h
 cases hc : a.sts[s.toNat]? with
 | none => rw [hc] at h; cases h
 | some l => rw [hc] at h; exact List.mem_flatten.2 ⟨l, List.mem_of_getElem? hc, h⟩
theorem kB (a : Ad) : ∀ (k : Nat) (s : Int), ∀ w ∈ zy a k s, ∀ r ∈ w, ∃ m ∈ a.mvs, m.r = r
 | 0, _, w, h, r, hr => by simp [zy] at h; subst h; cases hr
 | k + 1, s, w, h, r, hr => by
  rw [zy] at h
  obtain ⟨m, hma, hm⟩ := List.mem_flatMap.1 h
  obtain ⟨w', hw, rfl⟩ := List.mem_map.1 hm
  rcases List.mem_cons.1 hr with rfl | hr
  · exact ⟨m, at_mem hma, rfl⟩
  · exact kB a k m.to w' hw r hr
def zT (r : Rd) (p : Nat) (now : List Int) (q : Nat) : Int := if q < now.length ∧ (r.h p).toNat.testBit q = true then now.getD q 0 else -1
def xO (r : Rd) (k p : Nat) (now : List Int) : Vw := ⟨p, k, 0, zT r p now 0, zT r p now 1, zT r p now 2, zT r p now 3, zT r p now 4⟩
def yD (p : Nat) (i : Int) : Vw := ⟨p, 0, i, -1, -1, -1, -1, -1⟩
def xV (vs : List Vw) (v : Vw) : List Vw × Int := if v ∈ vs then (vs, qH vs v) else (vs ++ [v], vs.length)
theorem Xb {vs : List Vw} {v : Vw} (h : v ∈ vs) : xV vs v = (vs, qH vs v) := if_pos h
theorem Jl {vs : List Vw} {v : Vw} (h : v ∉ vs) : xV vs v = (vs ++ [v], (vs.length : Int)) := if_neg h
theorem putW_len (vs : List Vw) (v : Vw) : (xV vs v).1.length ≤ vs.length + 1 := by
 unfold xV; split <;> simp
def zV (f : Nat → Vw) (vs : List Vw) : Nat → List Vw × List Int
 | 0 => (vs, [])
 | p + 1 => ((xV (zV f vs p).1 (f p)).1, (zV f vs p).2 ++ [(xV (zV f vs p).1 (f p)).2])
theorem xg (f : Nat → Vw) (vs : List Vw) : ∀ p, (zV f vs p).2.length = p
 | 0 => rfl
 | p + 1 => by rw [zV, List.length_append, xg f vs p]; rfl
theorem ka (f : Nat → Vw) (vs : List Vw) : ∀ p, (zV f vs p).1.length ≤ vs.length + p
 | 0 => by simp [zV]
 | p + 1 => by
  have h := ka f vs p
  have h2 := putW_len (zV f vs p).1 (f p)
  rw [zV]; dsimp only; omega
def zl (vs : List Vw) (n : Nat) (inp : List Int) (word : List Rd) : Nat → List Vw × List (List Int)
 | 0 => ((zV (fun p => yD p (inp.getD p 0)) vs n).1, [(zV (fun p => yD p (inp.getD p 0)) vs n).2])
 | j + 1 => ((zV (fun p => xO (word.getD j default) (j + 1) p ((zl vs n inp word j).2.getD j [])) (zl vs n inp word j).1 n).1,
   (zl vs n inp word j).2 ++ [(zV (fun p => xO (word.getD j default) (j + 1) p ((zl vs n inp word j).2.getD j [])) (zl vs n inp word j).1 n).2])
theorem yg (vs : List Vw) (n : Nat) (inp : List Int) (word : List Rd) : ∀ j, (zl vs n inp word j).2.length = j + 1
 | 0 => rfl
 | j + 1 => by rw [zl, List.length_append, yg vs n inp word j]; rfl
theorem kd (vs : List Vw) (n : Nat) (inp : List Int) (word : List Rd) : ∀ j, (zl vs n inp word j).1.length ≤ vs.length + (j + 1) * n
 | 0 => by rw [zl]; have := ka (fun p => yD p (inp.getD p 0)) vs n; simpa using this
 | j + 1 => by
  have h := kd vs n inp word j
  have h2 := ka (fun p => xO (word.getD j default) (j + 1) p ((zl vs n inp word j).2.getD j [])) (zl vs n inp word j).1 n
  rw [zl, Nat.add_mul (j + 1) 1 n]
  dsimp only
  omega
theorem qz (vs : List Vw) (n : Nat) (inp : List Int) (word : List Rd) : ∀ j, ∀ l ∈ (zl vs n inp word j).2, l.length = n
 | 0, l, h => by rw [zl] at h; simp at h; subst h; exact xg _ _ _
 | j + 1, l, h => by
  rw [zl] at h
  rcases List.mem_append.1 h with h | h
  · exact qz vs n inp word j l h
  · simp at h; subst h; exact xg _ _ _
def zn (p : Pb) : List (Nat × List Rd) := (List.range p.t.cases.length).flatMap fun i => (zy p.a p.k.toNat 0).map fun w => (i, w)
def yL (p : Pb) (i : Nat) : List Int := (p.t.cases.getD i default).inp
def zu (p : Pb) (l : List (Nat × List Rd)) : List Vw × List Exn :=
 l.foldl (fun s x => ((zl s.1 p.t.n.toNat (yL p x.1) x.2 x.2.length).1, s.2 ++ [⟨x.1, x.2, (zl s.1 p.t.n.toNat (yL p x.1) x.2 x.2.length).2⟩])) ([], [])
theorem vt (p : Pb) : zu p [] = ([], []) := rfl
theorem qr (p : Pb) (l : List (Nat × List Rd)) (x : Nat × List Rd) : zu p (l ++ [x]) =
  ((zl (zu p l).1 p.t.n.toNat (yL p x.1) x.2 x.2.length).1, (zu p l).2 ++ [⟨x.1, x.2, (zl (zu p l).1 p.t.n.toNat (yL p x.1) x.2 x.2.length).2⟩]) := by
 unfold zu; rw [List.foldl_append]; rfl
def ql : Sy := ⟨⟨⟨0, 0, 0, []⟩, ⟨0, []⟩, 0⟩, 0, [], []⟩
def zD (p : Pb) : Sy := ⟨p, p.t.n, (zu p (zn p)).1, (zu p (zn p)).2⟩
end
section
open Go.RowKit
def RowX {α : Type} (C : Ct α) (S : Nat → Prop) (w : World) (g : Nat) (xs : List α) : Prop :=
 ∃ arr, w.heap[g]? = some (.cells arr C.K.e (0, 0)) ∧ ∀ (i : Nat) (hi : i < xs.length), ∃ cs, C.lies (fun k => S k ∧ k ≠ g) w cs xs[i] ∧ ∀ j u, cs[j]? = some u → arr[i * C.K.size + j]? = some u
section
variable {α : Type} {C : Ct α} {S S' : Nat → Prop} {w w' : World} {g : Nat} {xs : List α}
theorem RowX.keep (ok : CtOk C) (h : RowX C S w g xs) (hk : KeepB (fun k => S k ∧ k ≠ g) w w') (hg : w'.heap[g]? = w.heap[g]?) : RowX C S w' g xs := by
 obtain ⟨arr, h1, h2⟩ := h
 refine ⟨arr, hg.trans h1, fun i hi => ?_⟩
 obtain ⟨cs, h3, h4⟩ := h2 i hi
 exact ⟨cs, ok.keep h3 hk, h4⟩
theorem RowX.below (ok : CtOk C) {B : Nat} (h : RowX C S w g xs) (hb : Below B w w') (hB : w.heap.size ≤ B) : RowX C S w' g xs :=
 h.keep ok ⟨hb.size, fun k _ hk => hb.block k (by omega)⟩ (hb.block g (by obtain ⟨arr, h1, _⟩ := h; have := zd h1; omega))
theorem RowX.mono (ok : CtOk C) (h : RowX C S w g xs) (hm : ∀ k, k < w.heap.size → S k → S' k) : RowX C S' w g xs := by
 obtain ⟨arr, h1, h2⟩ := h
 refine ⟨arr, h1, fun i hi => ?_⟩
 obtain ⟨cs, h3, h4⟩ := h2 i hi
 exact ⟨cs, ok.mono h3 fun k hk hs => ⟨hm k hk hs.1, hs.2⟩, h4⟩
theorem RowX.lt (h : RowX C S w g xs) : g < w.heap.size := by obtain ⟨arr, h1, _⟩ := h; exact zd h1
theorem RowX.other (ok : CtOk C) (h : RowX C S w g xs) {b : Nat} (o : Nat) (v : Value) (hb : b ≠ g) (hS : ¬ S b) : RowX C S (w.setCell ⟨b, o, none⟩ v) g xs :=
 h.keep ok (KeepB.setCell (fun h => hS h.1) v) (Below.heap_setCell w ⟨b, o, none⟩ v g (fun e => hb e.symm))
theorem RowX.of_own (ok : CtOk C) {base n cap : Nat} {v : Value} {cs : List Value} (h : OwnR C.K w base v n cs) (hv : v = .slice (some ⟨g, 0, none⟩) n cap) (_hn : xs.length = n)
  (hc : ∀ (i : Nat) (hi : i < xs.length), ∃ d, C.lies (fun k => S k ∧ k ≠ g) w d xs[i] ∧ ∀ j u, d[j]? = some u → cs[i * C.K.size + j]? = some u) : RowX C S w g xs := by
 have := ok
 subst hv
 rcases h.2 with ⟨e, _⟩ | ⟨g', cap', cur, e, _, hg, _, _, _, ht⟩
 · cases e
 · cases e
   refine ⟨cur, hg, fun i hi => ?_⟩
   obtain ⟨d, h1, h2⟩ := hc i hi
   refine ⟨d, h1, fun j u hu => ?_⟩
   have h3 := h2 j u hu
   rw [← ht, List.getElem?_take] at h3
   split at h3
   · simpa using h3
   · cases h3
end
theorem RowX.set3 {S : Nat → Prop} {w : World} {g : Nat} {xs : List Cs} (h : RowX cCs S w g xs) {i : Nat} (hi : i < xs.length) {v0 v1 v2 : Value} (hl : cCs.lies (fun k => S k ∧ k ≠ g) w [v0, v1, v2] xs[i]) :
  RowX cCs S (((w.setCell ⟨g, i * 3, none⟩ v0).setCell ⟨g, i * 3 + 1, none⟩ v1).setCell ⟨g, i * 3 + 2, none⟩ v2) g xs := by
 obtain ⟨arr, h1, h2⟩ := h
 have k1 := heap_setCell_same w g (i * 3) arr _ v0 h1
 have k2 := heap_setCell_same _ g (i * 3 + 1) _ _ v1 k1
 have k3 := heap_setCell_same _ g (i * 3 + 2) _ _ v2 k2
 have hk : KeepB (fun k => S k ∧ k ≠ g) w (((w.setCell ⟨g, i * 3, none⟩ v0).setCell ⟨g, i * 3 + 1, none⟩ v1).setCell ⟨g, i * 3 + 2, none⟩ v2) :=
  ((KeepB.setCell (a := ⟨g, i * 3, none⟩) (fun h => h.2 rfl) v0).trans (KeepB.setCell (a := ⟨g, i * 3 + 1, none⟩) (fun h => h.2 rfl) v1)).trans (KeepB.setCell (a := ⟨g, i * 3 + 2, none⟩) (fun h => h.2 rfl) v2)
 refine ⟨_, k3, fun i' hi' => ?_⟩
 by_cases e : i' = i
 · subst e
   obtain ⟨cs, h3, h4⟩ := h2 i' hi'
   have hlen := xu.len h3
   have hb : i' * 3 + 2 < arr.size := by
    have hc2 : 2 < cs.length := by rw [hlen]; show 2 < 3; omega
    have := h4 2 cs[2] (List.getElem?_eq_getElem hc2)
    exact (Array.getElem?_eq_some_iff.1 this).1
   refine ⟨[v0, v1, v2], xu.keep hl hk, fun j u hu => ?_⟩
   change (((arr.setIfInBounds (i' * 3) v0).setIfInBounds (i' * 3 + 1) v1).setIfInBounds (i' * 3 + 2) v2)[i' * 3 + j]? = some u
   match j, hu with
   | 0, hu => cases hu; rw [Array.getElem?_setIfInBounds_ne (by omega), Array.getElem?_setIfInBounds_ne (by omega), Nat.add_zero, Array.getElem?_setIfInBounds_self_of_lt (by omega)]
   | 1, hu => cases hu; rw [Array.getElem?_setIfInBounds_ne (by omega), Array.getElem?_setIfInBounds_self_of_lt (by simp; omega)]
   | 2, hu => cases hu; rw [Array.getElem?_setIfInBounds_self_of_lt (by simp; omega)]
 · obtain ⟨cs, h3, h4⟩ := h2 i' hi'
   refine ⟨cs, xu.keep h3 hk, fun j u hu => ?_⟩
   have hj : j < 3 := by have := (List.getElem?_eq_some_iff.1 hu).1; rw [xu.len h3] at this; exact this
   have h5 := h4 j u hu
   change arr[i' * 3 + j]? = some u at h5
   change (((arr.setIfInBounds (i * 3) v0).setIfInBounds (i * 3 + 1) v1).setIfInBounds (i * 3 + 2) v2)[i' * 3 + j]? = some u
   rw [Array.getElem?_setIfInBounds_ne (by omega), Array.getElem?_setIfInBounds_ne (by omega), Array.getElem?_setIfInBounds_ne (by omega)]
   exact h5
theorem RowX.set1 {α : Type} {C : Ct α} (ok : CtOk C) (h1c : C.K.size = 1) {S : Nat → Prop} {w : World} {g : Nat} {xs : List α} (h : RowX C S w g xs) {i : Nat} (hi : i < xs.length) {v0 : Value} (hl : C.lies (fun k => S k ∧ k ≠ g) w [v0] xs[i]) :
  RowX C S (w.setCell ⟨g, i, none⟩ v0) g xs := by
 obtain ⟨arr, h1, h2⟩ := h
 have k1 := heap_setCell_same w g i arr _ v0 h1
 have hk : KeepB (fun k => S k ∧ k ≠ g) w (w.setCell ⟨g, i, none⟩ v0) := KeepB.setCell (a := ⟨g, i, none⟩) (fun h => h.2 rfl) v0
 refine ⟨_, k1, fun i' hi' => ?_⟩
 obtain ⟨cs, h3, h4⟩ := h2 i' hi'
 have hlen := ok.len h3
 rw [h1c] at hlen
 by_cases e : i' = i
 · subst e
   have hb : i' < arr.size := by
    have := h4 0 cs[0] (List.getElem?_eq_getElem (by omega))
    rw [h1c] at this
    have := (Array.getElem?_eq_some_iff.1 this).1
    omega
   refine ⟨[v0], ok.keep hl hk, fun j u hu => ?_⟩
   have hj : j = 0 := by have := (List.getElem?_eq_some_iff.1 hu).1; simp at this; omega
   subst hj
   cases hu
   rw [h1c, Nat.mul_one, Nat.add_zero, Array.getElem?_setIfInBounds_self_of_lt hb]
 · refine ⟨cs, ok.keep h3 hk, fun j u hu => ?_⟩
   have hj : j = 0 := by have := (List.getElem?_eq_some_iff.1 hu).1; omega
   subst hj
   have h5 := h4 0 u hu
   rw [h1c, Nat.mul_one, Nat.add_zero] at h5 ⊢
   rw [Array.getElem?_setIfInBounds_ne (by omega)]
   exact h5
theorem RowX.cat {S : Nat → Prop} {w : World} {g : Nat} {xs : List Cs} (h : RowX cCs S w g xs) : CAt w w.heap.size (some ⟨g, 0, none⟩) xs := fun _ => by
 obtain ⟨arr, h1, h2⟩ := h
 refine ⟨g, 0, rfl, zd h1, fun i hi => ?_⟩
 obtain ⟨cs, ⟨A0, c0, A1, c1, A2, c2, rfl, hi0, hl1, hl2⟩, h4⟩ := h2 i hi
 refine ⟨_, _, _, ?_, ?_, ?_, ⟨A0, c0, rfl, hi0.iat⟩, ⟨A1, c1, rfl, hl1.lat⟩, ⟨A2, c2, rfl, hl2.lat⟩⟩
 · rw [Nat.zero_add]; exact za h1 _ (h4 0 _ rfl)
 · rw [Nat.zero_add]; exact za h1 _ (h4 1 _ rfl)
 · rw [Nat.zero_add]; exact za h1 _ (h4 2 _ rfl)
theorem RowX.sat {S : Nat → Prop} {w : World} {g : Nat} {xs : List (List Mv)} (h : RowX cMl S w g xs) : SAt w w.heap.size (some ⟨g, 0, none⟩) xs := fun _ => by
 obtain ⟨arr, h1, h2⟩ := h
 refine ⟨g, 0, rfl, zd h1, fun i hi => ?_⟩
 obtain ⟨cs, ⟨A0, c0, rfl, hi0⟩, h4⟩ := h2 i hi
 refine ⟨A0, c0, ?_, hi0.mat⟩
 have := h4 0 _ rfl
 change arr[i * 1 + 0]? = _ at this
 rw [Nat.zero_add]; exact za h1 _ (by rw [← this]; congr 1; omega)
theorem CAt.raw {w : World} {B : Nat} {A : Option Addr} {xs : List Cs} (h : CAt w B A xs) (hB : B ≤ w.heap.size) : ∃ cs : List Value, cs.length = xs.length * 3 ∧ Raw w A xs.length cs ∧ (∀ u ∈ cs, u.oneCell' = true) ∧
  ∀ (i : Nat) (hi : i < xs.length), ∃ d, cCs.lies (fun k => k < B) w d xs[i] ∧ ∀ j u, d[j]? = some u → cs[i * 3 + j]? = some u := by
 have key : ∀ n, n ≤ xs.length → ∃ css : List (List Value), css.length = n ∧ (∀ c ∈ css, c.length = 3 ∧ ∀ u ∈ c, u.oneCell' = true) ∧ ∀ (i : Nat) (hi : i < n) (hx : i < xs.length), ∃ d, css[i]? = some d ∧ cCs.lies (fun k => k < B) w d xs[i] ∧
   ∀ b off, A = some ⟨b, off, none⟩ → ∀ j u, d[j]? = some u → w.cell? ⟨b, off + (i * 3 + j), none⟩ = some u := by
  intro n
  induction n with
  | zero => exact fun _ => ⟨[], rfl, by simp, fun i hi => absurd hi (by omega)⟩
  | succ n ih =>
   intro hn
   obtain ⟨css, c1, c2, c3⟩ := ih (by omega)
   obtain ⟨b, off, A0, k0, A1, k1, A2, k2, e, hb, x0, x1, x2, i0, l1, l2⟩ := h.row n (by omega)
   refine ⟨css ++ [[.slice A0 xs[n].inp.length k0, .slice A1 xs[n].out.length k1, .slice A2 xs[n].calm.length k2]], by simp [c1], ?_, fun i hi hx => ?_⟩
   · intro c hc
     rcases List.mem_append.1 hc with hc | hc
     · exact c2 c hc
     · simp at hc; subst hc
       exact ⟨rfl, fun u hu => by simp at hu; rcases hu with rfl | rfl | rfl <;> rfl⟩
   · by_cases ei : i < n
     · obtain ⟨d, d1, d2⟩ := c3 i ei hx
       exact ⟨d, by rw [List.getElem?_append_left (by omega)]; exact d1, d2⟩
     · obtain rfl : i = n := by omega
       refine ⟨_, by rw [List.getElem?_append_right (by omega), c1, Nat.sub_self]; rfl, ⟨A0, k0, A1, k1, A2, k2, rfl, IAtS.of_iat i0 hB (fun _ h => h), LAtS.of_lat l1 hB (fun _ h => h), LAtS.of_lat l2 hB (fun _ h => h)⟩, fun b' off' e' j u hu => ?_⟩
       rw [e] at e'; cases e'
       match j, hu with
       | 0, hu => cases hu; exact x0
       | 1, hu => cases hu; exact x1
       | 2, hu => cases hu; exact x2
 obtain ⟨css, c1, c2, c3⟩ := key xs.length (Nat.le_refl _)
 have hcs : ∀ c ∈ css, c.length = 3 := fun c hc => (c2 c hc).1
 have hflat : css.flatten.length = xs.length * 3 := by
  rw [List.length_flatten, ← c1]
  clear c3 c1
  induction css with
  | nil => rfl
  | cons c css ih => simp only [List.map_cons, List.sum_cons, List.length_cons]; rw [ih (fun d hd => c2 d (by simp [hd])) (fun d hd => hcs d (by simp [hd])), hcs c (by simp)]; omega
 refine ⟨css.flatten, hflat, fun h0 => ?_, fun u hu => ?_, fun i hi => ?_⟩
 · obtain ⟨b, off, e, hb, _⟩ := h h0
   refine ⟨b, off, e, by omega, fun j u hj => ?_⟩
   have hjl : j < xs.length * 3 := by rw [← hflat]; exact (List.getElem?_eq_some_iff.1 hj).1
   have hi' : j / 3 < xs.length := by omega
   obtain ⟨d, d1, _, d3⟩ := c3 (j / 3) hi' hi'
   have h8 : j / 3 * 3 + j % 3 = j := by omega
   have h9 := ws css hcs (j / 3) (by omega) (j % 3) (by omega)
   rw [h8, hj] at h9
   obtain ⟨_, d4⟩ := List.getElem?_eq_some_iff.1 d1
   rw [d4] at h9
   have := d3 b off e (j % 3) u h9.symm
   rwa [h8] at this
 · obtain ⟨c, hc, hu⟩ := List.mem_flatten.1 hu
   exact (c2 c hc).2 u hu
 · obtain ⟨d, d1, d2, _⟩ := c3 i hi hi
   refine ⟨d, d2, fun j u hu => ?_⟩
   have hj : j < 3 := by have := (List.getElem?_eq_some_iff.1 hu).1; rw [xu.len d2] at this; exact this
   obtain ⟨d5, d4⟩ := List.getElem?_eq_some_iff.1 d1
   rw [ws css hcs i d5 j hj, d4]; exact hu
theorem SAt.raw {w : World} {B : Nat} {A : Option Addr} {xs : List (List Mv)} (h : SAt w B A xs) (hB : B ≤ w.heap.size) : ∃ cs : List Value, cs.length = xs.length * 1 ∧ Raw w A xs.length cs ∧ (∀ u ∈ cs, u.oneCell' = true) ∧
  ∀ (i : Nat) (hi : i < xs.length), ∃ d, cMl.lies (fun k => k < B) w d xs[i] ∧ ∀ j u, d[j]? = some u → cs[i * 1 + j]? = some u := by
 have key : ∀ n, n ≤ xs.length → ∃ cs : List Value, cs.length = n ∧ (∀ u ∈ cs, u.oneCell' = true) ∧ ∀ (i : Nat) (hi : i < n) (hx : i < xs.length), ∃ A' c, cs[i]? = some (.slice A' xs[i].length c) ∧ MAtS (fun k => k < B) w A' xs[i] ∧
   ∀ b off, A = some ⟨b, off, none⟩ → w.cell? ⟨b, off + i, none⟩ = some (.slice A' xs[i].length c) := by
  intro n
  induction n with
  | zero => exact fun _ => ⟨[], rfl, by simp, fun i hi => absurd hi (by omega)⟩
  | succ n ih =>
   intro hn
   obtain ⟨cs, c1, c2, c3⟩ := ih (by omega)
   obtain ⟨b, off, A', c, e, hb, x0, m0⟩ := h.at_ n (by omega)
   refine ⟨cs ++ [.slice A' xs[n].length c], by simp [c1], ?_, fun i hi hx => ?_⟩
   · intro u hu
     rcases List.mem_append.1 hu with hu | hu
     · exact c2 u hu
     · simp at hu; subst hu; rfl
   · by_cases ei : i < n
     · obtain ⟨A2, k2, d1, d2⟩ := c3 i ei hx
       exact ⟨A2, k2, by rw [List.getElem?_append_left (by omega)]; exact d1, d2⟩
     · obtain rfl : i = n := by omega
       refine ⟨A', c, by rw [List.getElem?_append_right (by omega), c1, Nat.sub_self]; rfl, MAtS.of_mat m0 hB (fun _ h => h), fun b' off' e' => ?_⟩
       rw [e] at e'; cases e'; exact x0
 obtain ⟨cs, c1, c2, c3⟩ := key xs.length (Nat.le_refl _)
 refine ⟨cs, by omega, fun h0 => ?_, c2, fun i hi => ?_⟩
 · obtain ⟨b, off, e, hb, _⟩ := h h0
   refine ⟨b, off, e, by omega, fun j u hj => ?_⟩
   have hjl : j < xs.length := by rw [← c1]; exact (List.getElem?_eq_some_iff.1 hj).1
   obtain ⟨A', c, d1, _, d3⟩ := c3 j hjl hjl
   rw [hj] at d1; cases d1
   exact d3 b off e
 · obtain ⟨A', c, d1, d2, _⟩ := c3 i hi hi
   refine ⟨[.slice A' xs[i].length c], ⟨A', c, rfl, d2⟩, fun j u hu => ?_⟩
   have hj : j = 0 := by have := (List.getElem?_eq_some_iff.1 hu).1; simp at this; omega
   subst hj
   cases hu
   rw [Nat.mul_one, Nat.add_zero]; exact d1
end
section
open Go.RowKit
attribute [local go_sem] Oper.semAt_some
theorem Yj (w : World) (c1 : Array Value) (t1 : TypeId) : ∃ W0, (w.alloc (.cells c1 t1)).drew = W0 ∧ W0.heap[w.heap.size]? = some (.cells c1 t1 (0, 0)) ∧ W0.heap.size = w.heap.size + 1 ∧ Below w.heap.size w W0 :=
 ⟨_, rfl, zh w _, by show (w.alloc _).heap.size = _; simp, (zI w _).drew⟩
def yJ (pre : List Rd) (l : List (List Rd)) : List (List Rd) := l.map (pre ++ ·)
theorem Q7 (pre : List Rd) : yJ pre [[]] = [pre] := by simp [yJ]
theorem X0 (pre : List Rd) (r : Rd) (l : List (List Rd)) : yJ pre (l.map (r :: ·)) = yJ (pre ++ [r]) l := by simp [yJ]
def yd (a : Ad) (k : Nat) (M : List Mv) (j : Nat) : List (List Rd) := (M.take j).flatMap fun m => (zy a k m.to).map (m.r :: ·)
theorem vm (a : Ad) (k : Nat) (M : List Mv) : yd a k M 0 = [] := by simp [yd]
theorem qn (a : Ad) (k : Nat) (M : List Mv) {j : Nat} (h : j < M.length) : yd a k M (j + 1) = yd a k M j ++ (zy a k M[j].to).map (M[j].r :: ·) := by
 unfold yd; rw [List.take_succ_eq_append_getElem h, List.flatMap_append]; simp
theorem uy (a : Ad) (k : Nat) {s : Nat} (h : s < a.sts.length) : yd a k a.sts[s] a.sts[s].length = zy a (k + 1) (s : Int) := by
 unfold yd
 rw [zy, List.take_length, show a.at_ (s : Int) = a.sts[s] by unfold Ad.at_; rw [Int.toNat_natCast, List.getD_eq_getElem?_getD, List.getElem?_eq_getElem h]; rfl]
theorem ux (a : Ad) (k : Nat) (M : List Mv) (j : Nat) : (yd a k M j).length ≤ (yd a k M M.length).length := by
 unfold yd
 rw [List.take_length]
 conv => rhs; rw [← List.take_append_drop j M, List.flatMap_append, List.length_append]
 omega
def Fx (bR bO bA bF g k : Nat) : Prop := k ≠ bR ∧ k ≠ bO ∧ k ≠ bA ∧ k ≠ bF ∧ k ≠ g
structure FromIn (a : Ad) (K : Nat) (SV : Option Addr) (ks B bR bO bA bF g : Nat) (V : Value) (pre : List Rd) (outs : List (List Rd)) (w0 w : World) : Prop where
 hR : w.heap[bR]? = some (.cells #[.int .i64 K] 3 (0, 0))
 hO : w.heap[bO]? = some (.cells #[V] 209 (0, 0))
 hA : w.heap[bA]? = some (.cells #[.int .i64 a.n, .slice SV a.sts.length ks] 27 (0, 0))
 hF : w.heap[bF]? = some (.cells #[.func (.func 167) #[] #[.pointer (some ⟨bR, 0, none⟩), .pointer (some ⟨bO, 0, none⟩), .pointer (some ⟨bA, 0, none⟩), .pointer (some ⟨bF, 0, none⟩)]] 247 (0, 0))
 out : OwnX cWd (Fx bR bO bA bF g) w B V outs
 ne : ∀ k, V.ownBlock = some k → Fx bR bO bA bF g k
 buf : OwnR kRd w B (.slice (some ⟨g, 0, none⟩) pre.length K) pre.length (yt pre)
 bel : Below B w0 w
theorem FromIn.fresh {a : Ad} {K : Nat} {SV : Option Addr} {ks B bR bO bA bF g : Nat} {V : Value} {pre : List Rd} {outs : List (List Rd)} {w0 w : World} (H : FromIn a K SV ks B bR bO bA bF g V pre outs w0 w) {k : Nat} (hk : w.heap.size ≤ k) : Fx bR bO bA bF g k := by
 have h1 := zd H.hR
 have h2 := zd H.hO
 have h3 := zd H.hA
 have h4 := zd H.hF
 have h5 := (H.buf.lt g rfl).2
 exact ⟨by omega, by omega, by omega, by omega, by omega⟩
structure FromB (B bR bO bA bF g : Nat) : Prop where
 r : B ≤ bR
 o : B ≤ bO
 a : B ≤ bA
 f : B ≤ bF
 ro : bR ≠ bO
 ao : bA ≠ bO
 fo : bF ≠ bO
 gr : g ≠ bR
 go : g ≠ bO
 ga : g ≠ bA
 gf : g ≠ bF
 g : B ≤ g
def vN (a : Ad) (K : Nat) (SV : Option Addr) (ks k : Nat) : Prop := ∀ (s : Int) (pre : List Rd) (outs : List (List Rd)) (V : Value) (B bR bO bA bF g : Nat) (w0 w : World),
 pre.length + k = K → (k = 0 ∨ (0 ≤ s ∧ s < a.sts.length)) → outs.length + (zy a k s).length ≤ 5000 → FromB B bR bO bA bF g → SAt w0 B SV a.sts → FromIn a K SV ks B bR bO bA bF g V pre outs w0 w →
 Calls Tryz.prog 167 #[.int .i64 s, .slice (some ⟨g, 0, none⟩) pre.length K, .pointer (some ⟨bR, 0, none⟩), .pointer (some ⟨bO, 0, none⟩), .pointer (some ⟨bA, 0, none⟩), .pointer (some ⟨bF, 0, none⟩)] w
  fun e w' => (∃ v, e = .returned v) ∧ ∃ V', FromIn a K SV ks B bR bO bA bF g V' pre (outs ++ yJ pre (zy a k s)) w0 w'
theorem FromIn.push {a : Ad} {K : Nat} {SV : Option Addr} {ks B bR bO bA bF g : Nat} {V : Value} {pre : List Rd} {outs : List (List Rd)} {w0 w W w3 : World} {x : List Rd} {css : List (List Value)} {A2 : Option Addr} {c2 g' cap : Nat}
  (H : FromIn a K SV ks B bR bO bA bF g V pre outs w0 w) (hB : FromB B bR bO bA bF g) (hw : Below w.heap.size w W) (hl : css.length = outs.length)
  (h3 : ∀ (i : Nat) (h1 : i < css.length) (h2 : i < outs.length), cWd.lies (fun k => Fx bR bO bA bF g k ∧ V.ownBlock ≠ some k) W css[i] outs[i])
  (hx : RAtS (fun k => w.heap.size ≤ k) W A2 x) (hr : OwnR kWd w3 B (.slice (some ⟨g', 0, none⟩) (outs.length + 1) cap) (outs.length + 1) (css.flatten ++ [.slice A2 x.length c2]))
  (hg : W.grownBy w3 V.ownBlock) (hat : V.ownBlock = some g' ∨ g' = W.heap.size) :
  FromIn a K SV ks B bR bO bA bF g (.slice (some ⟨g', 0, none⟩) (outs.length + 1) cap) pre (outs ++ [x]) w0 (w3.setCell ⟨bO, 0, none⟩ (.slice (some ⟨g', 0, none⟩) (outs.length + 1) cap)) := by
 have hlt := H.out.lt
 have hgw : g < w.heap.size := (H.buf.lt g rfl).2
 have hws := hw.size
 have k1 := zd H.hR
 have k2 := zd H.hO
 have k3 := zd H.hA
 have k4 := zd H.hF
 have hk : ∀ b, b < w.heap.size → V.ownBlock ≠ some b → b ≠ bO → (w3.setCell ⟨bO, 0, none⟩ (.slice (some ⟨g', 0, none⟩) (outs.length + 1) cap)).heap[b]? = w.heap[b]? := fun b h1 h0 h2 =>
  (Below.heap_setCell _ _ _ b h2).trans ((hg.block b (by omega) (fun e => h0 e.symm)).trans (hw.block b h1))
 have ho3 : w3.heap[bO]? = some (.cells #[V] 209 (0, 0)) := (hg.block bO (by omega) (fun e => (H.ne bO e.symm).2.1 rfl)).trans ((hw.block bO (by omega)).trans H.hO)
 obtain ⟨x1, x2, x3⟩ := kD ho3 (.slice (some ⟨g', 0, none⟩) (outs.length + 1) cap)
 have hX : cWd.lies (fun k => Fx bR bO bA bF g k ∧ V.ownBlock ≠ some k) W [.slice A2 x.length c2] x := ⟨A2, c2, rfl, hx.mono fun k _ hk => ⟨H.fresh hk, fun e => by have := (hlt k e).2; omega⟩⟩
 have hO := OwnX.app qa hl h3 hX hr hg hat
 have hge : B ≤ g' ∧ g' < w3.heap.size := hr.lt g' rfl
 have hfx : Fx bR bO bA bF g g' := by
  rcases hat with e | e
  · exact H.ne g' e
  · exact H.fresh (by omega)
 have hvg : V.ownBlock ≠ some g := fun e => (H.ne g e).2.2.2.2 rfl
 refine ⟨(hk _ k1 (fun e => (H.ne _ e).1 rfl) hB.ro).trans H.hR, x1, (hk _ k3 (fun e => (H.ne _ e).2.2.1 rfl) hB.ao).trans H.hA, (hk _ k4 (fun e => (H.ne _ e).2.2.2.1 rfl) hB.fo).trans H.hF, ?_, ?_, ?_, ?_⟩
 · refine hO.kept qa (yc w3 bO 0 _) (.inr (fun e => ?_)) (fun k e => .inl fun hs => ?_)
   · have e2 : g' = bO := by simpa [Value.ownBlock] using e
     exact hfx.2.1 e2
   · cases e
     exact hs.2.1 rfl
 · intro k e
   have e2 : g' = k := by simpa [Value.ownBlock] using e
   subst e2
   exact hfx
 · refine ((H.buf.below hw (Nat.le_refl _)).kept hg (.inr (fun e => hvg e.symm))).kept (yc w3 bO 0 _) (.inr (fun e => ?_))
   have e2 : g = bO := by simpa [Value.ownBlock] using e
   exact hB.go e2
 · have h1 := hB.o
   have h2 := hB.g
   exact ((H.bel.trans (hw.mono (by omega))).grown hg (by omega) (fun k hk => (hlt k hk).1)).setCell (by show B ≤ bO; omega) _
set_option maxRecDepth 100000 in
theorem from_zero (a : Ad) (K : Nat) (hK : K ≤ 6) (SV : Option Addr) (ks : Nat) : vN a K SV ks 0 := by
 intro s pre outs V B bR bO bA bF g w0 w hpk _ hlen hB hS H
 obtain rfl : K = pre.length := by omega
 have hlen : outs.length ≤ 5000 := by omega
 have HI := zH H
 have HBB := zH hB
 have r0 := za H.hR 0 rfl
 have o0 := za H.hO 0 rfl
 have e0 : ((pre.length : Int) == (pre.length : Int)) = true := by simp
 have hraw : Raw w.drew (some ⟨g, 0, none⟩) pre.length (yt pre) := by
  obtain ⟨A, cap, e, _, _, h⟩ := H.buf.raw
  cases e; exact h
 have HC := zH (ZV (some ⟨g, 0, none⟩) pre.length pre.length (yt pre) w.drew (xh pre) hraw (j7 pre) (by omega))
 clear H hB hS hraw
 go_enter Tryz.func167, Tryz.ntmps167
 go_wp2_with fail
 refine zr [(0, true), (1, true), (2, false), (3, false), (4, false), (5, false)] (fun W => W.cell? ⟨bO, 0, none⟩ = some V) (by kernel_rfl) (by kernel_rfl) (by exact o0) ?_
 repeat
  apply zA rfl
  · intro K' hK' W hW
    go_simp
    exact hK'
 refine zC rfl ?_
 intro K' hK'
 go_simp
 refine HC.out.mono ?_
 rintro e w2 ⟨v2, rfl, ho2, hb2⟩
 obtain ⟨A2, c2, rfl, hc2, hm2, hl2⟩ := jZ ho2
 have hb2 : Below w.heap.size w w2 := XZ hb2
 have hl2 : RAtS (fun k => w.heap.size ≤ k) w2 A2 pre := hl2
 have HOl := HI.out.hO
 have o2 : w2.cell? ⟨bO, 0, none⟩ = some V := (hb2.cell (p := ⟨bO, 0, none⟩) (zd HOl)).trans o0
 refine hK' _ _ o2 ?_
 refine zC rfl ?_
 clear hK' K'
 intro K' hK'
 go_simp
 have hbO2 : bO < w2.heap.size := by have := zd HOl; have := hb2.size; omega
 refine hK' _ _ ((World.cell?_alloc_lt _ _ _ hbO2).trans o2) ?_
 refine zC rfl ?_
 clear hK' K'
 intro K' hK'
 obtain ⟨W2, hW2⟩ : ∃ W2, w2.alloc (.cells #[.slice A2 pre.length c2] 91) = W2 := ⟨_, rfl⟩
 have hg2 := zh w2 (.cells #[.slice A2 pre.length c2] 91)
 have hB2 : Below w.heap.size w W2 := by rw [← hW2]; exact hb2.alloc hb2.size _
 have hL2 : RAtS (fun k => w.heap.size ≤ k) W2 A2 pre := by rw [← hW2]; exact hl2.keep (KeepB.alloc _ _ _)
 rw [hW2] at hg2 ⊢
 obtain ⟨css, hcl, hcr, hcs⟩ := HI.out.out.below qa hB2 (Nat.le_refl _)
 have hbs : B ≤ W2.heap.size := by have := HBB.out.g; have := (HI.out.buf.lt g rfl).2; have := hB2.size; omega
 refine JX QM (by rfl) (.tmp 14) (.tmp 17) (by rfl) B V outs.length css.flatten (by rfl) hcr w2.heap.size #[.slice A2 pre.length c2] (by rfl) hg2 rfl (by simp [Value.oneCell']) (by omega) hbs _ rfl ?_
 intro g' cap w3 hr hgrow hat hlt3
 have o3 : w3.cell? ⟨bO, 0, none⟩ = some V := by
  refine (World.cell?_of_block (hgrow.block bO (by have := zd HOl; have := hB2.size; omega) (fun e => ?_))).trans ((hB2.cell (p := ⟨bO, 0, none⟩) (zd HOl)).trans o0)
  exact (HI.out.ne bO e.symm).2.1 rfl
 have f3 : w3.frozen? ⟨bO, 0, none⟩ = false := by
  refine zb (cs := #[V]) (t := 209) ((hgrow.block bO (by have := zd HOl; have := hB2.size; omega) (fun e => ?_)).trans ((hB2.block bO (zd HOl)).trans HOl)) 0
  exact (HI.out.ne bO e.symm).2.1 rfl
 have HP := zH (HI.out.push HBB.out hB2 hcl hcs hL2 hr hgrow hat)
 refine hK' _ _ o3 ?_
 refine yW rfl (by kernel_rfl) ?_
 clear hK' K' hr hgrow hat hcr hcs hL2 hl2 ho2
 intro K' hK'
 go_simp
 refine hK' (fun _ => True) _ _ trivial ?_
 refine zG ?_
 clear hK' K'
 go_simp
 go_wp2_with fail
 refine bodyPost_ret (results_none rfl _ _ _) rfl ?_
 refine ⟨⟨.tuple #[], rfl⟩, .slice (some ⟨g', 0, none⟩) (outs.length + 1) cap, ?_⟩
 rw [show zy a 0 s = [[]] from rfl, Q7]
 exact HP.out
theorem FromIn.ext {a : Ad} {K : Nat} {SV : Option Addr} {ks B bR bO bA bF g : Nat} {V : Value} {pre : List Rd} {outs : List (List Rd)} {w0 w W w4 : World} {r : Rd}
  (H : FromIn a K SV ks B bR bO bA bF g V pre outs w0 w) (hB : FromB B bR bO bA bF g) (hw : Below w.heap.size w W)
  (hr : OwnR kRd w4 B (.slice (some ⟨g, 0, none⟩) (pre.length + 1) K) (pre.length + 1) (yt pre ++ r.cells.toList)) (hg : W.grownBy w4 (some g)) :
  FromIn a K SV ks B bR bO bA bF g V (pre ++ [r]) outs w0 w4 := by
 have hgw : g < w.heap.size := (H.buf.lt g rfl).2
 have hws := hw.size
 have k1 := zd H.hR
 have k2 := zd H.hO
 have k3 := zd H.hA
 have k4 := zd H.hF
 have hk : ∀ b, b < w.heap.size → g ≠ b → w4.heap[b]? = w.heap[b]? := fun b h1 h2 => (hg.block b (by omega) (fun e => by cases e; exact h2 rfl)).trans (hw.block b h1)
 have hvg : V.ownBlock ≠ some g := fun e => (H.ne g e).2.2.2.2 rfl
 refine ⟨(hk _ k1 hB.gr).trans H.hR, (hk _ k2 hB.go).trans H.hO, (hk _ k3 hB.ga).trans H.hA, (hk _ k4 hB.gf).trans H.hF, ?_, H.ne, ?_, ?_⟩
 · exact (H.out.below qa hw (Nat.le_refl _)).kept qa hg (.inr hvg) (fun k e => .inl fun hs => hs.2.2.2.2 (by cases e; rfl))
 · rw [List.length_append, jP]; exact hr
 · have := hB.g
   exact (H.bel.trans (hw.mono (by omega))).grown hg (by omega) (fun k hk => by cases hk; omega)
theorem FromIn.cut {a : Ad} {K : Nat} {SV : Option Addr} {ks B bR bO bA bF g : Nat} {V : Value} {pre : List Rd} {outs : List (List Rd)} {w0 w : World} {r : Rd}
  (H : FromIn a K SV ks B bR bO bA bF g V (pre ++ [r]) outs w0 w) : FromIn a K SV ks B bR bO bA bF g V pre outs w0 w := by
 refine ⟨H.hR, H.hO, H.hA, H.hF, H.out, H.ne, ?_, H.bel⟩
 have h := H.buf
 rw [jP, List.length_append] at h
 exact h.pop (xh pre)
theorem Q8 (pre : List Rd) (l : List (List Rd)) : (yJ pre l).length = l.length := by simp [yJ]
theorem Zs (pre : List Rd) (l m : List (List Rd)) : yJ pre (l ++ m) = yJ pre l ++ yJ pre m := by simp [yJ]
set_option maxRecDepth 100000 in
theorem from_succ (a : Ad) (K : Nat) (SV : Option Addr) (ks k : Nat) (hz : zv a a.sts = 0) (hf : FewA a) (ih : vN a K SV ks k) : vN a K SV ks (k + 1) := by
 intro s pre outs V B bR bO bA bF g w0 w hpk hs0 hlen hB hS H
 have hs : 0 ≤ s ∧ s < a.sts.length := hs0.resolve_left (by omega)
 obtain ⟨S, rfl⟩ := Int.eq_ofNat_of_zero_le hs.1
 have hSl : S < a.sts.length := by omega
 have HI := zH H
 have HBB := zH hB
 have HIH := zH ih
 have HST := zH hS
 have HZ := zH (@xk a hz)
 have hm40 := hf.each (List.getElem_mem hSl)
 have HWE := zH (uy a k hSl)
 have HLN := zH hlen
 have HML := zH (fun (m : Mv) (hm : m ∈ a.sts[S]) => (List.mem_flatten.2 ⟨_, List.getElem_mem hSl, hm⟩ : m ∈ a.mvs))
 have r0 := za H.hR 0 rfl
 have a1 := za H.hA 1 rfl
 obtain ⟨bs, os, A', cs', hSV, hbs, s0, hMA⟩ := (hS.keep H.bel).at_ S hSl
 have hsv : SV.map (fun x => x) = some ⟨bs, os, none⟩ := by rw [hSV]; rfl
 have HMA : Hid (∀ W, Below B w0 W → MAt W B A' a.sts[S]) := by
  intro W hW
  obtain ⟨bs2, os2, A2, cs2, hSV2, _, s2, hM2⟩ := (hS.keep hW).at_ S hSl
  rw [hSV] at hSV2
  cases hSV2
  have e1 := (hS.keep H.bel).at_ S hSl
  obtain ⟨bs3, os3, A3, cs3, hSV3, hbs3, s3, hM3⟩ := hS.at_ S hSl
  rw [hSV] at hSV3
  cases hSV3
  have x1 := (H.bel.cell (p := ⟨bs, os + S, none⟩) hbs3).trans s3
  have x2 := (hW.cell (p := ⟨bs, os + S, none⟩) hbs3).trans s3
  rw [x1] at s0
  cases s0
  exact hM3.keep hW
 clear hsv hMA hS
 subst hSV
 obtain ⟨M, hM⟩ : ∃ M, a.sts[S] = M := ⟨_, rfl⟩
 rw [hM] at s0 HMA HWE HML hm40
 have e0 : ((pre.length : Int) == (K : Int)) = false := by simp; omega
 have hs1 : (S : Int) < (a.sts.length : Int) := by omega
 have hs2 : (0 : Int) ≤ (S : Int) := by omega
 clear H hB hM hz hf ih hs hs0
 go_enter Tryz.func167, Tryz.ntmps167
 go_wp2_with fail
 clear r0 a1 s0 e0
 go_loopw [25] (fun i wr => ∃ (j : Nat) (V' : Value), j ≤ M.length ∧ i = .int .i64 (j : Int) ∧ Hid (FromIn a K (some ⟨bs, os, none⟩) ks B bR bO bA bF g V' pre (outs ++ yJ pre (yd a k M j)) w0 wr)) (fun i _ => M.length - (intOf i).toNat)
 case atStart => exact ⟨0, V, by omega, rfl, by rw [vm, show yJ pre [] = [] from rfl, List.append_nil]; exact HI.out⟩
 case round =>
  obtain ⟨j, V', hj, rfl, HJ⟩ := hrel
  by_cases hjl : j < M.length
  case neg =>
   obtain rfl : j = M.length := by omega
   go_wp2_with fail
   go_end0
   refine ⟨⟨.tuple #[], rfl⟩, V', ?_⟩
   rw [← HWE.out]
   exact HJ.out
  case pos =>
   obtain ⟨bm, om, e1, hbm, m0, m1, m2, m3, m4, m5, m6, m7⟩ := (HMA.out _ HJ.out.bel).row j hjl
   subst e1
   have hj0 : (0 : Int) ≤ (j : Int) := by omega
   have hj1 : (j : Int) < (M.length : Int) := by omega
   have HF := HJ.out.hF
   have f0 := za HF 0 rfl
   have hbFl : bF < wr.heap.size := zd HF
   have hmm := HML.out M[j] (List.getElem_mem hjl)
   obtain ⟨z1, z2, z3, z4⟩ := HZ.out _ hmm
   have hstep := zH (qn a k M hjl)
   have hlen2 := ux a k M (j + 1)
   rw [qn a k M hjl, List.length_append, List.length_map] at hlen2
   obtain ⟨m, hme⟩ : ∃ m, M[j] = m := ⟨_, rfl⟩
   rw [hme] at m0 m1 m2 m3 m4 m5 m6 m7 hmm z1 z2 z3 z4 hstep hlen2
   have hl5 : (outs ++ yJ pre (yd a k M j)).length + (zy a k m.to).length ≤ 5000 := by
    have := HLN.out
    rw [← HWE.out] at this
    rw [List.length_append, Q8]; omega
   have HL5 := zH hl5
   have HZ3 := zH z3
   have HZ4 := zH z4
   clear hme hlen2 z1 z2 z3 z4 hl5 hmm HML HZ HLN HI HMA HWE
   go_wp2_with fail
   clear m0 m1 m2 m3 m4 m5 m6 m7
   obtain ⟨W1, hW1, g0, hsz1, hB1⟩ := zi wr m.cells 200
   unfold Mv.cells at hW1
   rw [hW1]
   clear hW1
   have f1 := (hB1.cell (p := ⟨bF, 0, none⟩) hbFl).trans f0
   have hgl := (HJ.out.buf.lt g rfl).2
   have hgf := HBB.out.gf
   have hpK : pre.length + 1 ≤ K := by omega
   have hpk2 : (pre ++ [m.r]).length + k = K := by rw [List.length_append, List.length_singleton]; omega
   have hGN : wr.heap.size < W1.heap.size := by omega
   have hD := zH g0
   refine zr [(0, true), (1, true), (2, true), (3, true), (4, true), (5, true), (6, false), (7, false), (8, false)]
    (fun W => W.cell? ⟨bF, 0, none⟩ = some (.func (.func 167) #[] #[.pointer (some ⟨bR, 0, none⟩), .pointer (some ⟨bO, 0, none⟩), .pointer (some ⟨bA, 0, none⟩), .pointer (some ⟨bF, 0, none⟩)]) ∧ W.heap[wr.heap.size]? = some (.cells m.cells 200 (0, 0)))
    (by kernel_rfl) (by kernel_rfl) ⟨f1, g0⟩ ?_
   clear f0
   repeat
    apply zA rfl
    · rintro K' hK' W ⟨y0, y1⟩
      have g1 : W.cell? ⟨wr.heap.size, 0, none⟩ = some (.int .i64 m.r.n) := za y1 0 rfl
      have g2 : W.cell? ⟨wr.heap.size, 1, none⟩ = some (.int .i64 m.r.h0) := za y1 1 rfl
      have g3 : W.cell? ⟨wr.heap.size, 2, none⟩ = some (.int .i64 m.r.h1) := za y1 2 rfl
      have g4 : W.cell? ⟨wr.heap.size, 3, none⟩ = some (.int .i64 m.r.h2) := za y1 3 rfl
      have g5 : W.cell? ⟨wr.heap.size, 4, none⟩ = some (.int .i64 m.r.h3) := za y1 4 rfl
      have g6 : W.cell? ⟨wr.heap.size, 5, none⟩ = some (.int .i64 m.r.h4) := za y1 5 rfl
      have g7 : W.cell? ⟨wr.heap.size, 6, none⟩ = some (.int .i64 m.r.f) := za y1 6 rfl
      have g8 : W.cell? ⟨wr.heap.size, 7, none⟩ = some (.int .i64 m.to) := za y1 7 rfl
      clear y1
      go_simp
      exact hK'
   refine zC rfl ?_
   intro K' hK'
   go_simp
   obtain ⟨W2, hW2, d0, hsz2, hB2'⟩ := Yj W1 m.r.cells 172
   unfold Rd.cells at hW2
   rw [hW2]
   have g2 := (hB2'.block _ hGN).trans hD.out
   have f2 := (hB2'.cell (p := ⟨bF, 0, none⟩) (by show bF < W1.heap.size; omega)).trans f1
   refine hK' _ _ ⟨f2, g2⟩ ?_
   clear hK' K' hW2
   have hBW : Below wr.heap.size wr W2 := hB1.trans (hB2'.mono (by omega))
   refine zC rfl ?_
   intro K' hK'
   rw [if_pos (by rfl)]
   refine wp_fitR Yu (.tmp 32) (.tmp 35) (by rfl) B g pre.length K (yt pre) (by rfl) (HJ.out.buf.below hBW (Nat.le_refl _)) (wr.heap.size + 1) m.r.cells (by rfl) (hsz1 ▸ d0) rfl (by simp [Rd.cells, Value.oneCell']) hpK ?_
   intro W3 hr hgr
   have hB3 : Below W1.heap.size W1 W3 ∨ True := .inr trivial
   have HX := zH (HJ.out.ext HBB.out hBW hr hgr)
   have g3 := (hgr.block _ (by omega) (fun e => by cases e; omega)).trans g2
   have f3 := (World.cell?_of_block (hgr.block bF (by omega) (fun e => by cases e; exact hgf rfl))).trans f2
   refine hK' _ _ ⟨f3, g3⟩ ?_
   clear hK' K' hr hgr hB3 f1 f2 g2 g3 d0
   refine yW rfl (by kernel_rfl) ?_
   intro K' hK'
   go_simp
   have HC := HIH.out m.to (pre ++ [m.r]) (outs ++ yJ pre (yd a k M j)) V' B bR bO bA bF g w0 W3 hpk2 (.inr ⟨HZ3.out, HZ4.out⟩) HL5.out HBB.out HST.out HX.out
   rw [List.length_append, List.length_singleton] at HC
   refine HC.mono ?_
   rintro e w4 ⟨⟨v4, rfl⟩, V4, H4⟩
   have H5 := zH H4.cut
   rw [List.append_assoc, ← X0, ← Zs, ← hstep.out] at H5
   refine hK' (fun _ => True) _ _ trivial ?_
   refine zG ?_
   clear hK' K' HC H4
   go_wp2_with fail
   go_roundw
   case rel => exact ⟨j + 1, V4, by omega, by go_num, H5⟩
   case measure => simp [intOf]; omega
theorem XI (a : Ad) (K : Nat) (hK : K ≤ 6) (SV : Option Addr) (ks : Nat) (hz : zv a a.sts = 0) (hf : FewA a) : ∀ k, vN a K SV ks k
 | 0 => from_zero a K hK SV ks
 | k + 1 => from_succ a K SV ks k hz hf (XI a K hK SV ks hz hf k)
end
section
open Go.RowKit
attribute [local go_sem] Oper.semAt_some
theorem grow_grow {W w w' : World} {r r' : Option Nat} (h : W.grownBy w r) (hg : w.grownBy w' r') (hr : ∀ k, r' = some k → k < W.heap.size → r = some k) : W.grownBy w' r :=
 ⟨hg.os.trans h.os, hg.tape.trans h.tape, hg.output.trans h.output, Nat.le_trans h.size hg.size, fun k hk hn => (hg.block k (Nat.lt_of_lt_of_le hk h.size) (fun e => hn (hr k e.symm hk).symm)).trans (h.block k hk hn)⟩
theorem QS {W w w' : World} {r : Option Nat} (h : W.grownBy w r) (hb : Below w.heap.size w w') : W.grownBy w' r :=
 ⟨hb.os.trans h.os, hb.tape.trans h.tape, hb.output.trans h.output, Nat.le_trans h.size hb.size, fun k hk hn => (hb.block k (Nat.lt_of_lt_of_le hk h.size)).trans (h.block k hk hn)⟩
def kz (a : Ad) (SV : Option Addr) (ks k : Nat) : Prop := ∀ (s : Int) (w : World), (k = 0 ∨ (0 ≤ s ∧ s < a.sts.length)) → (zy a k s).length ≤ 5000 → SAt w w.heap.size SV a.sts →
 Calls Tryz.prog 190 #[.agg #[.int .i64 a.n, .slice SV a.sts.length ks], .int .i64 s, .int .i64 k] w fun e w' => ∃ v, e = .returned v ∧ OwnX cWd (fun b => w.heap.size ≤ b) w' w.heap.size v (zy a k s) ∧ Below w.heap.size w w'
set_option maxRecDepth 100000 in
theorem QU (a : Ad) (SV : Option Addr) (ks : Nat) : kz a SV ks 0 := by
 intro s w _ _ _
 go_enter Tryz.func190, Tryz.ntmps190
 go_wp2_with fail
 obtain ⟨w1, hw1, d0, d1, hs1, hBw⟩ := yj w #[.int .i64 a.n, .slice SV a.sts.length ks] #[.slice none 0 0] 27 91
 rw [hw1]
 go_ret
 refine ⟨_, rfl, ⟨[[.slice none 0 0]], rfl, ?_, ?_⟩, hBw⟩
 · exact OwnR.of_block (K := kWd) (n := 1) d1 (by omega) rfl (by unfold maxLen; omega)
 · intro i h1 h2
   obtain rfl : i = 0 := by simp at h1; omega
   exact ⟨none, 0, rfl, RAtS.nil _ _ _⟩
set_option maxRecDepth 100000 in
theorem QV (a : Ad) (SV : Option Addr) (ks k : Nat) (hk6 : k ≤ 6) (hz : zv a a.sts = 0) (hf : FewA a) (ih : kz a SV ks k) : kz a SV ks (k + 1) := by
 intro s w hs0 hlen hS
 have hs : 0 ≤ s ∧ s < a.sts.length := hs0.resolve_left (by omega)
 obtain ⟨S, rfl⟩ := Int.eq_ofNat_of_zero_le hs.1
 have hSl : S < a.sts.length := by omega
 have HIH := zH ih
 have HZ := zH (@xk a hz)
 have hm40 := hf.each (List.getElem_mem hSl)
 have HWE := zH (uy a k hSl)
 have HLN := zH hlen
 have HML := zH (fun (m : Mv) (hm : m ∈ a.sts[S]) => (List.mem_flatten.2 ⟨_, List.getElem_mem hSl, hm⟩ : m ∈ a.mvs))
 have HS := zH hS
 obtain ⟨bs, os, A', cs', hSV, hbs, s0, hMA⟩ := hS.at_ S hSl
 subst hSV
 have HMA := zH hMA
 obtain ⟨M, hM⟩ : ∃ M, a.sts[S] = M := ⟨_, rfl⟩
 rw [hM] at s0 HMA HWE HML hm40
 have e0 : (((k + 1 : Nat) : Int) == 0) = false := by simp; omega
 have hw1 : IntKind.i64.wrap (((k + 1 : Nat) : Int) - 1) = (k : Int) := by rw [IntKind.wrap_i64]; omega
 have hs1 : (S : Int) < (a.sts.length : Int) := by omega
 have hs2 : (0 : Int) ≤ (S : Int) := by omega
 obtain ⟨K, hK⟩ : ∃ K : Int, ((k + 1 : Nat) : Int) = K := ⟨_, rfl⟩
 rw [hK] at e0 hw1 ⊢
 clear hS hMA hM hz hf ih hs hs0 hlen hK
 go_enter Tryz.func190, Tryz.ntmps190
 go_wp2_with fail
 obtain ⟨w1, hW1, d0, hsz1, hB1⟩ := zi w #[.int .i64 a.n, .slice (some ⟨bs, os, none⟩) a.sts.length ks] 27
 rw [hW1]
 clear hW1
 have HD0 := zH d0
 have HB1 := zH hB1
 clear d0 hB1 e0
 go_loopw [7, 8] (fun o i wr => ∃ j : Nat, j ≤ M.length ∧ i = .int .i64 (j : Int) ∧ Hid (OwnX cWd (fun b => w.heap.size < b) wr (w.heap.size + 1) o (yd a k M j)) ∧ Hid (Below w1.heap.size w1 wr)) (fun _ i _ => M.length - (intOf i).toNat)
 case atStart => exact ⟨0, by omega, rfl, by rw [vm]; exact OwnX.nil _ _ _ _, Below.refl _ _⟩
 case round =>
  obtain ⟨j, hj, rfl, HO, HBL⟩ := hrel
  have D0 := (HBL.out.block _ (by omega)).trans HD0.out
  have q1 := za D0 1 rfl
  have hbl := HBL.out.size
  have s1 : wr.cell? ⟨bs, os + S, none⟩ = some (.slice A' M.length cs') := ((HB1.out.trans (HBL.out.mono (by omega))).cell (p := ⟨bs, os + S, none⟩) hbs).trans s0
  by_cases hjl : j < M.length
  case neg =>
   obtain rfl : j = M.length := by omega
   go_wp2_with fail
   go_ret
   refine ⟨_, rfl, ?_, HB1.out.trans (HBL.out.mono (by omega))⟩
   rw [← HWE.out]
   exact (HO.out.mono qa fun b _ hb => by omega).low (by omega)
  case pos =>
   obtain ⟨bm, om, e1, hbm, m0, m1, m2, m3, m4, m5, m6, m7⟩ := (HMA.out.keep (HB1.out.trans (HBL.out.mono (by omega)))).row j hjl
   subst e1
   have hj0 : (0 : Int) ≤ (j : Int) := by omega
   have hj1 : (j : Int) < (M.length : Int) := by omega
   have q0 := za D0 0 rfl
   have hgw : w.heap.size < wr.heap.size := by omega
   have hmm := HML.out M[j] (List.getElem_mem hjl)
   obtain ⟨z1, z2, z3, z4⟩ := HZ.out _ hmm
   have HST := zH (qn a k M hjl)
   have hlen2 := ux a k M (j + 1)
   rw [qn a k M hjl, List.length_append, List.length_map] at hlen2
   obtain ⟨m, hme⟩ : ∃ m, M[j] = m := ⟨_, rfl⟩
   rw [hme] at m0 m1 m2 m3 m4 m5 m6 m7 hmm z1 z2 z3 z4 HST hlen2
   have hl5 : (yd a k M j).length + (zy a k m.to).length ≤ 5000 := by
    have := HLN.out
    rw [← HWE.out] at this
    omega
   have HC := zH (fun (W : World) (hW : Below wr.heap.size wr W) => HIH.out m.to W (.inr ⟨z3, z4⟩) (by omega) (((HS.out.keep (HB1.out.trans ((HBL.out.trans (hW.mono hbl)).mono (by omega)))).more (by have := hW.size; omega))))
   clear hme hlen2 z1 z2 z3 z4 hmm HML HZ HLN HMA HWE
   go_wp2_with fail
   clear m0 m1 m2 m3 m4 m5 m6 m7 q0 q1 s1
   obtain ⟨W1, hW1, g0, hsz2, hB2⟩ := zi wr m.cells 200
   unfold Mv.cells at hW1
   rw [hW1]
   refine (HC.out W1 hB2).mono ?_
   rintro e w3 ⟨rv, rfl, ho3, hb3⟩
   obtain ⟨AR, cR, rfl, hcR, hmR, hWR⟩ := Zd ho3
   have G0 := (hb3.block _ (by omega)).trans g0
   have HB3 : Hid (Below wr.heap.size wr w3) := hB2.trans (hb3.mono (by omega))
   have HO3 := zH (HO.out.below qa HB3.out (Nat.le_refl _))
   have hlo := HO.out.lt
   have HR3 := zH (ho3.mono (S' := fun b => wr.heap.size < b) qa fun b _ hb => by omega)
   have HG0 := zH G0
   have hsz3 := hb3.size
   obtain ⟨R, hR⟩ : ∃ R, zy a k m.to = R := ⟨_, rfl⟩
   have HRK := zH (yV a k m.to)
   rw [hR] at hl5 HST HR3 HRK ⊢
   clear hW1 ho3 hWR hb3 HC g0 G0 hR
   go_wp2_with fail
   obtain ⟨U, rfl⟩ : ∃ U, U = u7 := ⟨_, rfl⟩
   obtain ⟨wo, rfl⟩ : ∃ x, x = wr := ⟨_, rfl⟩
   go_loopw [7, 11] (fun o i wx => ∃ l : Nat, l ≤ R.length ∧ i = .int .i64 (l : Int) ∧ Hid (OwnX cWd (fun b => w.heap.size < b) wx (w.heap.size + 1) o (yd a k M j ++ (R.take l).map (m.r :: ·))) ∧ Hid (w3.grownBy wx (Value.ownBlock U)) ∧ Hid (o.ownBlock = Value.ownBlock U ∨ ∀ b, o.ownBlock = some b → w3.heap.size ≤ b)) (fun _ i _ => R.length - (intOf i).toNat)
   case atStart => exact ⟨0, by omega, rfl, by rw [List.take_zero, List.map_nil, List.append_nil]; exact HO3.out, World.grownBy.refl _ _, .inl rfl⟩
   case round =>
    obtain ⟨l, hl, rfl, HX, HG, HW⟩ := hrel
    have HBX : Hid (Below w1.heap.size w1 wr) := (HBL.out.trans (HB3.out.mono hbl)).grown HG.out (by omega) (fun b hb => by have := (hlo b hb).1; omega)
    by_cases hll : l < R.length
    case neg =>
     obtain rfl : l = R.length := by omega
     rw [List.take_length, ← HST.out] at HX
     clear HR3 HG HW
     go_wp2_with fail
     go_roundw
     case rel => exact ⟨j + 1, by omega, by go_num, HX, HBX⟩
     case measure => simp [intOf]; omega
    case pos =>
     have hRx : OwnX cWd (fun b => wo.heap.size < b) wr W1.heap.size (.slice AR R.length cR) R := HR3.out.kept qa HG.out (by
      cases hAR : (Value.slice AR R.length cR).ownBlock with
      | none => exact .inl rfl
      | some b => exact .inr fun e => by have h1 := (HR3.out.lt b hAR).1; have h2 := (hlo b e.symm).2; omega) (fun b hb => .inl fun h => by have := (hlo b hb).2; omega)
     obtain ⟨A9, c9, e9, _, _, hWX⟩ := Zd hRx
     cases e9
     obtain ⟨br, or_, A2, c2, er, hbr, r0, hr2⟩ := hWX.at_ l hll
     subst er
     have G1 := (HG.out.block wo.heap.size (by omega) (fun e => by have := (hlo _ e.symm).2; omega)).trans HG0.out
     have g0 := za G1 0 rfl
     have hx1 := zd G1
     have HRX := zH hr2
     have HOX := zH HX.out
     have hll2 : (yd a k M j ++ (R.take l).map (m.r :: ·)).length = (yd a k M j).length + l := by simp; omega
     have hstl : Hid (yd a k M j ++ (R.take (l + 1)).map (m.r :: ·) = (yd a k M j ++ (R.take l).map (m.r :: ·)) ++ [m.r :: R[l]]) := by
      show _ = _
      rw [List.take_succ_eq_append_getElem hll, List.map_append, List.append_assoc]; rfl
     have hlk := HRK.out _ (List.getElem_mem hll)
     have hlk6 : R[l].length ≤ 6 := by omega
     clear hlk
     have hl0 : (0 : Int) ≤ (l : Int) := by omega
     have hl1 : (l : Int) < (R.length : Int) := by omega
     obtain ⟨x, hx⟩ : ∃ x, R[l] = x := ⟨_, rfl⟩
     rw [hx] at r0 HRX hstl hlk6
     have hraw : Hid (Raw (wr.alloc (.cells m.r.cells 172)) A2 x.length (yt x)) := gc ((HRX.out.keep (zI wr _)).more (by simp))
     have g0 : wr.cell? ⟨wo.heap.size, 0, none⟩ = some (.int .i64 m.r.n) := za G1 0 rfl
     have g1 : wr.cell? ⟨wo.heap.size, 1, none⟩ = some (.int .i64 m.r.h0) := za G1 1 rfl
     have g2 : wr.cell? ⟨wo.heap.size, 2, none⟩ = some (.int .i64 m.r.h1) := za G1 2 rfl
     have g3 : wr.cell? ⟨wo.heap.size, 3, none⟩ = some (.int .i64 m.r.h2) := za G1 3 rfl
     have g4 : wr.cell? ⟨wo.heap.size, 4, none⟩ = some (.int .i64 m.r.h3) := za G1 4 rfl
     have g5 : wr.cell? ⟨wo.heap.size, 5, none⟩ = some (.int .i64 m.r.h4) := za G1 5 rfl
     have g6 : wr.cell? ⟨wo.heap.size, 6, none⟩ = some (.int .i64 m.r.f) := za G1 6 rfl
     have hbr2 : br < wr.heap.size := hbr
     have hw0 : w.heap.size + 1 ≤ wr.heap.size := by have := HG.out.size; omega
     clear hx hRx hWX hr2 G1 HX
     have HG0 := zH (zh wr (.cells m.r.cells 172))
     obtain ⟨N, hN⟩ : ∃ N, (yd a k M j ++ (R.take l).map (m.r :: ·)).length = N := ⟨_, rfl⟩
     have hN5 : N ≤ 5000 := by omega
     have HN := zH hN
     clear hN hll2
     go_wp2_with (at_builtin; (first
      | ((refine YP Yu rfl (.tmp 50) (.tmp 54) rfl wr.heap.size (.slice (some ⟨wr.heap.size, 0, none⟩) 1 1) 1 m.r.cells.toList rfl (OwnR.of_block HG0.out (Nat.le_refl _) rfl (by unfold maxLen; omega)) A2 x.length c2 (yt x) rfl (xh _) hraw.out (j7 _) (by omega) (by simp) ?_)
         intro v1 w5 hr1 hg1 _
         have hr1' : OwnR kRd w5 wr.heap.size v1 (m.r :: x).length (yt (m.r :: x)) := by rw [List.length_cons, Nat.add_comm]; exact hr1
         obtain ⟨A5, c5, rfl, _, _, hl5⟩ := jZ hr1'
         have hB5 : Below wr.heap.size wr w5 := (zI wr _).grown hg1 (by simp) (fun b hb => by cases hb; exact Nat.le_refl _)
         have hB6 := zH (hB5.alloc hB5.size (.cells #[.slice A5 (m.r :: x).length c5] 91))
         have HG6 := zH (zh w5 (.cells #[.slice A5 (m.r :: x).length c5] 91))
         have HL6 := zH (hl5.keep (KeepB.alloc _ w5 (.cells #[.slice A5 (m.r :: x).length c5] 91)))
         have HO6 := zH (HOX.out.below qa hB6.out (Nat.le_refl _))
         have hsz6 : wr.heap.size ≤ w5.heap.size := hB5.size
         clear hr1 hr1' hg1 hl5 hB5)
      | (obtain ⟨css, hcl, hcr, hcs⟩ := HO6.out
         rw [HN.out] at hcr
         refine yx QM rfl (.tmp 49) (.tmp 56) rfl (w.heap.size + 1) u7 N css.flatten rfl hcr w5.heap.size #[.slice A5 (m.r :: x).length c5] rfl HG6.out rfl (by simp [Value.oneCell']) (by omega) (by simp; omega) _ rfl ?_
         intro g' cap w7 hr7 hg7 hat7 hlt7
         have hX : cWd.lies (fun b => (fun b => w.heap.size < b) b ∧ Value.ownBlock u7 ≠ some b) _ [.slice A5 (m.r :: x).length c5] (m.r :: x) := ⟨A5, c5, rfl, HL6.out.mono fun b _ hb => ⟨by have : wr.heap.size ≤ b := hb; show w.heap.size < b; omega, fun e => by have := (HOX.out.lt b e).2; have : wr.heap.size ≤ b := hb; omega⟩⟩
         have hr7' := hr7
         rw [← HN.out] at hr7'
         have HO7 := zH (OwnX.app qa hcl hcs hX hr7' hg7 hat7)
         rw [← hstl.out, HN.out] at HO7
         have HG7 : Hid (w3.grownBy w7 U.ownBlock) := grow_grow (QS HG.out hB6.out) hg7 (fun b hb hlt => by
          rcases HW.out with h | h
          · rw [← h]; exact hb
          · have := h b hb; omega)
         have HW7 : Hid ((Value.slice (some ⟨g', 0, none⟩) (N + 1) cap).ownBlock = U.ownBlock ∨ ∀ b, (Value.slice (some ⟨g', 0, none⟩) (N + 1) cap).ownBlock = some b → w3.heap.size ≤ b) := by
          have hs3 := HG.out.size
          rcases hat7 with e | e
          · rcases HW.out with h | h
            · exact .inl (by rw [← h, e]; rfl)
            · exact .inr fun b hb => h b (by rw [e]; exact hb)
          · refine .inr fun b hb => ?_
            have h9 : g' = b := by simpa [Value.ownBlock] using hb
            simp at e
            omega
         clear hr7 hr7' hg7 hat7 hX hcs hcr hcl)
      ))
     go_roundw
     case rel => exact ⟨l + 1, by omega, by go_num, HO7, HG7, HW7⟩
     case measure => simp [intOf]; omega
theorem ZO (a : Ad) (SV : Option Addr) (ks : Nat) (hz : zv a a.sts = 0) (hf : FewA a) : ∀ k, k ≤ 6 → kz a SV ks k
 | 0, _ => QU a SV ks
 | k + 1, h => QV a SV ks k (by omega) hz hf (ZO a SV ks hz hf k (by omega))
end
section
open Go.RowKit
attribute [local go_sem] Oper.semAt_some
structure Wrote (R : Nat → Prop) (w w' : World) : Prop where
 os : w'.os = w.os
 tape : w'.tape = w.tape
 output : w'.output = w.output
 size : w.heap.size ≤ w'.heap.size
 block : ∀ k, k < w.heap.size → ¬ R k → w'.heap[k]? = w.heap[k]?
theorem Wrote.refl (R : Nat → Prop) (w : World) : Wrote R w w := ⟨rfl, rfl, rfl, Nat.le_refl _, fun _ _ _ => rfl⟩
theorem Wrote.trans {R R' : Nat → Prop} {a b c : World} (h : Wrote R a b) (k : Wrote R' b c) (hr : ∀ k, k < a.heap.size → R' k → R k) : Wrote R a c :=
 ⟨k.os.trans h.os, k.tape.trans h.tape, k.output.trans h.output, Nat.le_trans h.size k.size, fun i hi hn => (k.block i (Nat.lt_of_lt_of_le hi h.size) (fun h' => hn (hr i hi h'))).trans (h.block i hi hn)⟩
theorem Wrote.of_below {R : Nat → Prop} {a b : World} (h : Below a.heap.size a b) : Wrote R a b := ⟨h.os, h.tape, h.output, h.size, fun k hk _ => h.block k hk⟩
theorem Wrote.of_grown {R : Nat → Prop} {a b : World} {row : Option Nat} (h : a.grownBy b row) (hr : ∀ k, row = some k → k < a.heap.size → R k) : Wrote R a b := ⟨h.os, h.tape, h.output, h.size, fun k hk hn => h.block k hk (fun e => hn (hr k e.symm hk))⟩
theorem Wrote.below {R : Nat → Prop} {a b : World} {B : Nat} (h : Wrote R a b) (hB : B ≤ a.heap.size) (hr : ∀ k, k < B → ¬ R k) : Below B a b := ⟨h.os, h.tape, h.output, h.size, fun k hk => h.block k (by omega) (hr k hk)⟩
theorem Wrote.keep {R S : Nat → Prop} {a b : World} (h : Wrote R a b) (hr : ∀ k, k < a.heap.size → S k → ¬ R k) : KeepB S a b := ⟨h.size, fun k hs hk => h.block k hk (hr k hk hs)⟩
theorem Wrote.more {R R' : Nat → Prop} {a b : World} (h : Wrote R a b) (hr : ∀ k, k < a.heap.size → R k → R' k) : Wrote R' a b := ⟨h.os, h.tape, h.output, h.size, fun k hk hn => h.block k hk (fun h' => hn (hr k hk h'))⟩
def vz (vs : List Vw) : Vw → Option Value := fun v => if v ∈ vs then some (.int .i64 (qH vs v)) else none
theorem numF_nil : vz [] = fun _ => none := by funext v; simp [vz]
theorem numF_put {vs : List Vw} {v : Vw} (h : v ∉ vs) : qe (vz vs) v (.int .i64 vs.length) = vz (vs ++ [v]) := by
 funext x
 unfold qe vz
 by_cases e : x = v
 · subst e
   rw [if_pos rfl, if_pos (by simp)]
   congr 2
   exact (XE (k := vs.length) (by simp) (by simp) (by rw [List.take_left]; exact h)).symm
 · rw [if_neg e]
   by_cases hx : x ∈ vs
   · rw [if_pos hx, if_pos (by simp [hx])]
     congr 2
     unfold qH
     rw [if_pos hx, if_pos (by simp [hx]), List.idxOf_append, if_pos hx]
   · rw [if_neg hx, if_neg (by simp [hx, e])]
structure BdIn (B bB bM : Nat) (n : Int) (V : Value) (vs : List Vw) (w : World) : Prop where
 hB : w.heap[bB]? = some (.cells #[.int .i64 n, V, .map (some bM)] 216 (0, 0))
 num : ∃ m, MapOf (fun v : Vw => .agg v.cells) w bM m (vz vs)
 own : OwnV w B V vs
 ne : ∀ k, V.ownBlock = some k → k ≠ bB ∧ k ≠ bM
 bm : bB ≠ bM
 lo : B ≤ bB ∧ B ≤ bM
def Bk (bB bM : Nat) (V : Value) (k : Nat) : Prop := k = bB ∨ k = bM ∨ V.ownBlock = some k
def BdOn (bB bM : Nat) (V : Value) (w : World) (V' : Value) (w' : World) : Prop := Wrote (Bk bB bM V) w w' ∧ ∀ k, V'.ownBlock = some k → V.ownBlock = some k ∨ w.heap.size ≤ k
theorem BdOn.refl (bB bM : Nat) (V : Value) (w : World) : BdOn bB bM V w V w := ⟨Wrote.refl _ _, fun _ h => .inl h⟩
theorem BdOn.trans {bB bM : Nat} {V V1 V2 : Value} {w w1 w2 : World} (h : BdOn bB bM V w V1 w1) (k : BdOn bB bM V1 w1 V2 w2) : BdOn bB bM V w V2 w2 := by
 refine ⟨h.1.trans k.1 fun j hj hr => ?_, fun j hj => ?_⟩
 · rcases hr with e | e | e
   · exact .inl e
   · exact .inr (.inl e)
   · rcases h.2 j e with e | e
     · exact .inr (.inr e)
     · omega
 · rcases k.2 j hj with e | e
   · exact h.2 j e
   · exact .inr (Nat.le_trans h.1.size e)
theorem BdOn.after {bB bM : Nat} {V V1 : Value} {w w1 w2 : World} (h : BdOn bB bM V w V1 w1) (k : Below w1.heap.size w1 w2) : BdOn bB bM V w V1 w2 := ⟨h.1.trans (Wrote.of_below (R := fun _ => False) k) (fun _ _ h => h.elim), h.2⟩
theorem BdIn.on {B bB bM : Nat} {n : Int} {V : Value} {vs : List Vw} {w w' : World} (h : BdIn B bB bM n V vs w) (hb : Below w.heap.size w w') : BdIn B bB bM n V vs w' := by
 obtain ⟨m, hm⟩ := h.num
 exact ⟨(hb.block _ (zd h.hB)).trans h.hB, ⟨m, hm.same (hb.block _ hm.lt)⟩, h.own.below hb (Nat.le_refl _), h.ne, h.bm, h.lo⟩
theorem BdIn.push {B bB bM m : Nat} {n : Int} {A : Option Addr} {cap : Nat} {vs : List Vw} {v : Vw} {w w2 W w4 : World} {g' cap' : Nat} (H : BdIn B bB bM n (.slice A vs.length cap) vs w) (hg2 : w.grownBy w2 (some bM))
  (hm2 : MapOf (fun v : Vw => .agg v.cells) w2 bM m (vz (vs ++ [v]))) (hW : Below w2.heap.size w2 W)
  (hr : OwnR kVw w4 B (.slice (some ⟨g', 0, none⟩) (vs.length + 1) cap') (vs.length + 1) (yr vs ++ v.cells.toList)) (hg : W.grownBy w4 (Value.slice A vs.length cap).ownBlock)
  (hat : (Value.slice A vs.length cap).ownBlock = some g' ∨ g' = W.heap.size) :
  BdIn B bB bM n (.slice (some ⟨g', 0, none⟩) (vs.length + 1) cap') (vs ++ [v]) (w4.setCell ⟨bB, 1, none⟩ (.slice (some ⟨g', 0, none⟩) (vs.length + 1) cap')) ∧
   BdOn bB bM (.slice A vs.length cap) w (.slice (some ⟨g', 0, none⟩) (vs.length + 1) cap') (w4.setCell ⟨bB, 1, none⟩ (.slice (some ⟨g', 0, none⟩) (vs.length + 1) cap')) := by
 have hlb := zd H.hB
 obtain ⟨m0, hm0⟩ := H.num
 have hlm := hm0.lt
 have hs2 := hg2.size
 have hsW := hW.size
 have hlo := H.own.lt
 have hb2 := (hg2.block bB hlb (fun e => by cases e; exact H.bm rfl)).trans H.hB
 have hb4 := (hg.block bB (by omega) (fun e => (H.ne bB e.symm).1 rfl)).trans ((hW.block bB (by omega)).trans hb2)
 have hm4 := ((hm2.same (hW.block bM (by omega))).same (hg.block bM (by omega) (fun e => (H.ne bM e.symm).2 rfl)))
 have hgl := hr.lt g' rfl
 have hne : g' ≠ bB ∧ g' ≠ bM := by
  rcases hat with e | e
  · exact H.ne g' e
  · exact ⟨by omega, by omega⟩
 refine ⟨⟨?_, ⟨m, hm4.same (Below.heap_setCell w4 _ _ bM (fun e => H.bm e.symm))⟩, ?_, ?_, H.bm, H.lo⟩, ?_, ?_⟩
 · rw [heap_setCell_same w4 bB 1 _ _ _ hb4]; rfl
 · have h5 : OwnR kVw (w4.setCell ⟨bB, 1, none⟩ (.slice (some ⟨g', 0, none⟩) (vs.length + 1) cap')) B (.slice (some ⟨g', 0, none⟩) (vs.length + 1) cap') (vs.length + 1) (yr vs ++ v.cells.toList) := hr.kept (yc w4 bB 1 _) (.inr (fun e => hne.1 (by simpa [Value.ownBlock] using e)))
   unfold OwnV
   rw [List.length_append, jL, show yr [v] = v.cells.toList by simp [yr]]
   exact h5
 · intro k hk
   have : g' = k := by simpa [Value.ownBlock] using hk
   subst this
   exact hne
 · have h1 : Wrote (Bk bB bM (.slice A vs.length cap)) w w2 := Wrote.of_grown hg2 (fun k hk _ => by cases hk; exact .inr (.inl rfl))
   have h2 : Wrote (Bk bB bM (.slice A vs.length cap)) w2 W := Wrote.of_below hW
   have h3 : Wrote (Bk bB bM (.slice A vs.length cap)) W w4 := Wrote.of_grown hg (fun k hk _ => .inr (.inr hk))
   have h4 : Wrote (Bk bB bM (.slice A vs.length cap)) w4 (w4.setCell ⟨bB, 1, none⟩ (.slice (some ⟨g', 0, none⟩) (vs.length + 1) cap')) := Wrote.of_grown (yc w4 bB 1 _) (fun k hk _ => by cases hk; exact .inl rfl)
   exact ((h1.trans h2 (fun _ _ h => h)).trans h3 (fun _ _ h => h)).trans h4 (fun _ _ h => h)
 · intro k hk
   have : g' = k := by simpa [Value.ownBlock] using hk
   subst this
   rcases hat with e | e
   · exact .inl e
   · exact .inr (by omega)
set_option maxRecDepth 100000 in
theorem X4 (B bB bM : Nat) (n : Int) (V : Value) (vs : List Vw) (v : Vw) (hl : vs.length ≤ 50000) (w : World) (H : BdIn B bB bM n V vs w) :
  Calls Tryz.prog 173 #[.pointer (some ⟨bB, 0, none⟩), .agg v.cells] w fun e w' => e = .returned (.int .i64 (xV vs v).2) ∧ ∃ V', BdIn B bB bM n V' (xV vs v).1 w' ∧ BdOn bB bM V w V' w' := by
 obtain ⟨A, cap, rfl⟩ := H.own.lit
 obtain ⟨w1, hw1, d0, hsz1, hB1⟩ := zi w v.cells 224
 have H1 := H.on hB1
 have HI := zH H1
 have HW1 := zH hw1
 have HB1 := zH hB1
 have HD0 := zH d0
 have HV := zH (show vz vs v = if v ∈ vs then some (.int .i64 (qH vs v)) else none from rfl)
 have hlb := zd H.hB
 have HVL := zH (fun (k : Nat) (e : (Value.slice A vs.length cap).ownBlock = some k) => (H.own.lt k e).2)
 have hbMw : bM < w.heap.size := by obtain ⟨_, hm⟩ := H.num; exact hm.lt
 have b0 := H1.hB
 obtain ⟨m, hm⟩ := H1.num
 have HM := zH hm
 have hz : ∀ W : World, (zeroValue 3).run Tryz.prog W = .ok (.int .i64 0) W := fun W => by kernel_rfl
 have ht : Tryz.prog.underlying 214 = some (.map 224 3) := Tryz.underlying214
 have hbv : bB ≠ w.heap.size := by omega
 clear hw1 H1 H
 go_enter Tryz.func173, Tryz.ntmps173
 unfold Vw.cells at HW1 ⊢
 go_wp2_with fail
 rw [HW1.out]
 by_cases hv : v ∈ vs
 case pos =>
  have hf : vz vs v = some (.int .i64 (qH vs v)) := if_pos hv
  have hpw := Xb hv
  have HPW := zH hpw
  have HF := zH hf
  have hid := XD hv
  clear hpw hf hv HV
  refine zr [(0, true), (1, true), (2, true), (3, true), (4, true), (5, true), (6, true), (7, true), (8, true), (9, true), (10, true)] (fun W => W.heap[bB]? = some (.cells #[.int .i64 n, .slice A vs.length cap, .map (some bM)] 216 (0, 0)) ∧ MapOf (fun v : Vw => .agg v.cells) W bM m (vz vs) ∧ W.heap[w.heap.size]? = some (.cells v.cells 224 (0, 0))) (by kernel_rfl) (by kernel_rfl) ⟨b0, hm, d0⟩ ?_
  repeat
   apply zA rfl
   · rintro K' hK' W ⟨y0, y1, y2⟩
     have g0 : W.cell? ⟨w.heap.size, 0, none⟩ = some (.int .i64 v.p) := za y2 0 rfl
     have g1 : W.cell? ⟨w.heap.size, 1, none⟩ = some (.int .i64 v.r) := za y2 1 rfl
     have g2 : W.cell? ⟨w.heap.size, 2, none⟩ = some (.int .i64 v.i) := za y2 2 rfl
     have g3 : W.cell? ⟨w.heap.size, 3, none⟩ = some (.int .i64 v.h0) := za y2 3 rfl
     have g4 : W.cell? ⟨w.heap.size, 4, none⟩ = some (.int .i64 v.h1) := za y2 4 rfl
     have g5 : W.cell? ⟨w.heap.size, 5, none⟩ = some (.int .i64 v.h2) := za y2 5 rfl
     have g6 : W.cell? ⟨w.heap.size, 6, none⟩ = some (.int .i64 v.h3) := za y2 6 rfl
     have g7 : W.cell? ⟨w.heap.size, 7, none⟩ = some (.int .i64 v.h4) := za y2 7 rfl
     have b0 : W.cell? ⟨bB, 0, none⟩ = some (.int .i64 n) := za y0 0 rfl
     have b1 : W.cell? ⟨bB, 1, none⟩ = some (.slice A vs.length cap) := za y0 1 rfl
     have b2 : W.cell? ⟨bB, 2, none⟩ = some (.map (some bM)) := za y0 2 rfl
     have hlk := y1.look2 wG ht (hz W) v
     rw [HF.out] at hlk
     simp only [Option.getD_some, Option.isSome_some, Vw.cells] at hlk
     clear y0 y1 y2
     go_simp
     exact hK'
  refine zG ?_
  clear b0 hm d0
  go_wp2_with fail
  go_ret
  rw [HPW.out]
  exact ⟨rfl, _, HI.out.on (Below.refl _ _).drew, (BdOn.refl bB bM _ w).after (HB1.out.drew)⟩
 case neg =>
  have hf : vz vs v = none := if_neg hv
  have hpw := Jl hv
  have HPW := zH hpw
  have HF := zH hf
  have HVN : Hid (v ∉ vs) := hv
  clear hpw hf hv HV
  refine zr [(0, true), (1, true), (2, true), (3, true), (4, true), (5, true), (6, true), (7, true), (8, true), (9, true), (10, true)] (fun W => W.heap[bB]? = some (.cells #[.int .i64 n, .slice A vs.length cap, .map (some bM)] 216 (0, 0)) ∧ MapOf (fun v : Vw => .agg v.cells) W bM m (vz vs) ∧ W.heap[w.heap.size]? = some (.cells v.cells 224 (0, 0))) (by kernel_rfl) (by kernel_rfl) ⟨b0, hm, d0⟩ ?_
  repeat
   apply zA rfl
   · rintro K' hK' W ⟨y0, y1, y2⟩
     have g0 : W.cell? ⟨w.heap.size, 0, none⟩ = some (.int .i64 v.p) := za y2 0 rfl
     have g1 : W.cell? ⟨w.heap.size, 1, none⟩ = some (.int .i64 v.r) := za y2 1 rfl
     have g2 : W.cell? ⟨w.heap.size, 2, none⟩ = some (.int .i64 v.i) := za y2 2 rfl
     have g3 : W.cell? ⟨w.heap.size, 3, none⟩ = some (.int .i64 v.h0) := za y2 3 rfl
     have g4 : W.cell? ⟨w.heap.size, 4, none⟩ = some (.int .i64 v.h1) := za y2 4 rfl
     have g5 : W.cell? ⟨w.heap.size, 5, none⟩ = some (.int .i64 v.h2) := za y2 5 rfl
     have g6 : W.cell? ⟨w.heap.size, 6, none⟩ = some (.int .i64 v.h3) := za y2 6 rfl
     have g7 : W.cell? ⟨w.heap.size, 7, none⟩ = some (.int .i64 v.h4) := za y2 7 rfl
     have b0 : W.cell? ⟨bB, 0, none⟩ = some (.int .i64 n) := za y0 0 rfl
     have b1 : W.cell? ⟨bB, 1, none⟩ = some (.slice A vs.length cap) := za y0 1 rfl
     have b2 : W.cell? ⟨bB, 2, none⟩ = some (.map (some bM)) := za y0 2 rfl
     have hlk := y1.look2 wG ht (hz W) v
     rw [HF.out] at hlk
     simp only [Option.getD_none, Option.isSome_none, Vw.cells] at hlk
     clear y0 y1 y2
     go_simp
     exact hK'
  refine zG ?_
  clear hm
  have b1 : w1.cell? ⟨bB, 1, none⟩ = some (.slice A vs.length cap) := za HI.out.hB 1 rfl
  go_wp2_with fail
  obtain ⟨w2, hrun, hm2, hgr2⟩ := MapOf.put (w := w1.drew.drew) (P := Tryz.prog) (show MapOf (fun v : Vw => .agg v.cells) w1.drew.drew bM m (vz vs) from HM.out) wG ht v (.int .i64 vs.length)
  rw [numF_put HVN.out] at hm2
  have HM2 := zH hm2
  have HG2 : Hid (w1.grownBy w2 (some bM)) := ⟨hgr2.os, hgr2.tape, hgr2.output, hgr2.size, hgr2.block⟩
  have hlm := HM.out.lt
  have hbM := HI.out.bm
  have hbm2 : w.heap.size ≠ bM := by omega
  simp only [Vw.cells] at hrun
  have d2 := (HG2.out.block _ (zd HD0.out) (fun e => by cases e; exact hbm2 rfl)).trans HD0.out
  have b2 := (HG2.out.block _ (zd HI.out.hB) (fun e => by cases e; exact hbM rfl)).trans HI.out.hB
  clear hm2 hgr2
  refine zr [(0, true), (1, true), (2, true), (3, true), (4, true), (5, true), (6, false)] (fun W => W.heap[bB]? = some (.cells #[.int .i64 n, .slice A vs.length cap, .map (some bM)] 216 (0, 0)) ∧ W.heap[w.heap.size]? = some (.cells v.cells 224 (0, 0))) (by kernel_rfl) (by kernel_rfl) ⟨HI.out.hB, d0⟩ ?_
  clear b0 b1 d0
  repeat
   apply zA rfl
   · rintro K' hK' W ⟨y0, y2⟩
     have g0 : W.cell? ⟨w.heap.size, 0, none⟩ = some (.int .i64 v.p) := za y2 0 rfl
     have g1 : W.cell? ⟨w.heap.size, 1, none⟩ = some (.int .i64 v.r) := za y2 1 rfl
     have g2 : W.cell? ⟨w.heap.size, 2, none⟩ = some (.int .i64 v.i) := za y2 2 rfl
     have g3 : W.cell? ⟨w.heap.size, 3, none⟩ = some (.int .i64 v.h0) := za y2 3 rfl
     have g4 : W.cell? ⟨w.heap.size, 4, none⟩ = some (.int .i64 v.h1) := za y2 4 rfl
     have g5 : W.cell? ⟨w.heap.size, 5, none⟩ = some (.int .i64 v.h2) := za y2 5 rfl
     have g6 : W.cell? ⟨w.heap.size, 6, none⟩ = some (.int .i64 v.h3) := za y2 6 rfl
     have g7 : W.cell? ⟨w.heap.size, 7, none⟩ = some (.int .i64 v.h4) := za y2 7 rfl
     have b2 : W.cell? ⟨bB, 2, none⟩ = some (.map (some bM)) := za y0 2 rfl
     clear y0 y2
     go_simp
     exact hK'
  refine zC rfl ?_
  intro K' hK'
  go_simp
  refine hK' _ _ ⟨b2, d2⟩ ?_
  refine zG ?_
  clear hK' K' hrun
  go_wp2_with fail
  have hs2 := HG2.out.size
  have hbB2 : bB < w2.heap.size := by omega
  have HDD := zH d2
  have HBB := zH b2
  refine zr [(0, true), (1, true), (2, true), (3, true), (4, true), (5, true), (6, false), (7, false), (8, false), (9, false), (10, false)] (fun W => W.heap[bB]? = some (.cells #[.int .i64 n, .slice A vs.length cap, .map (some bM)] 216 (0, 0)) ∧ W.heap[w.heap.size]? = some (.cells v.cells 224 (0, 0))) (by kernel_rfl) (by kernel_rfl) ⟨b2, d2⟩ ?_
  clear b2 d2
  repeat
   apply zA rfl
   · rintro K' hK' W ⟨y0, y2⟩
     have g0 : W.cell? ⟨w.heap.size, 0, none⟩ = some (.int .i64 v.p) := za y2 0 rfl
     have g1 : W.cell? ⟨w.heap.size, 1, none⟩ = some (.int .i64 v.r) := za y2 1 rfl
     have g2 : W.cell? ⟨w.heap.size, 2, none⟩ = some (.int .i64 v.i) := za y2 2 rfl
     have g3 : W.cell? ⟨w.heap.size, 3, none⟩ = some (.int .i64 v.h0) := za y2 3 rfl
     have g4 : W.cell? ⟨w.heap.size, 4, none⟩ = some (.int .i64 v.h1) := za y2 4 rfl
     have g5 : W.cell? ⟨w.heap.size, 5, none⟩ = some (.int .i64 v.h2) := za y2 5 rfl
     have g6 : W.cell? ⟨w.heap.size, 6, none⟩ = some (.int .i64 v.h3) := za y2 6 rfl
     have g7 : W.cell? ⟨w.heap.size, 7, none⟩ = some (.int .i64 v.h4) := za y2 7 rfl
     have b1 : W.cell? ⟨bB, 1, none⟩ = some (.slice A vs.length cap) := za y0 1 rfl
     clear y0 y2
     go_simp
     exact hK'
  refine zC rfl ?_
  intro K' hK'
  go_simp
  obtain ⟨W3, hW3, e3, hs3, hB3⟩ := Yj w2 v.cells 224
  simp only [Vw.cells] at hW3
  rw [hW3]
  clear hW3
  refine hK' _ _ ⟨(hB3.block _ hbB2).trans HBB.out, (hB3.block _ (by omega)).trans HDD.out⟩ ?_
  clear hK' K'
  refine zC rfl ?_
  intro K' hK'
  rw [if_pos (by rfl)]
  have hOw : OwnR kVw W3 B (.slice A vs.length cap) vs.length (yr vs) := by
   have h0 : OwnR kVw w1 B (.slice A vs.length cap) vs.length (yr vs) := HI.out.own
   refine (h0.kept HG2.out ?_).below hB3 (Nat.le_refl _)
   rcases hA : (Value.slice A vs.length cap).ownBlock with _ | k
   · exact .inl rfl
   · exact .inr fun e => (HI.out.ne k hA).2 (by simpa using e)
  have hlo := HI.out.lo
  refine kA kVw_ok (.tmp 33) (.tmp 35) (by rfl) B (.slice A vs.length cap) vs.length (yr vs) (by rfl) hOw w2.heap.size v.cells (by rfl) e3 rfl (ur v) (by omega) (by omega) _ rfl ?_
  intro g' cap' w4 hr hg hat hlt
  have HP := zH (BdIn.push HI.out HG2.out HM2.out hB3 hr hg hat)
  have z0 := (hg.block bB (by omega) (fun e => (HI.out.ne bB e.symm).1 rfl)).trans ((hB3.block _ hbB2).trans HBB.out)
  have z1 := (hg.block w.heap.size (by omega) (fun e => by have := HVL.out _ e.symm; omega)).trans ((hB3.block _ (by omega)).trans HDD.out)
  refine hK' _ _ ⟨z0, z1⟩ ?_
  clear hK' K' hr hg hat hOw e3 hB3
  refine zC rfl ?_
  intro K' hK'
  go_simp
  refine hK' _ _ ⟨z0, z1⟩ ?_
  clear hK' K'
  refine zC rfl ?_
  intro K' hK'
  go_simp
  refine hK' _ _ ⟨z0, z1⟩ ?_
  clear hK' K'
  have b1 : w4.cell? ⟨bB, 1, none⟩ = some (.slice A vs.length cap) := za z0 1 rfl
  have f1 := zb z0 1
  clear z0 z1
  refine yW rfl (by kernel_rfl) ?_
  intro K' hK'
  go_simp
  refine hK' (fun _ => True) _ _ trivial ?_
  refine zG ?_
  clear hK' K' b1 f1
  go_wp2_with fail
  go_ret
  rw [HPW.out]
  exact ⟨rfl, _, HP.out.1, (BdOn.refl bB bM _ w).after HB1.out |>.trans HP.out.2⟩
end
section
open Go.RowKit
attribute [local go_sem] Oper.semAt_some
def gE (k : Nat) : Array Value := #[.int .i64 (if 0 < k then -1 else 0), .int .i64 (if 1 < k then -1 else 0), .int .i64 (if 2 < k then -1 else 0), .int .i64 (if 3 < k then -1 else 0), .int .i64 (if 4 < k then -1 else 0)]
theorem minus_set (k : Nat) (hk : k < 5) : (gE k).setIfInBounds k (.int .i64 (-1)) = gE (k + 1) := by
 match k, hk with
 | 0, _ => rfl
 | 1, _ => rfl
 | 2, _ => rfl
 | 3, _ => rfl
 | 4, _ => rfl
theorem minus_at (k : Nat) (hk : k < 5) : (gE k)[k]? = some (.int .i64 0) := by
 match k, hk with
 | 0, _ => rfl
 | 1, _ => rfl
 | 2, _ => rfl
 | 3, _ => rfl
 | 4, _ => rfl
set_option maxRecDepth 100000 in
theorem uF (w : World) : Calls Tryz.prog 174 #[] w fun e w' => e = .returned (.agg #[.int .i64 (-1), .int .i64 (-1), .int .i64 (-1), .int .i64 (-1), .int .i64 (-1)]) ∧ Below w.heap.size w w' := by
 obtain ⟨w1, hw1, d0, d1, hs1, hB⟩ := yj w (gE 0) (gE 0) 95 95
 have HW1 := zH hw1
 go_enter Tryz.func174, Tryz.ntmps174
 go_wp2_with fail
 rw [show ((w.alloc (.cells #[.int .i64 0, .int .i64 0, .int .i64 0, .int .i64 0, .int .i64 0] 95)).alloc (.cells #[.int .i64 0, .int .i64 0, .int .i64 0, .int .i64 0, .int .i64 0] 95)) = w1 from HW1.out]
 have H0 := zH d0
 have H1 := zH d1
 have HB := zH hB
 clear hw1 d0 d1 hB
 go_loopw [3] (fun i wr => ∃ k : Nat, k ≤ 5 ∧ i = .int .i64 (k : Int) ∧ Hid (wr.heap[w.heap.size]? = some (.cells (gE 0) 95 (0, 0))) ∧ Hid (wr.heap[w.heap.size + 1]? = some (.cells (gE k) 95 (0, 0))) ∧ Hid (Below w.heap.size w wr)) (fun i _ => 5 - (intOf i).toNat)
 case atStart => exact ⟨0, by omega, rfl, H0.out, H1.out, HB.out⟩
 case round =>
  clear H0 H1
  obtain ⟨k, hk, rfl, H0, H1, HBr⟩ := hrel
  by_cases hk5 : k < 5
  case neg =>
   obtain rfl : k = 5 := by omega
   have x0 : wr.cell? ⟨w.heap.size + 1, 0, none⟩ = some (.int .i64 (-1)) := za H1.out 0 rfl
   have x1 : wr.cell? ⟨w.heap.size + 1, 1, none⟩ = some (.int .i64 (-1)) := za H1.out 1 rfl
   have x2 : wr.cell? ⟨w.heap.size + 1, 2, none⟩ = some (.int .i64 (-1)) := za H1.out 2 rfl
   have x3 : wr.cell? ⟨w.heap.size + 1, 3, none⟩ = some (.int .i64 (-1)) := za H1.out 3 rfl
   have x4 : wr.cell? ⟨w.heap.size + 1, 4, none⟩ = some (.int .i64 (-1)) := za H1.out 4 rfl
   have y0 : wr.cell? ⟨w.heap.size, 0, none⟩ = some (.int .i64 0) := za H0.out 0 rfl
   have y1 : wr.cell? ⟨w.heap.size, 1, none⟩ = some (.int .i64 0) := za H0.out 1 rfl
   have y2 : wr.cell? ⟨w.heap.size, 2, none⟩ = some (.int .i64 0) := za H0.out 2 rfl
   have y3 : wr.cell? ⟨w.heap.size, 3, none⟩ = some (.int .i64 0) := za H0.out 3 rfl
   have y4 : wr.cell? ⟨w.heap.size, 4, none⟩ = some (.int .i64 0) := za H0.out 4 rfl
   have f0 := zb H0.out 0
   have f1 := zb H0.out 1
   have f2 := zb H0.out 2
   have f3 := zb H0.out 3
   have f4 := zb H0.out 4
   go_wp2_with fail
   refine bodyPost_ret (v := .agg #[.int .i64 (-1), .int .i64 (-1), .int .i64 (-1), .int .i64 (-1), .int .i64 (-1)]) (by simp [results, Tryz.results174, go_sem, y0, y1, y2, y3, y4]) rfl ⟨rfl, ?_⟩
   exact ((((HBr.out.setCell (Nat.le_refl _) _).setCell (Nat.le_refl _) _).setCell (Nat.le_refl _) _).setCell (Nat.le_refl _) _).setCell (Nat.le_refl _) _
  case pos =>
   have x0 := za H1.out k (minus_at k hk5)
   have f0 := zb H1.out k
   have hk0 : (0 : Int) ≤ (k : Int) := by omega
   have hk1 : (k : Int) < 5 := by omega
   go_wp2_with fail
   go_roundw
   case rel => exact ⟨k + 1, by omega, by go_num, (Below.heap_setCell wr _ _ w.heap.size (by show w.heap.size ≠ w.heap.size + 1; omega)).trans H0.out, by show _ = _; rw [heap_setCell_same wr _ k _ _ _ H1.out, minus_set k hk5], HBr.out.setCell (by show w.heap.size ≤ w.heap.size + 1; omega) _⟩
   case measure => simp [intOf]; omega
end
section
open Go.RowKit
theorem uh (n : Nat) (h1 : 1 ≤ n) (h5 : n ≤ 8) (W : World) : (Instr.makeSlice 38 (.int .i64 n) (.int .i64 n)).run Tryz.prog W = .ok (.slice (some ⟨W.heap.size, 0, none⟩) n n) (W.alloc (.cells ((List.replicate n 0).map (Value.int .i64)).toArray 3)) := by
 obtain rfl | rfl | rfl | rfl | rfl | rfl | rfl | rfl : n = 1 ∨ n = 2 ∨ n = 3 ∨ n = 4 ∨ n = 5 ∨ n = 6 ∨ n = 7 ∨ n = 8 := by omega
 all_goals kernel_rfl
theorem xT {cur : List Value} {x : Value} {k m n : Nat} (hl : cur.length = n) (h : cur.take k = List.replicate k x) (hk : k + m ≤ n) : (splice cur k (List.replicate m x)).take (k + m) = List.replicate (k + m) x ∧ (splice cur k (List.replicate m x)).length = n := by
 constructor
 · unfold splice
   rw [h, ← List.append_assoc, List.take_append_of_le_length (by simp), List.take_of_length_le (by simp)]
   exact List.replicate_append_replicate
 · rw [length_splice _ _ _ (by simp; omega), hl]
theorem Yk {w : World} {b o : Nat} {x : Value} (h : w.cell? ⟨b, o, none⟩ = some x) : ∀ j v, [x][j]? = some v → w.cell? ((⟨b, o, none⟩ : Addr).add j) = some v := by
 intro j v hj
 have h0 : j = 0 := by have := (List.getElem?_eq_some_iff.1 hj).1; simp at this; omega
 subst h0
 simp at hj; subst hj
 rw [Addr.add_lit]; exact h
theorem vp : (Tryz.prog.info? 3).map (·.size) = some 1 := by kernel_rfl
set_option maxRecDepth 100000 in
theorem Y6 (n b : Nat) (h1 : 1 ≤ n) (h5 : n ≤ 8) (u : Int) (w : World) (hb : w.heap[b]? = some (.cells #[.int .i64 u] 3 (0, 0))) :
  Calls Tryz.prog 118 #[.slice (some ⟨b, 0, none⟩) 1 1, .int .i64 n] w fun e w' => ∃ g, e = .returned (.slice (some ⟨g, 0, none⟩) n n) ∧ w.heap.size ≤ g ∧ RowAt w' g (List.replicate n u) ∧ Below w.heap.size w w' := by
 have hmk := uh n h1 h5
 obtain ⟨ar, har⟩ : ∃ ar : List Value, (List.replicate n 0).map (Value.int .i64) = ar := ⟨_, rfl⟩
 rw [har] at hmk
 have hal : ar.length = n := by rw [← har]; simp
 have hc := za hb 0 rfl
 have hbl := zd hb
 have hm := Tryz.bits_Mul 1 n (by omega) (by omega) w
 have e1 : (1 * n / 18446744073709551616 : Nat) = 0 := by omega
 have e2 : (1 * n % 18446744073709551616 : Nat) = n := by omega
 rw [e1, e2] at hm
 have hn0 : ¬ (n : Int) < 0 := by omega
 clear har e1 e2
 go_enter Tryz.func118, Tryz.ntmps118
 go_wp2_with fail
 refine hm.mono ?_
 rintro e w1 ⟨rfl, hw1⟩
 obtain rfl := hw1
 clear hm
 obtain ⟨W0, hW0, b0, hsz, hB0⟩ := zi w1 ar.toArray 3
 have hx : W0.cell? ⟨b, 0, none⟩ = some (.int .i64 u) := (hB0.cell (p := ⟨b, 0, none⟩) hbl).trans hc
 have BB := zH hB0
 have BX := zH b0
 have HX := zH hx
 clear hc hB0 b0 hx hb
 go_wp2_with ((refine wpList_copy_splice rfl (.tmp 31) (.tmp 32) 38 38 rfl 3 Tryz.underlying38 vp (some ⟨w1.heap.size, 0, none⟩) (some ⟨b, 0, none⟩) n n 1 1 rfl rfl w1.heap.size 0 ar 3 BX.out [.int .i64 u] (by simp [Nat.min_def]; omega) (fun _ => ⟨rfl, _, rfl, Yk HX.out⟩) (by simp; omega) (by simp [Value.oneCell']) w1.heap.size w1 BB.out (Nat.le_refl _) ?_); intro w2 hr2 hb2)
 obtain ⟨g, hg⟩ : ∃ g, w1.heap.size = g := ⟨_, rfl⟩
 have s1 := xT (cur := ar) (x := .int .i64 u) (k := 0) (m := 1) (n := n) hal (by simp) (by omega)
 have S1 := zH s1
 have HGG := zH hg
 rw [hg] at hr2 hb2 ⊢
 clear s1 BX HX BB hW0 hsz hmk hg
 go_loopw [8] (fun l wr => ∃ (k : Nat) (cur : List Value), 1 ≤ k ∧ k ≤ n ∧ l = .int .i64 k ∧ Hid (cur.length = n) ∧ Hid (cur.take k = List.replicate k (.int .i64 u)) ∧ Hid (wr.heap[g]? = some (.cells cur.toArray 3 (0, 0))) ∧ Below g w1 wr) (fun l _ => n - (intOf l).toNat)
 case atStart => exact ⟨1, splice ar 0 [.int .i64 u], by omega, h1, rfl, S1.out.2, S1.out.1, hr2, hb2⟩
 case round =>
  obtain ⟨k, cur, hk1, hkn, rfl, hcl, hct, hcell, hbl2⟩ := hrel
  by_cases hlt : k < n
  · clear S1 hr2 hb2
    have hk0 : (0 : Int) ≤ (k : Int) := by omega
    have hk2 : (k : Int) ≤ (n : Int) := by omega
    have hne : ¬ n = k := by omega
    have hne' : ¬ k = n := by omega
    go_upto_region 9 with fail
    obtain ⟨d, hd⟩ : ∃ d, n - k = d := ⟨_, rfl⟩
    obtain ⟨m, hm⟩ : ∃ m, Nat.min k d = m := ⟨_, rfl⟩
    have hm0 : min k d = m := hm
    have hm1 : 1 ≤ m := by omega
    have hm2 : k + m ≤ n := by omega
    have hm3 : m ≤ k := by omega
    clear hm0
    have hsrc : ∀ j v, (List.replicate m (Value.int .i64 u))[j]? = some v → wr.cell? ((⟨g, 0, none⟩ : Addr).add j) = some v := by
     intro j v hj
     have hjm : j < m := by have := (List.getElem?_eq_some_iff.1 hj).1; simpa using this
     rw [List.getElem?_replicate, if_pos hjm] at hj
     cases hj
     rw [Addr.add_lit, Nat.zero_add]
     refine za hcell.out j ?_
     rw [List.getElem?_toArray]
     have h2 := congrArg (fun l => l[j]?) hct.out
     simp only [List.getElem?_take, List.getElem?_replicate] at h2
     rwa [if_pos (by omega), if_pos (by omega)] at h2
    have SP := zH (xT (cur := cur) (x := Value.int .i64 u) (k := k) (m := m) (n := n) hcl.out hct.out hm2)
    have HSRC := zH hsrc
    have HM := zH hm
    have HBL2 := zH hbl2
    have hs1 : IntKind.i64.wrap ((k : Int) + (m : Int)) = (k : Int) + (m : Int) := IntWalk.i64_in _ (by omega)
    have HS1 := zH hs1
    clear hsrc hm hbl2 hs1
    go_region_law ((refine step_copy_splice (by rfl) (.tmp 41) (.tmp 44) 38 38 (by rfl) 3 Tryz.underlying38 vp (some ⟨g, k, none⟩) (some ⟨g, 0, none⟩) d d k n (by simp [go_sem]) (by simp [go_sem]) g k cur 3 hcell.out (List.replicate m (.int .i64 u)) (by rw [List.length_replicate]; exact HM.out.symm) (fun _ => ⟨rfl, _, rfl, HSRC.out⟩) (by rw [List.length_replicate, hcl.out]; exact hm2) (by intro v hv; rw [List.eq_of_mem_replicate hv]; rfl) g w1 HBL2.out.drew (Nat.le_refl _) ?_; intro w3 hr3 hb3; rw [List.length_replicate]))
    all_goals
     rw [HS1.out]
     go_wp2_with fail
     go_frame
     go_roundw
     case rel =>
      (repeat apply Exists.intro)
      exact ⟨⟨k + m, splice cur k (List.replicate m (.int .i64 u)), by omega, by omega, rfl, SP.out.2, SP.out.1, hr3, hb3⟩, by first | rfl | (go_frame; rfl) | (simp [Act.put]; done)⟩
     case measure => simp [intOf]; omega
  · obtain rfl : k = n := by omega
    go_wp2_with fail
    go_ret
    refine ⟨g, rfl, by have := HGG.out; omega, ?_, by have := HGG.out; rw [this]; exact hbl2⟩
    unfold RowAt
    have e := hct.out
    rw [List.take_of_length_le (by have := hcl.out; omega)] at e
    rw [hcell.out, e]; simp
end
section
open Go.RowKit
theorem BdIn.set {B bB bM : Nat} {n : Int} {V : Value} {vs : List Vw} {w : World} (h : BdIn B bB bM n V vs w) {g : Nat} (h1 : g ≠ bB) (h2 : g ≠ bM) (h3 : V.ownBlock ≠ some g) (o : Nat) (u : Value) : BdIn B bB bM n V vs (w.setCell ⟨g, o, none⟩ u) := by
 obtain ⟨m, hm⟩ := h.num
 exact ⟨(Below.heap_setCell w _ _ bB (fun e => h1 e.symm)).trans h.hB, ⟨m, hm.same (Below.heap_setCell w _ _ bM (fun e => h2 e.symm))⟩, h.own.kept (yc w g o _) (.inr h3), h.ne, h.bm, h.lo⟩
theorem BdIn.grown {B bB bM : Nat} {n : Int} {V : Value} {vs : List Vw} {w w' : World} {row : Option Nat} (h : BdIn B bB bM n V vs w) (hg : w.grownBy w' row) (h1 : row ≠ some bB) (h2 : row ≠ some bM) (h3 : ∀ k, V.ownBlock = some k → row ≠ some k) : BdIn B bB bM n V vs w' := by
 obtain ⟨m, hm⟩ := h.num
 refine ⟨(hg.block _ (zd h.hB) (fun e => h1 e.symm)).trans h.hB, ⟨m, hm.same (hg.block _ hm.lt (fun e => h2 e.symm))⟩, h.own.kept hg ?_, h.ne, h.bm, h.lo⟩
 cases hv : V.ownBlock with
 | none => exact .inl rfl
 | some k => exact .inr fun e => h3 k hv e.symm
theorem BdIn.lts {B bB bM : Nat} {n : Int} {V : Value} {vs : List Vw} {w : World} (h : BdIn B bB bM n V vs w) : bB < w.heap.size ∧ bM < w.heap.size ∧ ∀ k, V.ownBlock = some k → B ≤ k ∧ k < w.heap.size := by
 obtain ⟨m, hm⟩ := h.num
 exact ⟨zd h.hB, hm.lt, h.own.lt⟩
theorem BdOn.bel {B bB bM : Nat} {n : Int} {V V' : Value} {vs : List Vw} {w w' : World} (h : BdIn B bB bM n V vs w) (k : BdOn bB bM V w V' w') : Below B w w' := by
 obtain ⟨h1, h2, h3⟩ := h.lts
 have h4 := h.lo
 refine k.1.below (by omega) fun j hj hr => ?_
 rcases hr with e | e | e
 · omega
 · omega
 · have := (h3 j e).1; omega
theorem BdOn.set {bB bM : Nat} {V V' : Value} {w w' : World} (k : BdOn bB bM V w V' w') {g : Nat} (hg : w.heap.size ≤ g) (o : Nat) (u : Value) : BdOn bB bM V w V' (w'.setCell ⟨g, o, none⟩ u) :=
 ⟨k.1.trans (Wrote.of_grown (R := fun k => k = g) (yc w' g o u) (fun k e _ => by cases e; rfl)) (fun k hk e => by subst e; omega), k.2⟩
theorem BdOn.grown {bB bM : Nat} {V V' : Value} {w w' w2 : World} {row : Option Nat} (k : BdOn bB bM V w V' w') (hg : w'.grownBy w2 row) (hr : ∀ j, row = some j → w.heap.size ≤ j) : BdOn bB bM V w V' w2 :=
 ⟨k.1.trans (Wrote.of_grown (R := fun k => row = some k) hg (fun _ e _ => e)) (fun j hj e => by have := hr j e; omega), k.2⟩
theorem row_set {xs : List Int} {N p : Nat} (hx : xs.length = p) (hp : p < N) (u : Int) : (xs ++ List.replicate (N - p) 0).set p u = (xs ++ [u]) ++ List.replicate (N - (p + 1)) 0 := by
 subst hx
 rw [List.set_append_right _ _ (Nat.le_refl _), Nat.sub_self, show N - xs.length = (N - (xs.length + 1)) + 1 by omega, List.replicate_succ, List.set_cons_zero]
 simp
structure RwIn (B bB bM N : Nat) (V0 : Value) (w0 : World) (gN : Nat) (f : Nat → Vw) (vs : List Vw) (p : Nat) (V1 : Value) (W : World) : Prop where
 bd : BdIn B bB bM N V1 (zV f vs p).1 W
 row : RowAt W gN ((zV f vs p).2 ++ List.replicate (N - p) 0)
 on : BdOn bB bM V0 w0 V1 W
 ne : V1.ownBlock ≠ some gN
 ng : w0.heap.size ≤ gN
 nb : gN ≠ bB ∧ gN ≠ bM
theorem RwIn.on_ {B bB bM N : Nat} {V0 : Value} {w0 : World} {gN : Nat} {f : Nat → Vw} {vs : List Vw} {p : Nat} {V1 : Value} {W W' : World} (H : RwIn B bB bM N V0 w0 gN f vs p V1 W) (hb : Below W.heap.size W W') : RwIn B bB bM N V0 w0 gN f vs p V1 W' :=
 ⟨H.bd.on hb, (hb.block _ H.row.lt).trans H.row, H.on.after hb, H.ne, H.ng, H.nb⟩
theorem RwIn.mid {B bB bM N : Nat} {V0 : Value} {w0 : World} {gN : Nat} {f : Nat → Vw} {vs : List Vw} {p : Nat} {V1 V' : Value} {W W' : World} (H : RwIn B bB bM N V0 w0 gN f vs p V1 W) (ho : BdOn bB bM V1 W V' W') :
  RowAt W' gN ((zV f vs p).2 ++ List.replicate (N - p) 0) ∧ V'.ownBlock ≠ some gN := by
 refine ⟨(ho.1.block gN H.row.lt fun hr => ?_).trans H.row, fun e => ?_⟩
 · rcases hr with e | e | e
   · exact H.nb.1 e
   · exact H.nb.2 e
   · exact H.ne e
 · rcases ho.2 gN e with e | e
   · exact H.ne e
   · have := H.row.lt; omega
theorem RwIn.step {B bB bM N : Nat} {V0 : Value} {w0 : World} {gN : Nat} {f : Nat → Vw} {vs : List Vw} {p : Nat} {V1 V' : Value} {W W' : World} (H : RwIn B bB bM N V0 w0 gN f vs p V1 W) (hp : p < N)
  (hb : BdIn B bB bM N V' (xV (zV f vs p).1 (f p)).1 W') (ho : BdOn bB bM V1 W V' W') :
  RwIn B bB bM N V0 w0 gN f vs (p + 1) V' (W'.setCell ⟨gN, p, none⟩ (.int .i64 (xV (zV f vs p).1 (f p)).2)) := by
 obtain ⟨h1, h2⟩ := H.mid ho
 refine ⟨hb.set H.nb.1 H.nb.2 h2 p _, ?_, (H.on.trans ho).set H.ng p _, h2, H.ng, H.nb⟩
 have h3 := h1.set p (xV (zV f vs p).1 (f p)).2
 rw [row_set (xg f vs p) hp] at h3
 exact h3
end
section
open Go.RowKit
attribute [local go_sem] Oper.semAt_some
theorem Xz {w : World} {A : Option Addr} {xs : List Int} (h : IAt w w.heap.size A xs) : Raw w A xs.length (xs.map (Value.int .i64)) := fun h0 => by
 obtain ⟨b, off, e, hlt, hc⟩ := h h0
 refine ⟨b, off, e, hlt, fun j u hj => ?_⟩
 obtain ⟨x, hx, rfl⟩ : ∃ x, xs[j]? = some x ∧ Value.int .i64 x = u := by simpa using hj
 obtain ⟨hjl, rfl⟩ := List.getElem?_eq_some_iff.1 hx
 exact hc j hjl
theorem XA (xs : List Int) : ∀ u ∈ xs.map (Value.int .i64), u.oneCell' = true := fun u hu => by obtain ⟨x, _, rfl⟩ := List.mem_map.1 hu; rfl
theorem ints_own {w : World} {base : Nat} {v : Value} {xs : List Int} (h : OwnR kIn w base v xs.length (xs.map (Value.int .i64))) : ∃ A cap, v = .slice A xs.length cap ∧ xs.length ≤ cap ∧ cap ≤ maxLen ∧ IAtS (fun k => base ≤ k) w A xs := by
 have hlt := h.lt
 obtain ⟨A, cap, rfl, hc, hm, hr⟩ := h.form
 refine ⟨A, cap, rfl, hc, hm, fun h0 => ?_⟩
 obtain ⟨g, rfl, hg, hgl, hcl⟩ := hr h0
 refine ⟨g, 0, rfl, (hlt g hg).1, hgl, fun i hi => ?_⟩
 rw [Nat.zero_add]
 exact hcl i _ (by simp [hi])
theorem hZ (A : Option Addr) (cap : Nat) (xs : List Int) (w : World) (hA : IAt w w.heap.size A xs) (hl : xs.length ≤ 1000000) :
  Calls Tryz.prog 129 #[.slice A xs.length cap] w fun e w' => ∃ A' c, e = .returned (.slice A' xs.length c) ∧ IAtS (fun k => w.heap.size ≤ k) w' A' xs ∧ Below w.heap.size w w' :=
 (ZW A xs.length cap (xs.map (Value.int .i64)) w (by simp) (Xz hA) (XA xs) hl).mono fun e w' ⟨v, h1, h2, h3⟩ => by
  obtain ⟨A', c, h4, _, _, h5⟩ := ints_own h2
  exact ⟨A', c, by rw [h1, h4], h5, h3⟩
set_option maxRecDepth 100000 in
theorem uA (A : Option Addr) (cap : Nat) (xss : List (List Int)) (w : World) (hA : LAt w w.heap.size A xss) (hl : xss.length ≤ 100000) (hll : ∀ v ∈ xss, v.length ≤ 100000) :
  Calls Tryz.prog 169 #[.slice A xss.length cap] w fun e w' => ∃ v, e = .returned v ∧ OwnX cIs (fun k => w.heap.size ≤ k) w' w.heap.size v xss ∧ Below w.heap.size w w' := by
 have HA := zH hA
 have HLL := zH hll
 clear hA hll
 go_enter Tryz.func169, Tryz.ntmps169
 go_wp2_with fail
 go_loopw [3, 8] (fun o i wr => ∃ k : Nat, k ≤ xss.length ∧ i = .int .i64 (k : Int) ∧ Hid (OwnX cIs (fun b => w.heap.size ≤ b) wr w.heap.size o (xss.take k)) ∧ Hid (Below w.heap.size w wr)) (fun _ i _ => xss.length - (intOf i).toNat)
 case atStart => exact ⟨0, by omega, rfl, by rw [List.take_zero]; exact OwnX.nil _ _ _ _, Below.refl _ _⟩
 case round =>
  obtain ⟨k, hk, rfl, HO, HB⟩ := hrel
  by_cases hkl : k < xss.length
  case neg =>
   obtain rfl : k = xss.length := by omega
   rw [List.take_length] at HO
   go_wp2_with fail
   go_ret
   exact ⟨_, rfl, HO.out, HB.out⟩
  case pos =>
   obtain ⟨b, off, A', c', e1, hb, c0, hI⟩ := (HA.out.keep HB.out).at_ k hkl
   subst e1
   have hst : Hid (xss.take (k + 1) = xss.take k ++ [xss[k]]) := List.take_succ_eq_append_getElem hkl
   have hln := HLL.out _ (List.getElem_mem hkl)
   have hbs := HB.out.size
   have hk0 : (0 : Int) ≤ (k : Int) := by omega
   have hk1 : (k : Int) < (xss.length : Int) := by omega
   have htl : (xss.take k).length = k := by rw [List.length_take]; omega
   have HTL := zH htl
   obtain ⟨x, hx⟩ : ∃ x, xss[k] = x := ⟨_, rfl⟩
   rw [hx] at c0 hI hst hln
   have HC := zH (hZ A' c' x wr (hI.more hbs) (by omega))
   clear hx hI hln htl
   go_wp2_with fail
   refine HC.out.mono ?_
   rintro e w2 ⟨A2, c2, rfl, hi2, hb2⟩
   have HB2 : Hid (Below wr.heap.size wr (w2.alloc (.cells #[.slice A2 x.length c2] 38))) := hb2.alloc hb2.size _
   have HI2 : Hid (IAtS (fun b => wr.heap.size ≤ b) (w2.alloc (.cells #[.slice A2 x.length c2] 38)) A2 x) := hi2.keep (KeepB.alloc _ _ _)
   have HG2 := zH (zh w2 (.cells #[.slice A2 x.length c2] 38))
   have HO2 := zH (HO.out.below yv HB2.out (Nat.le_refl _))
   have hsz2 := hb2.size
   have HLT := zH HO.out.lt
   clear hi2 hb2 HC c0
   go_wp2_with (at_builtin; obtain ⟨css, hcl, hcr, hcs⟩ := HO2.out; rw [HTL.out] at hcr; refine yx Yv rfl (.tmp 12) (.tmp 15) rfl w.heap.size u3 k css.flatten rfl hcr w2.heap.size #[.slice A2 x.length c2] rfl HG2.out rfl (by simp [Value.oneCell']) (by omega) (by simp; omega) _ rfl ?_; intro g' cap w7 hr7 hg7 hat7 hlt7)
   have hX : cIs.lies (fun b => (fun b => w.heap.size ≤ b) b ∧ Value.ownBlock u3 ≠ some b) _ [.slice A2 x.length c2] x := ⟨A2, c2, rfl, HI2.out.mono fun b _ hb => ⟨by show w.heap.size ≤ b; omega, fun e => by have := (HLT.out b e).2; omega⟩⟩
   have hr7' := hr7
   rw [← HTL.out] at hr7'
   have HO7 := zH (OwnX.app yv hcl hcs hX hr7' hg7 hat7)
   rw [← hst.out, HTL.out] at HO7
   have HB7 : Hid (Below w.heap.size w w7) := (HB.out.trans (HB2.out.mono hbs)).grown hg7 (by simp; omega) (fun b hb => (HLT.out b hb).1)
   clear hr7 hr7' hg7 hat7 hX hcs hcr hcl
   go_roundw
   case rel => exact ⟨k + 1, by omega, by go_num, HO7, HB7⟩
   case measure => simp [intOf]; omega
end
section
open Go.RowKit
def f0 (inp : List Int) : Nat → Vw := fun p => yD p (inp.getD p 0)
def fk (word : List Rd) (k : Nat) (row : List Int) : Nat → Vw := fun p => xO (word.getD k default) (k + 1) p row
structure PlIn (B bB bM N : Nat) (V0 : Value) (w0 : World) (vs : List Vw) (inp : List Int) (word : List Rd) (k : Nat) (V1 o : Value) (gk : Nat) (W : World) : Prop where
 bd : BdIn B bB bM N V1 (zl vs N inp word k).1 W
 on : BdOn bB bM V0 w0 V1 W
 out : OwnX cIs (fun b => w0.heap.size ≤ b ∧ V1.ownBlock ≠ some b) W w0.heap.size o (zl vs N inp word k).2
 no : ∀ b, V1.ownBlock = some b → o.ownBlock ≠ some b
 row : RowAt W gk ((zl vs N inp word k).2.getD k [])
 gl : w0.heap.size ≤ gk
 ng : V1.ownBlock ≠ some gk
 og : o.ownBlock ≠ some gk
 lt : bB < w0.heap.size ∧ bM < w0.heap.size
theorem rowk_len (vs : List Vw) (N : Nat) (inp : List Int) (word : List Rd) (k : Nat) : ((zl vs N inp word k).2.getD k []).length = N := by
 have hl := yg vs N inp word k
 rw [List.getD_eq_getElem?_getD, List.getElem?_eq_getElem (by omega)]
 exact qz vs N inp word k _ (List.getElem_mem _)
section
variable {B bB bM N : Nat} {V0 : Value} {w0 : World} {vs : List Vw} {inp : List Int} {word : List Rd}
theorem PlIn.start {V1 : Value} {gN : Nat} {W : World} (_hN : N ≤ 5) (h : RwIn B bB bM N V0 w0 gN (f0 inp) vs N V1 W) (hl : bB < w0.heap.size ∧ bM < w0.heap.size) :
  PlIn B bB bM N V0 w0 vs inp word 0 V1 (.slice (some ⟨W.heap.size, 0, none⟩) 1 1) gN (W.alloc (.cells #[.slice (some ⟨gN, 0, none⟩) N N] 38)) := by
 have hrl := xg (f0 inp) vs N
 have hgl := h.row.lt
 have hb := zI W (.cells #[.slice (some ⟨gN, 0, none⟩) N N] 38)
 have hrow := h.row
 rw [Nat.sub_self, List.replicate_zero, List.append_nil] at hrow
 refine ⟨h.bd.on hb, h.on.after hb, ⟨[[.slice (some ⟨gN, 0, none⟩) N N]], rfl, ?_, fun i i1 i2 => ?_⟩, fun b e e2 => ?_, (hb.block _ hgl).trans hrow, h.ng, h.ne, fun e => ?_, hl⟩
 · refine OwnR.of_block (K := kIs) (n := 1) (zh W _) ?_ rfl (by unfold maxLen; omega)
   have := h.on.1.size; omega
 · obtain rfl : i = 0 := by simp at i1; omega
   refine ⟨some ⟨gN, 0, none⟩, N, ?_, ?_⟩
   · show [Value.slice (some ⟨gN, 0, none⟩) N N] = [.slice (some ⟨gN, 0, none⟩) (zV (f0 inp) vs N).2.length N]
     rw [hrl]
   · intro _
     refine ⟨gN, 0, rfl, ⟨⟨h.ng, h.ne⟩, fun e => ?_⟩, by simp; omega, fun j hj => ?_⟩
     · have : W.heap.size = gN := by simpa [Value.ownBlock] using e
       omega
     · rw [Nat.zero_add]; exact RowAt.cell ((hb.block _ hgl).trans hrow) j hj
 · have h1 : W.heap.size = b := by simpa [Value.ownBlock] using e2
   have := (h.bd.own.lt b e).2; omega
 · have h1 : W.heap.size = gN := by simpa [Value.ownBlock] using e
   omega
theorem PlIn.outn {k : Nat} {V1 o : Value} {gk : Nat} {W Wx : World} {gX : Nat} {f : Nat → Vw} {V3 : Value} {p : Nat} {W3 : World} (h : PlIn B bB bM N V0 w0 vs inp word k V1 o gk W) (hx : Below W.heap.size W Wx)
  (r : RwIn B bB bM N V1 Wx gX f (zl vs N inp word k).1 p V3 W3) :
  OwnX cIs (fun b => w0.heap.size ≤ b ∧ V3.ownBlock ≠ some b) W3 w0.heap.size o (zl vs N inp word k).2 ∧ (∀ b, V3.ownBlock = some b → o.ownBlock ≠ some b) := by
 have hsx := hx.size
 have hol := h.out.lt
 have h1 : OwnX cIs (fun b => (w0.heap.size ≤ b ∧ V1.ownBlock ≠ some b) ∧ V3.ownBlock ≠ some b) Wx w0.heap.size o (zl vs N inp word k).2 :=
  (h.out.below yv hx (Nat.le_refl _)).mono yv fun b hb hs => ⟨hs, fun e => by
   rcases r.on.2 b e with e | e
   · exact hs.2 e
   · omega⟩
 refine ⟨(h1.keep yv (r.on.1.keep fun b _ hs hr => ?_) fun b hb => r.on.1.block b (by have := (hol b hb).2; omega) fun hr => ?_).mono yv fun b _ hs => ⟨hs.1.1, hs.2⟩, fun b e e2 => ?_⟩
 · rcases hr with e | e | e
   · have := h.lt.1; have := hs.1.1; omega
   · have := h.lt.2; have := hs.1.1; omega
   · exact hs.1.2 e
 · have := (hol b hb).1
   rcases hr with e | e | e
   · have := h.lt.1; omega
   · have := h.lt.2; omega
   · exact h.no b e hb
 · rcases r.on.2 b e with e | e
   · exact h.no b e e2
   · have := (hol b e2).2; omega
theorem PlIn.rown {k : Nat} {V1 o : Value} {gk : Nat} {W Wx : World} {gX : Nat} {f : Nat → Vw} {V3 : Value} {p : Nat} {W3 : World} (h : PlIn B bB bM N V0 w0 vs inp word k V1 o gk W) (hx : Below W.heap.size W Wx)
  (r : RwIn B bB bM N V1 Wx gX f (zl vs N inp word k).1 p V3 W3) : RowAt W3 gk ((zl vs N inp word k).2.getD k []) := by
 have hsx := hx.size
 have hgl := h.row.lt
 refine (r.on.1.block gk (by omega) fun hr => ?_).trans ((hx.block _ hgl).trans h.row)
 have := h.gl
 rcases hr with e | e | e
 · have := h.lt.1; omega
 · have := h.lt.2; omega
 · exact h.ng e
theorem PlIn.next {k : Nat} {V1 o : Value} {gk : Nat} {W Wx : World} {gX : Nat} {V3 : Value} {W3 W4 w5 : World} {css : List (List Value)} {g' cap : Nat} (h : PlIn B bB bM N V0 w0 vs inp word k V1 o gk W) (hx : Below W.heap.size W Wx)
  (r : RwIn B bB bM N V1 Wx gX (fk word k ((zl vs N inp word k).2.getD k [])) (zl vs N inp word k).1 N V3 W3) (h4 : Below W3.heap.size W3 W4)
  (hcl : css.length = (zl vs N inp word k).2.length) (hcs : ∀ (i : Nat) (h1 : i < css.length) (h2 : i < (zl vs N inp word k).2.length), cIs.lies (fun b => (w0.heap.size ≤ b ∧ V3.ownBlock ≠ some b) ∧ o.ownBlock ≠ some b) W4 css[i] (zl vs N inp word k).2[i])
  (hr : OwnR kIs w5 w0.heap.size (.slice (some ⟨g', 0, none⟩) ((zl vs N inp word k).2.length + 1) cap) ((zl vs N inp word k).2.length + 1) (css.flatten ++ [.slice (some ⟨gX, 0, none⟩) N N]))
  (hg : W4.grownBy w5 o.ownBlock) (hat : o.ownBlock = some g' ∨ g' = W4.heap.size) :
  PlIn B bB bM N V0 w0 vs inp word (k + 1) V3 (.slice (some ⟨g', 0, none⟩) ((zl vs N inp word k).2.length + 1) cap) gX w5 := by
 obtain ⟨ho3, hno⟩ := h.outn hx r
 have hrl := xg (fk word k ((zl vs N inp word k).2.getD k [])) (zl vs N inp word k).1 N
 have hgl := r.row.lt
 have hs4 := h4.size
 have hsx := hx.size
 have hol := ho3.lt
 have hlW := h.on.1.size
 have hxg := r.ng
 have hogX : o.ownBlock ≠ some gX := fun e => by
  have := (h.out.lt gX e).2; omega
 have hrow := r.row
 rw [Nat.sub_self, List.replicate_zero, List.append_nil] at hrow
 have hrow5 : RowAt w5 gX (zV (fk word k ((zl vs N inp word k).2.getD k [])) (zl vs N inp word k).1 N).2 := (hg.block gX (by omega) (fun e => hogX e.symm)).trans ((h4.block _ hgl).trans hrow)
 have e1 : (zl vs N inp word (k + 1)).2 = (zl vs N inp word k).2 ++ [(zV (fk word k ((zl vs N inp word k).2.getD k [])) (zl vs N inp word k).1 N).2] := rfl
 have hlen := yg vs N inp word k
 have hV3 : V3.ownBlock ≠ some g' := fun e => by
  rcases hat with e2 | e2
  · exact hno g' e e2
  · have := (r.bd.own.lt g' e).2; omega
 have hX : cIs.lies (fun b => (w0.heap.size ≤ b ∧ V3.ownBlock ≠ some b) ∧ o.ownBlock ≠ some b) W4 [.slice (some ⟨gX, 0, none⟩) N N] (zV (fk word k ((zl vs N inp word k).2.getD k [])) (zl vs N inp word k).1 N).2 := by
  refine ⟨some ⟨gX, 0, none⟩, N, by rw [hrl], fun _ => ⟨gX, 0, rfl, ⟨⟨by omega, r.ne⟩, hogX⟩, by omega, fun j hj => ?_⟩⟩
  rw [Nat.zero_add]; exact RowAt.cell ((h4.block _ hgl).trans hrow) j hj
 refine ⟨?_, ?_, ?_, ?_, ?_, by omega, r.ne, ?_, h.lt⟩
 · refine (r.bd.on h4).grown hg (fun e => ?_) (fun e => ?_) (fun b hb e => hno b hb e)
   · have := (hol bB e).1; have := h.lt.1; omega
   · have := (hol bM e).1; have := h.lt.2; omega
 · exact ((h.on.after hx).trans (r.on.after h4)).grown hg (fun j hj => (hol j hj).1)
 · rw [e1]
   exact OwnX.app yv hcl hcs hX hr hg hat
 · intro b hb e
   have : g' = b := by simpa [Value.ownBlock] using e
   subst this
   exact hV3 hb
 · rw [e1, List.getD_eq_getElem?_getD, List.getElem?_append_right (by omega), hlen, Nat.sub_self]
   exact hrow5
 · intro e
   have : g' = gX := by simpa [Value.ownBlock] using e
   subst this
   rcases hat with e2 | e2
   · exact hogX e2
   · omega
end
def xr (r : Rd) (p : Nat) (row : List Int) (q j : Nat) : Int := if j < q then zT r p row j else -1
def qZ (r : Rd) (k p : Nat) (row : List Int) (q : Nat) : Vw := ⟨p, k, 0, xr r p row q 0, xr r p row q 1, xr r p row q 2, xr r p row q 3, xr r p row q 4⟩
theorem QP (r : Rd) (p : Nat) (row : List Int) (j : Nat) : xr r p row row.length j = zT r p row j := by
 unfold xr zT
 split
 · rfl
 · rename_i h; rw [if_neg (fun h2 => h h2.1)]
theorem J6 (r : Rd) (k p : Nat) (row : List Int) : qZ r k p row row.length = xO r k p row := by
 unfold qZ xO; simp only [QP]
theorem uP (r : Rd) (p : Nat) (row : List Int) (q j : Nat) (h : j ≠ q) : xr r p row (q + 1) j = xr r p row q j := by
 unfold xr
 by_cases h1 : j < q
 · rw [if_pos h1, if_pos (by omega)]
 · rw [if_neg h1, if_neg (by omega)]
theorem seenQ_no (r : Rd) (k p : Nat) (row : List Int) (q : Nat) (h : (r.h p).toNat.testBit q = false) : qZ r k p row (q + 1) = qZ r k p row q := by
 have key : ∀ j, xr r p row (q + 1) j = xr r p row q j := fun j => by
  by_cases e : j = q
  · subst e
    have h1 : zT r p row j = -1 := by unfold zT; rw [if_neg (fun h2 => by rw [h] at h2; cases h2.2)]
    unfold xr
    rw [if_pos (by omega), if_neg (by omega), h1]
  · exact uP r p row q j e
 unfold qZ; simp only [key]
theorem J5 (r : Rd) (k p : Nat) (row : List Int) (q : Nat) (hq : q < row.length) (h5 : q < 5) (h : (r.h p).toNat.testBit q = true) : (qZ r k p row q).cells.setIfInBounds (3 + q) (.int .i64 row[q]) = (qZ r k p row (q + 1)).cells := by
 have e : xr r p row (q + 1) q = row[q] := by
  unfold xr
  rw [if_pos (by omega)]
  unfold zT
  rw [if_pos ⟨hq, h⟩, List.getD_eq_getElem?_getD, List.getElem?_eq_getElem hq]; rfl
 have key := fun j (h : j ≠ q) => uP r p row q j h
 unfold qZ Vw.cells
 match q, h5 with
 | 0, _ => simp only [key 1 (by decide), key 2 (by decide), key 3 (by decide), key 4 (by decide), e]; rfl
 | 1, _ => simp only [key 0 (by decide), key 2 (by decide), key 3 (by decide), key 4 (by decide), e]; rfl
 | 2, _ => simp only [key 1 (by decide), key 0 (by decide), key 3 (by decide), key 4 (by decide), e]; rfl
 | 3, _ => simp only [key 1 (by decide), key 2 (by decide), key 0 (by decide), key 4 (by decide), e]; rfl
 | 4, _ => simp only [key 1 (by decide), key 2 (by decide), key 3 (by decide), key 0 (by decide), e]; rfl
theorem Rd.cells_h (r : Rd) (p : Nat) (hp : p < 5) : r.cells[1 + p]? = some (.int .i64 (r.h p)) := by
 match p, hp with
 | 0, _ => rfl
 | 1, _ => rfl
 | 2, _ => rfl
 | 3, _ => rfl
 | 4, _ => rfl
theorem XY {h j : Nat} (hh : h < 32) (hj : j < 5) : (bits BinOp.and IntKind.i64 ((h : Int) / 2 ^ j) 1 == 1) = h.testBit j := by
 match j, hj with
 | 0, _ => exact of_decide_eq_true (kT (p := fun h => decide ((bits BinOp.and IntKind.i64 ((h : Int) / 2 ^ 0) 1 == 1) = h.testBit 0)) (by decide +kernel) hh)
 | 1, _ => exact of_decide_eq_true (kT (p := fun h => decide ((bits BinOp.and IntKind.i64 ((h : Int) / 2 ^ 1) 1 == 1) = h.testBit 1)) (by decide +kernel) hh)
 | 2, _ => exact of_decide_eq_true (kT (p := fun h => decide ((bits BinOp.and IntKind.i64 ((h : Int) / 2 ^ 2) 1 == 1) = h.testBit 2)) (by decide +kernel) hh)
 | 3, _ => exact of_decide_eq_true (kT (p := fun h => decide ((bits BinOp.and IntKind.i64 ((h : Int) / 2 ^ 3) 1 == 1) = h.testBit 3)) (by decide +kernel) hh)
 | 4, _ => exact of_decide_eq_true (kT (p := fun h => decide ((bits BinOp.and IntKind.i64 ((h : Int) / 2 ^ 4) 1 == 1) = h.testBit 4)) (by decide +kernel) hh)
theorem uO {r : Rd} (h : yC r = 0) (p : Nat) (hp : p < 5) : 0 ≤ r.h p ∧ r.h p < 32 := by
 unfold yC at h
 split at h
 · cases h
 · rename_i hn
   have hn1 : 1 ≤ r.n ∧ r.n ≤ 5 := by omega
   have key : ∀ k, k ≤ 5 → yA r (5 - k) k = 0 → ∀ q, k ≤ q → q < 5 → xG r.n q (r.h q) = 0 := by
    intro k hk
    induction hm : 5 - k generalizing k with
    | zero => intro _ q h1 h2; omega
    | succ m ih =>
     intro hz q h1 h2
     unfold yA at hz
     split at hz
     · rename_i hne; exact absurd hz hne
     · rename_i hne
       by_cases e : q = k
       · subst e; simpa using hne
       · exact ih (k + 1) (by omega) (by omega) hz q (by omega) h2
   have h1 := key 0 (by omega) h p (by omega) hp
   unfold xG at h1
   split at h1
   · split at h1
     · cases h1
     · rename_i h2; have : r.h p = 0 := by simpa using h2
       omega
   · split at h1
     · cases h1
     · rename_i h2
       have h3 : (2 ^ r.n.toNat - 1 : Nat) < 32 := by
        have : 2 ^ r.n.toNat ≤ 2 ^ 5 := Nat.pow_le_pow_right (by omega) (by omega)
        omega
       omega
end
section
open Go.RowKit
attribute [local go_sem] Oper.semAt_some
set_option maxRecDepth 100000 in
theorem play_any (B bB bM N : Nat) (h1 : 1 ≤ N) (h5 : N ≤ 5) (V : Value) (vs : List Vw) (hvs : vs.length ≤ 40000) (inp : List Int) (hin : inp.length = N) (word : List Rd) (hk6 : word.length ≤ 6) (hwd : ∀ r ∈ word, zZ r = 0 ∧ r.n = N)
  (A AW : Option Addr) (ci cw : Nat) (w : World) (hBw : B ≤ w.heap.size) (H : BdIn B bB bM N V vs w) (hI : IAt w B A inp) (hW : RAt w B AW word) :
  Calls Tryz.prog 139 #[.pointer (some ⟨bB, 0, none⟩), .slice A inp.length ci, .slice AW word.length cw] w fun e w' => ∃ v V', e = .returned v ∧ BdIn B bB bM N V' (zl vs N inp word word.length).1 w' ∧ BdOn bB bM V w V' w' ∧
   OwnX cIs (fun b => w.heap.size ≤ b ∧ V'.ownBlock ≠ some b) w' w.heap.size v (zl vs N inp word word.length).2 ∧ ∀ b, V'.ownBlock = some b → v.ownBlock ≠ some b := by
 have HI := zH hI
 have HW := zH hW
 have HWD := zH hwd
 have HH := zH H
 have hmk := uh N h1 (by omega)
 have HM := zH hmk
 obtain ⟨ar, har⟩ : ∃ ar, ((List.replicate N 0).map (Value.int .i64)).toArray = ar := ⟨_, rfl⟩
 rw [har] at hmk
 have HAR := zH har
 have b0 := za H.hB 0 rfl
 have HIN := zH hin
 rw [hin]
 obtain ⟨l1, l2, l3⟩ := H.lts
 clear har hI hW hwd H hin l3
 go_enter Tryz.func139, Tryz.ntmps139
 go_wp2_with fail
 obtain ⟨w1, hw1, d0, hs1, hB1⟩ := zi w ar 3
 rw [hw1]
 have R1 : Hid (RwIn B bB bM N V w w.heap.size (f0 inp) vs 0 V w1) :=
  ⟨HH.out.on hB1, by show w1.heap[w.heap.size]? = _; rw [d0, ← HAR.out]; rfl, (BdOn.refl _ _ _ _).after hB1, fun e => by have := (HH.out.own.lt _ e).2; omega, Nat.le_refl _, by omega, by omega⟩
 clear hw1 d0 hB1 b0
 go_loopw [24] (fun i wr => ∃ (p : Nat) (V1 : Value), p ≤ N ∧ i = .int .i64 (p : Int) ∧ Hid (RwIn B bB bM N V w w.heap.size (f0 inp) vs p V1 wr)) (fun i _ => N - (intOf i).toNat)
 case atStart => exact ⟨0, V, by omega, rfl, R1.out⟩
 case round =>
  clear R1
  obtain ⟨p, V1, hp, rfl, HR⟩ := hrel
  by_cases hpN : p < N
  case neg =>
   obtain rfl : N = p := by omega
   go_wp2_with fail
   have P0 := zH (PlIn.start (word := word) h5 HR.out ⟨l1, l2⟩)
   obtain ⟨W1, hW1⟩ : ∃ W1, wr.alloc (.cells #[.slice (some ⟨w.heap.size, 0, none⟩) N N] 38) = W1 := ⟨_, rfl⟩
   rw [hW1] at P0 ⊢
   obtain ⟨g0, hg0⟩ : ∃ g0, wr.heap.size = g0 := ⟨_, rfl⟩
   rw [hg0] at P0 ⊢
   obtain ⟨gn, hgn⟩ : ∃ gn, w.heap.size = gn := ⟨_, rfl⟩
   rw [hgn]
   have P0 : Hid (PlIn B bB bM N V w vs inp word 0 V1 (.slice (some ⟨g0, 0, none⟩) 1 1) gn W1) := by rw [← hgn]; exact P0.out
   clear hW1 hg0 hgn HR HI HIN
   go_loopw [7, 9, 44] (fun nw o i wr => ∃ (k : Nat) (V1 : Value) (gk : Nat), k ≤ word.length ∧ nw = .slice (some ⟨gk, 0, none⟩) N N ∧ i = .int .i64 (k : Int) ∧ Hid (PlIn B bB bM N V w vs inp word k V1 o gk wr)) (fun _ _ i _ => word.length - (intOf i).toNat)
   case atStart => exact ⟨0, V1, gn, by omega, rfl, rfl, P0.out⟩
   case round =>
    clear P0
    obtain ⟨k, V2, gk, hk, rfl, rfl, HP⟩ := hrel
    by_cases hkl : k < word.length
    case neg =>
     obtain rfl : k = word.length := by omega
     go_wp2_with fail
     go_ret
     exact ⟨_, V2, rfl, HP.out.bd, HP.out.on, HP.out.out, HP.out.no⟩
    case pos =>
     obtain ⟨bw, ow, e1, hbw, c0, c1, c2, c3, c4, c5, c6⟩ := (HW.out.keep (HP.out.on.bel HH.out)).row k hkl
     subst e1
     have hrd := HWD.out _ (List.getElem_mem hkl)
     have hgd : word.getD k default = word[k] := by rw [List.getD_eq_getElem?_getD, List.getElem?_eq_getElem hkl]; rfl
     obtain ⟨r, hr⟩ : ∃ r, word[k] = r := ⟨_, rfl⟩
     rw [hr] at c0 c1 c2 c3 c4 c5 c6 hrd hgd
     have HGD := zH hgd
     have HRD := zH (kE hrd.1).2.2.1
     have hk0 : (0 : Int) ≤ (k : Int) := by omega
     have hk1 : (k : Int) < (word.length : Int) := by omega
     have hkw : IntKind.i64.wrap ((k : Int) + 1) = (k : Int) + 1 := by rw [IntKind.wrap_i64]; omega
     have b0 : wr.cell? ⟨bB, 0, none⟩ = some (.int .i64 (N : Int)) := za HP.out.bd.hB 0 rfl
     have hbBw : bB < wr.heap.size := HP.out.bd.lts.1
     have hbww : bw < wr.heap.size := by have := HP.out.on.1.size; omega
     clear hr hrd hgd
     go_wp2_with fail
     clear c0 c1 c2 c3 c4 c5 c6 b0
     obtain ⟨W1, hW1, g0, hsz1, hBx⟩ := zi wr r.cells 172
     unfold Rd.cells at hW1
     rw [hW1]
     obtain ⟨W2, hW2, x0, hsz2, hBy⟩ := zi W1 ar 3
     rw [hW2]
     rw [hsz1] at x0
     clear hW1 hW2
     have HG0 := zH g0
     have HBX := zH hBx
     obtain ⟨row, hrow⟩ : ∃ row, (zl vs N inp word k).2.getD k [] = row := ⟨_, rfl⟩
     have HROW := zH hrow
     have HRL : Hid (row.length = N) := by rw [← hrow]; exact rowk_len vs N inp word k
     have hll := HP.out.lt
     have hw0 := HP.out.on.1.size
     have R0 : Hid (RwIn B bB bM N V2 W1 (wr.heap.size + 1) (fk word k row) (zl vs N inp word k).1 0 V2 W2) :=
      ⟨(HP.out.bd.on hBx).on hBy, by show W2.heap[_]? = _; rw [x0, ← HAR.out]; rfl, (BdOn.refl _ _ _ _).after hBy, fun e => by have := (HP.out.bd.own.lt _ e).2; omega, by omega, by omega, by omega⟩
     have HPF := zH (kd vs N inp word k)
     have hNk : (k + 1) * N ≤ 35 := by
      have := Nat.mul_le_mul (show k + 1 ≤ 7 by omega) h5
      omega
     clear x0 hBy hrow hBx g0
     obtain ⟨wo, rfl⟩ : ∃ x, x = wr := ⟨_, rfl⟩
     go_loopw [56] (fun i wx => ∃ (q : Nat) (V3 : Value), q ≤ N ∧ i = .int .i64 (q : Int) ∧ Hid (RwIn B bB bM N V2 W1 (wo.heap.size + 1) (fk word k row) (zl vs N inp word k).1 q V3 wx)) (fun i _ => N - (intOf i).toNat)
     case atStart => exact ⟨0, V2, by omega, rfl, R0.out⟩
     case round =>
      clear R0
      obtain ⟨q, V3, hq, rfl, HR⟩ := hrel
      by_cases hqN : q < N
      case neg =>
       obtain rfl : N = q := by omega
       have ho3 := HP.out.outn HBX.out HR.out
       have hlen := yg vs N inp word k
       have hgX := HR.out.row.lt
       have HG4 := zH (zh wr (.cells #[.slice (some ⟨wo.heap.size + 1, 0, none⟩) N N] 38))
       have HO4 := zH (ho3.1.below yv (zI wr (.cells #[.slice (some ⟨wo.heap.size + 1, 0, none⟩) N N] 38)) (Nat.le_refl _))
       have HL := zH hlen
       have hwr0 : w.heap.size ≤ wr.heap.size := by have := HR.out.on.1.size; omega
       clear ho3 hlen
       go_wp2_with (at_builtin; obtain ⟨css, hcl, hcr, hcs⟩ := HO4.out; rw [HL.out] at hcr; refine yx Yv rfl (.tmp 92) (.tmp 94) rfl w.heap.size u9 (k + 1) css.flatten rfl hcr wr.heap.size #[.slice (some ⟨wo.heap.size + 1, 0, none⟩) N N] rfl HG4.out rfl (by simp [Value.oneCell']) (by omega) (by simp; omega) _ rfl ?_; intro g' cap w7 hr7 hg7 hat7 hlt7)
       have HRX := HR.out
       rw [← HROW.out] at HRX
       have hr7' := hr7
       rw [← HL.out] at hr7'
       have HPN := zH (PlIn.next HP.out HBX.out HRX (zI wr _) hcl hcs hr7' hg7 hat7)
       rw [HL.out] at HPN
       clear hr7 hr7' hg7 hat7 hcs hcr hcl HRX
       go_roundw
       case rel => exact ⟨k + 1, V3, wo.heap.size + 1, by omega, rfl, by go_num, HPN⟩
       case measure => simp [intOf]; omega
      case pos =>
       go_wp2_with fail
       refine (uF wr).mono ?_
       rintro e w3 ⟨rfl, hb3⟩
       have R3 := zH (HR.out.on_ hb3)
       go_wp2_with fail
       obtain ⟨W4, hW4, v0, hsz4, hB4⟩ := zi w3 (qZ r (k + 1) q row 0).cells 224
       have hW4' : w3.alloc (.cells #[.int .i64 (q : Int), .int .i64 ((k : Int) + 1), .int .i64 0, .int .i64 (-1), .int .i64 (-1), .int .i64 (-1), .int .i64 (-1), .int .i64 (-1)] 224) = W4 := by rw [← hW4]; rfl
       rw [hW4']
       have hs3 := hb3.size
       clear hW4 hW4' hb3
       have hg0w : wo.heap.size < w3.heap.size := by have := HR.out.on.1.size; omega
       have HG3 : Hid (w3.heap[wo.heap.size]? = some (.cells r.cells 172 (0, 0))) := by
        refine (R3.out.on.1.block wo.heap.size (by omega) fun hr => ?_).trans HG0.out
        have := HP.out.bd.lts
        rcases hr with e | e | e
        · omega
        · omega
        · have := (this.2.2 _ e).2; omega
       have HROW3 : Hid (RowAt w3 gk row) := by have := HP.out.rown HBX.out R3.out; rw [HROW.out] at this; exact this
       obtain ⟨wp, rfl⟩ : ∃ x, x = wr := ⟨_, rfl⟩
       go_loopw [66] (fun i wy => ∃ j : Nat, j ≤ N ∧ i = .int .i64 (j : Int) ∧ Hid (wy.heap[w3.heap.size]? = some (.cells (qZ r (k + 1) q row j).cells 224 (0, 0))) ∧ Hid (Below w3.heap.size w3 wy)) (fun i _ => N - (intOf i).toNat)
       case atStart => exact ⟨0, by omega, rfl, v0, hB4⟩
       case round =>
        clear v0 hB4 hsz4
        obtain ⟨j, hj, rfl, HV, HBy⟩ := hrel
        by_cases hjN : j < N
        case neg =>
         obtain rfl : N = j := by omega
         have hfk : fk word k row q = qZ r (k + 1) q row N := by
          have := J6 r (k + 1) q row
          rw [HRL.out] at this
          rw [this]
          show xO (word.getD k default) (k + 1) q row = _
          rw [HGD.out]
         obtain ⟨vw, hvw⟩ : ∃ vw, qZ r (k + 1) q row N = vw := ⟨_, rfl⟩
         rw [hvw] at HV hfk
         have x0 : wr.cell? ⟨w3.heap.size, 0, none⟩ = some (.int .i64 vw.p) := za HV.out 0 rfl
         have x1 : wr.cell? ⟨w3.heap.size, 1, none⟩ = some (.int .i64 vw.r) := za HV.out 1 rfl
         have x2 : wr.cell? ⟨w3.heap.size, 2, none⟩ = some (.int .i64 vw.i) := za HV.out 2 rfl
         have x3 : wr.cell? ⟨w3.heap.size, 3, none⟩ = some (.int .i64 vw.h0) := za HV.out 3 rfl
         have x4 : wr.cell? ⟨w3.heap.size, 4, none⟩ = some (.int .i64 vw.h1) := za HV.out 4 rfl
         have x5 : wr.cell? ⟨w3.heap.size, 5, none⟩ = some (.int .i64 vw.h2) := za HV.out 5 rfl
         have x6 : wr.cell? ⟨w3.heap.size, 6, none⟩ = some (.int .i64 vw.h3) := za HV.out 6 rfl
         have x7 : wr.cell? ⟨w3.heap.size, 7, none⟩ = some (.int .i64 vw.h4) := za HV.out 7 rfl
         have R4 := R3.out.on_ HBy.out
         have hsq := ka (fk word k row) (zl vs N inp word k).1 q
         have HAD := zH (X4 B bB bM N V3 (zV (fk word k row) (zl vs N inp word k).1 q).1 vw (by have := HPF.out; omega) wr R4.bd)
         have HR4 := zH R4
         have HFK := zH hfk
         have hq0 : (0 : Int) ≤ (q : Int) := by omega
         have hq1 : (q : Int) < (N : Int) := by omega
         clear hvw R4 hsq hfk
         go_wp2_with fail
         refine HAD.out.mono ?_
         rintro e w5 ⟨rfl, V5, hd5, ho5⟩
         have hm5 := HR4.out.mid ho5
         rw [← HFK.out] at hd5
         have HS5 := zH (HR4.out.step hqN hd5 ho5)
         rw [HFK.out] at HS5
         obtain ⟨u5, c5⟩ : ∃ u : Int, w5.cell? ⟨wo.heap.size + 1, q, none⟩ = some (.int .i64 u) := ⟨_, hm5.1.cell q (by rw [List.length_append, xg, List.length_replicate]; omega)⟩
         have y5 := hm5.1.froz q
         clear hm5 hd5 ho5 HAD x0 x1 x2 x3 x4 x5 x6 x7
         go_wp2_with fail
         go_roundw
         case rel => exact ⟨q + 1, V5, by omega, by go_num, HS5⟩
         case measure => simp [intOf]; omega
        case pos =>
         have hgk3 := HROW3.out.lt
         have hjr : j < row.length := by have := HRL.out; omega
         have n0 := (HBy.out.cell (p := ⟨gk, j, none⟩) hgk3).trans (HROW3.out.cell j hjr)
         have m0 : wr.cell? ⟨wo.heap.size, 1 + q, none⟩ = some (.int .i64 (r.h q)) := (HBy.out.cell (p := ⟨wo.heap.size, 1 + q, none⟩) hg0w).trans (za HG3.out (1 + q) (Rd.cells_h r q (by omega)))
         obtain ⟨y, hy⟩ : ∃ y, row[j] = y := ⟨_, rfl⟩
         rw [hy] at n0
         have HYY := zH hy
         have hsm := uO HRD.out q (by omega)
         obtain ⟨h, hh⟩ := Int.eq_ofNat_of_zero_le hsm.1
         have hh32 : h < 32 := by omega
         have HHH := zH hh
         rw [hh] at m0
         have hj0 : (0 : Int) ≤ (j : Int) := by omega
         have hj1 : (j : Int) < (N : Int) := by omega
         have hj5 : (j : Int) < 5 := by omega
         have hq0 : (0 : Int) ≤ (q : Int) := by omega
         have hq5 : (q : Int) < 5 := by omega
         have hbt := XY hh32 (show j < 5 by omega)
         have hrt : (r.h q).toNat = h := by rw [hh]; rfl
         have HNO := zH (seenQ_no r (k + 1) q row j)
         have HYES := zH (J5 r (k + 1) q row j hjr (by omega))
         rw [hrt, hy] at HYES
         rw [hrt] at HNO
         have z0 : wr.cell? ⟨w3.heap.size, 3 + j, none⟩ = some (.int .i64 ((qZ r (k + 1) q row j).h j)) := za HV.out (3 + j) (Vw.cells_h _ j (by omega))
         have zf := zb HV.out (3 + j)
         clear hy hsm hh hrt
         by_cases hb : h.testBit j = true
         case pos =>
          rw [hb] at hbt
          have HS := zH (HYES.out hb)
          clear HNO HYES hb
          go_wp2_with fail
          go_roundw
          case rel => exact ⟨j + 1, by omega, by go_num, by show _ = _; rw [heap_setCell_same wr _ (3 + j) _ _ _ HV.out, HS.out], HBy.out.setCell (Nat.le_refl _) _⟩
          case measure => simp [intOf]; omega
         case neg =>
          have hb2 : h.testBit j = false := by simpa using hb
          rw [hb2] at hbt
          have HS := zH (HNO.out hb2)
          clear HNO HYES hb hb2
          go_wp2_with fail
          go_roundw
          case rel => exact ⟨j + 1, by omega, by go_num, by show _ = _; rw [HS.out]; exact HV.out, HBy.out⟩
          case measure => simp [intOf]; omega
  case pos =>
   have hin := HIN.out
   obtain ⟨bi, oi, e1, hbi, i0⟩ := (HI.out.keep (HR.out.on.bel HH.out)).at_ p (by omega)
   subst e1
   have hip : Hid ((f0 inp) p = yD p inp[p]) := by show yD p (inp.getD p 0) = _; rw [List.getD_eq_getElem?_getD, List.getElem?_eq_getElem (by omega)]; rfl
   obtain ⟨x, hx⟩ : ∃ x, inp[p] = x := ⟨_, rfl⟩
   rw [hx] at i0 hip
   have hp0 : (0 : Int) ≤ (p : Int) := by omega
   have hp1 : (p : Int) < (N : Int) := by omega
   have hbl : bi < wr.heap.size := by have := HR.out.row.lt; omega
   clear hx hin
   go_wp2_with fail
   have b0 := HR.out.bd.hB
   have HSZ := zH (ka (f0 inp) vs p)
   refine zr [(0, true), (1, true), (2, true), (3, true), (4, true), (5, true), (6, true), (7, true), (8, false), (9, false), (10, false), (11, false), (12, false)]
    (fun W => W.cell? ⟨bi, oi + p, none⟩ = some (.int .i64 x)) (by kernel_rfl) (by kernel_rfl) (by exact i0) ?_
   repeat
    apply zA rfl
    · rintro K' hK' W y0
      go_simp
      exact hK'
   refine zC rfl ?_
   intro K' hK'
   go_simp
   refine (uF wr.drew).mono ?_
   rintro e w3 ⟨rfl, hb3⟩
   have hb3 : Below wr.heap.size wr w3 := XZ hb3
   have R3 := HR.out.on_ hb3
   have i3 := (hb3.cell (p := ⟨bi, oi + p, none⟩) hbl).trans i0
   refine hK' _ _ i3 ?_
   clear hK' K'
   refine zC rfl ?_
   intro K' hK'
   go_simp
   refine hK' _ _ i3 ?_
   clear hK' K'
   refine zC rfl ?_
   intro K' hK'
   go_simp
   refine (X4 B bB bM N V1 (zV (f0 inp) vs p).1 (yD p x) (by have := HSZ.out; omega) w3 R3.bd).mono ?_
   rintro e w4 ⟨rfl, V4, hd4, ho4⟩
   have hm4 := R3.mid ho4
   rw [← hip.out] at hd4
   have HS4 := zH (R3.step hpN hd4 ho4)
   rw [hip.out] at HS4
   have i4 : w4.cell? ⟨bi, oi + p, none⟩ = some (.int .i64 x) := by
    refine (World.cell?_of_block (ho4.1.block bi (by have := hb3.size; omega) fun hr => ?_)).trans i3
    have hlo := HR.out.bd.lo
    rcases hr with e | e | e
    · omega
    · omega
    · have := (R3.bd.own.lt bi e).1; omega
   refine hK' _ _ i4 ?_
   clear hK' K'
   obtain ⟨u4, c4⟩ : ∃ u : Int, w4.cell? ⟨w.heap.size, p, none⟩ = some (.int .i64 u) := ⟨_, hm4.1.cell p (by rw [List.length_append, xg, List.length_replicate]; omega)⟩
   have y4 := hm4.1.froz p
   have hgl := hm4.1.lt
   clear hm4 hd4 ho4 R3 hb3
   refine zC rfl ?_
   intro K' hK'
   go_simp
   refine hK' _ _ i4 ?_
   clear hK' K'
   refine yW rfl (by kernel_rfl) ?_
   intro K' hK'
   go_simp
   refine hK' (fun _ => True) _ _ trivial ?_
   refine zG ?_
   clear hK' K' c4 y4 i4 i3
   go_wp2_with fail
   go_roundw
   case rel => exact ⟨p + 1, V4, by omega, by go_num, HS4⟩
   case measure => simp [intOf]; omega
end
end Go.Proofs.YtdkmpccfnnpnbaaGreat
