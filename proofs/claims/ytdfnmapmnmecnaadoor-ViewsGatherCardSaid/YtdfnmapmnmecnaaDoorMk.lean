/- Part Few. Part RLen. Part RWords. Part RText. Part RInputs. Part LawsA. What each part says stands at its head; no part has a condition beyond its own statements. -/
import Derived.Test.YtdfnmapmnmecnaaDoorProg
import Derived.Test.YtdfnmapmnmecnaaDoorMb
import Derived.Test.YtdfnmapmnmecnaaDoorMh
import Derived.Test.YtdfnmapmnmecnaaDoorMf
import Derived.Deep.QuietTactic
import Derived.BigQuiet
import Derived.StillTactics
import Derived.StillTailTactics
import Derived.Deep.RegionHeld3
import Derived.IntWalk
import Derived.Deep.RegionWith
import Derived.Test.YtdfnmapmnmecnaaDoorMi
import Derived.Test.YtdfnmapmnmecnaaDoorMj
import Derived.Test.YtdfnmapmnmecnaaDoorMg
import Derived.Deep.DeepCutAuto

/- Few: whether a table is small. -/
namespace Go.Proofs.YtdfnmapmnmecnaaDoor
open Go.RowKit

def midB (v : Vw) : Bool := decide (4 < v.r) && decide (v.r ≤ 6)
def fewB (vs : List Vw) : Bool := ((vs.take 80).all fun v => !midB v) && decide (vs.length ≤ 60)


theorem few_false {vs : List Vw} {k : Nat} (hk : k < vs.length) (h80 : k < 80) (h1 : 4 < vs[k].r) (h2 : vs[k].r ≤ 6) : fewB vs = false := by
  unfold fewB
  have : ((vs.take 80).all fun v => !midB v) = false := by
    rw [List.all_eq_false]
    exact ⟨vs[k], by rw [List.mem_iff_getElem]; exact ⟨k, by simp; omega, by simp⟩, by simp [midB, h1, h2]⟩
  rw [this, Bool.false_and]
theorem few_end {vs : List Vw} {k : Nat} (hk : min vs.length 80 ≤ k) (h : ∀ j (hj : j < vs.length), j < k → ¬ (4 < vs[j].r ∧ vs[j].r ≤ 6)) : fewB vs = decide (vs.length ≤ 60) := by
  unfold fewB
  have : ((vs.take 80).all fun v => !midB v) = true := by
    rw [List.all_eq_true]
    intro v hv
    obtain ⟨j, hj, rfl⟩ := List.mem_iff_getElem.1 hv
    simp at hj
    have := h j (by omega) (by omega)
    simp [midB]; omega
  rw [this, Bool.true_and]

set_option maxHeartbeats 400000 in
theorem few_any (n : Int) (A : Option Addr) (cap : Nat) (vs : List Vw) (w : World) (B : Nat) (hB : B ≤ w.heap.size) (hA : VAt w B A vs) (hl : vs.length ≤ 2199023255552) :
    Calls Tryd.prog 11 #[.agg #[.int .i64 n, .slice A vs.length cap]] w fun e w' => e = .returned (.bool (fewB vs)) ∧ Below w.heap.size w w' := by
  go_enter Tryd.func11, Tryd.ntmps11
  go_wp2
  go_loop [3] (fun i => ∃ k : Nat, k ≤ vs.length ∧ k ≤ 80 ∧ i = .int .i64 k ∧ Hid (∀ j (hj : j < vs.length), j < k → ¬ (4 < vs[j].r ∧ vs[j].r ≤ 6))) (fun i => 80 - (intOf i).toNat)
  case atStart => exact ⟨0, by omega, by omega, rfl, fun j _ hj => by omega⟩
  case round =>
    obtain ⟨k, hk, hk8, rfl, hall⟩ := hrel
    by_cases hlt : k < vs.length
    · by_cases h80 : k < 80
      · obtain ⟨b, off, rfl, hb, _, hc1, _⟩ := hA.row k hlt
        have hb1 : b < w.heap.size := by omega
        clear hA
        go_wp2
        · go_ret
          exact ⟨ret_bool (few_false hlt h80 ‹_› ‹_›).symm, (Below.refl _ _).alloc (Nat.le_refl _) _⟩
        all_goals
          go_round
          case rel =>
            refine ⟨k + 1, by omega, by omega, by go_num, fun j hj hjk => ?_⟩
            by_cases e : j = k
            · subst e; omega
            · exact hall.out j hj (by omega)
          case measure => simp [intOf]; omega
      · have hfin := few_end (vs := vs) (k := k) (by omega) hall.out
        go_wp2
        go_ret
        exact ⟨ret_bool (dec_eq (by omega)), (Below.refl _ _).alloc (Nat.le_refl _) _⟩
    · have hfin := few_end (vs := vs) (k := k) (by omega) hall.out
      go_wp2
      go_ret
      exact ⟨ret_bool (dec_eq (by omega)), (Below.refl _ _).alloc (Nat.le_refl _) _⟩
end Go.Proofs.YtdfnmapmnmecnaaDoor

/- ref22.length: how long the text of a view is. -/
namespace Go.Proofs.YtdfnmapmnmecnaaDoor
open Go.RowKit

def RetLen (k : Nat) (w : World) (e : Ending) (w' : World) : Prop := e = .returned (.int .i64 k) ∧ Below w.heap.size w w'
def LenSaid (n : Nat) (vs : List Vw) (i : Nat) : Prop := ∀ (A : Option Addr) (cap : Nat) (w : World), TArg w A cap vs →
  Calls Tryd.prog 54 #[.agg #[.int .i64 n, .slice A vs.length cap], .int .i64 i] w (RetLen (words vs i).length w)
/-- How long the first part of a text is. -/
def plen (vs : List Vw) (l : List Nat) (k : Nat) : Nat := 2 + (sep 40 ((l.take k).map (words vs))).length
theorem plen_step {vs : List Vw} {l : List Nat} {k : Nat} (hk : k < l.length) : plen vs l (k + 1) = plen vs l k + (1 + (words vs l[k]).length) := by
  unfold plen
  rw [List.take_add_one, List.getElem?_eq_getElem hk]
  simp only [Option.toList_some, List.map_append, List.map_cons, List.map_nil, sep_snoc, List.length_append, List.length_cons]
  omega
theorem plen_le {vs : List Vw} {l : List Nat} {k M : Nat} (h : ∀ c, c ∈ l → (words vs c).length ≤ M) (hl : l.length ≤ 5) : plen vs l k ≤ 2 + 5 * (M + 1) := by
  unfold plen
  have h1 := sep_length 40 ((l.take k).map (words vs)) M (by
    intro x hx
    obtain ⟨c, hc, rfl⟩ := List.mem_map.1 hx
    exact h c (List.mem_of_mem_take hc))
  rw [List.length_map] at h1
  have h2 : (l.take k).length * (M + 1) ≤ 5 * (M + 1) := Nat.mul_le_mul_right _ (by simp; omega)
  omega

set_option maxRecDepth 100000 in
set_option maxHeartbeats 2000000 in
theorem length_of {n : Nat} {vs : List Vw} (hw : Wf (n : Int) vs) (hlo : Lows vs) {i : Nat} (hi : i < vs.length) (ih : ∀ c, c ∈ kids (getV vs i) → LenSaid n vs c) : LenSaid n vs i := by
  intro A cap w hT
  have hn5 : n ≤ 5 := by have := hw.2.1; omega
  have HT := Lib.hid hT
  have HW := Lib.hid hw
  have IH := Lib.hid ih
  have hfew := hT.few
  have hk5 := kids_len5 (getV vs i)
  have hkl : ∀ c, c ∈ kids (getV vs i) → (words vs c).length ≤ 2967 := fun c hc => by
    have h1 := hw.kid hi hc
    have := words_len hw c (by omega)
    have := hlo.len hw (show c < vs.length by omega)
    omega
  have HKL := Lib.hid hkl
  have hpl := fun k => plen_le (k := k) hkl hk5
  have HPL := Lib.hid hpl
  have hgv : getV vs i = vs[i] := getV_eq hi
  have HGV := Lib.hid hgv
  have hi0 : (0 : Int) ≤ (i : Int) := by omega
  have hi1 : (i : Int) < (vs.length : Int) := by omega
  clear hT hw ih hkl hpl hgv
  go_enter Tryd.func54, Tryd.ntmps54
  by_cases hr : vs[i].r = 0
  · have e1 : (vs[i].r == 0) = true := by simp [hr]
    have hz : Hid ((words vs i).length = 3) := by show _ = _; rw [words_zero (by rw [HGV.out]; exact hr)]; rfl
    clear hr
    go_upto_region 1 with fail
    obtain ⟨W0, hW0, b0, hsz, hB0⟩ := onebox w #[.int .i64 n, .slice A vs.length cap] 24
    rw [hW0]
    clear hW0
    have t1 : W0.cell? ⟨w.heap.size, 1, none⟩ = some (.slice A vs.length cap) := blk_cell b0 1 rfl
    obtain ⟨b, off, rfl, hb1, c0, c1, c2, c3, c4, c5, c6, c7⟩ := (HT.out.keep hB0).rows.row i hi
    have HB0 := Lib.hid hB0
    clear b0 hsz hB0
    go_wp2_with fail
    go_ret
    exact ⟨ret_int (by rw [hz.out]; rfl), HB0.out.trans ((bel1 _ _).mono HB0.out.size)⟩
  · have e1 : (vs[i].r == 0) = false := by simp [hr]
    have hr' : (getV vs i).r ≠ 0 := by rw [HGV.out]; exact hr
    have hz : Hid ((words vs i).length = plen vs (kids (getV vs i)) (kids (getV vs i)).length) := by
      show _ = _
      rw [words_later HW.out.acyc hi hr']
      unfold plen
      rw [List.take_length]
      simp only [List.length_cons, List.length_append, List.length_nil]
      omega
    have hhd : heardTo vs[i] n = heardL vs[i] := by
      have h1 := HW.out.row_ok hi
      have h2 := (kids_lt h1 hn5).2
      rwa [HGV.out] at h2
    have HHD := Lib.hid hhd
    clear hr hr' hhd
    go_upto_region 1 with fail
    obtain ⟨W0, hW0, b0, hsz, hB0⟩ := onebox w #[.int .i64 n, .slice A vs.length cap] 24
    rw [hW0]
    clear hW0
    have t0 : W0.cell? ⟨w.heap.size, 0, none⟩ = some (.int .i64 n) := blk_cell b0 0 rfl
    have t1 : W0.cell? ⟨w.heap.size, 1, none⟩ = some (.slice A vs.length cap) := blk_cell b0 1 rfl
    obtain ⟨b, off, rfl, hb1, c0, c1, c2, c3, c4, c5, c6, c7⟩ := (HT.out.keep hB0).rows.row i hi
    have HB0 := Lib.hid hB0
    have K0 := Lib.hid b0
    have hw0 : w.heap.size < W0.heap.size := by omega
    clear b0 hB0
    go_wp2_with fail
    have hb4 := bel1 W0 (.cells vs[i].cells 27)
    refine (rheard_any n (.slice (some ⟨b, off, none⟩) vs.length cap) vs[i] _ hn5).mono ?_
    rintro e w1 ⟨v1, rfl, ho1, hb1'⟩
    rw [HHD.out, ← castL_kids, ← HGV.out] at ho1
    obtain ⟨A1, k1, rfl, hle1, hm1, hI1⟩ := ho1.form
    have hbw : Below W0.heap.size W0 w1 := hb4.trans (hb1'.mono (by simp))
    have B1 : Hid (Below w.heap.size w w1) := HB0.out.trans (hbw.mono (by omega))
    have K1 : Hid (w1.heap[w.heap.size]? = some (.cells #[.int .i64 n, .slice (some ⟨b, off, none⟩) vs.length cap] 24 (0, 0))) := (hbw.block _ hw0).trans K0.out
    have I1 := Lib.hid hI1
    have lw1 : w.heap.size < w1.heap.size := by have := hbw.size; omega
    rw [castL_length]
    rw [castL_length] at hle1
    clear ho1 hb1' hbw hb4 hI1 t0 t1 c0 c1 c2 c3 c4 c5 c6 c7 K0 hsz hb1
    go_wp2_with fail
    go_loopw [6, 8] (fun o k wr => ∃ j m : Nat, j ≤ (kids (getV vs i)).length ∧ m ≤ 20000 ∧ Hid (m = plen vs (kids (getV vs i)) j) ∧ o = .int .i64 m ∧ k = .int .i64 j ∧ Below w1.heap.size w1 wr) (fun _ k _ => (kids (getV vs i)).length - (intOf k).toNat)
    case atStart => exact ⟨0, 2, by omega, by omega, rfl, rfl, rfl, Below.refl _ _⟩
    case round =>
      obtain ⟨j, m, hj, hm, hmp, rfl, rfl, hbl⟩ := hrel
      have BL := Lib.hid hbl
      by_cases hlt : j < (kids (getV vs i)).length
      · have d0 := (hbl.block _ lw1).trans K1.out
        have t0 : wr.cell? ⟨w.heap.size, 0, none⟩ = some (.int .i64 n) := blk_cell d0 0 rfl
        have t1 : wr.cell? ⟨w.heap.size, 1, none⟩ = some (.slice (some ⟨b, off, none⟩) vs.length cap) := blk_cell d0 1 rfl
        obtain ⟨b1, off1, rfl, hb1, c0⟩ := (I1.out.up hbl).at_ j (by rw [castL_length]; exact hlt)
        obtain ⟨c, hce⟩ : ∃ c, c = (kids (getV vs i))[j] := ⟨_, rfl⟩
        have hcv : (castL (kids (getV vs i)))[j]'(by rw [castL_length]; exact hlt) = (c : Int) := by simp [castL, hce]
        rw [hcv] at c0
        have hcm : c ∈ kids (getV vs i) := by rw [hce]; exact List.getElem_mem hlt
        have hst := Lib.hid (plen_step (vs := vs) hlt)
        rw [← hce] at hst
        have hcl := HKL.out c hcm
        have hnx := HPL.out (j + 1)
        rw [hst.out, ← hmp.out] at hnx
        obtain ⟨q, hq⟩ : ∃ q, (words vs c).length = q := ⟨_, rfl⟩
        have hih := IH.out c hcm (some ⟨b, off, none⟩) cap wr.drew (HT.out.keep (B1.out.trans (hbl.mono (by omega))).drew)
        rw [hq] at hih hnx hcl
        rw [hq] at hst
        have hj0 : (0 : Int) ≤ (j : Int) := by omega
        have hj1 : (j : Int) < ((kids (getV vs i)).length : Int) := by omega
        have hs1 : IntKind.i64.wrap (1 + (q : Int)) = 1 + (q : Int) := IntWalk.i64_in _ (by omega)
        have hs2 : IntKind.i64.wrap ((m : Int) + (1 + (q : Int))) = (m : Int) + (1 + (q : Int)) := IntWalk.i64_in _ (by omega)
        have HIH := Lib.hid hih
        have hq20 : m + (1 + q) ≤ 20000 := by omega
        have HS1 := Lib.hid hs1
        have HS2 := Lib.hid hs2
        clear d0 hcv hce hcm hq hih hbl hnx hs1 hs2 hcl
        go_upto_region 9 with fail
        have lwr : w.heap.size < wr.heap.size := by have := BL.out.size; omega
        go_region_held3 (fun w' => w'.cell? ⟨w.heap.size, 0, none⟩ = some (.int .i64 n) ∧ w'.cell? ⟨w.heap.size, 1, none⟩ = some (.slice (some ⟨b, off, none⟩) vs.length cap) ∧ w'.cell? ⟨b1, off1 + j, none⟩ = some (.int .i64 c))
          (first
            | exact ⟨t0, t1, c0⟩
            | exact ⟨(hb2.cell (p := ⟨w.heap.size, 0, none⟩) lwr).trans t0, (hb2.cell (p := ⟨w.heap.size, 1, none⟩) lwr).trans t1, (hb2.cell (p := ⟨b1, off1 + j, none⟩) hb1).trans c0⟩)
          ((go_at_call 54; refine (HIH.out).mono ?_; rintro e w2 ⟨rfl, hb2⟩))
        rw [HS1.out, HS2.out]
        have HB2 := Lib.hid (belU hb2)
        clear t0 t1 c0 hb2
        go_wp2_with fail
        go_roundw
        case rel => exact ⟨j + 1, m + (1 + q), by omega, by omega, by show _ = _; rw [hst.out, hmp.out], by go_num, by go_num, BL.out.trans (HB2.out.mono BL.out.size)⟩
        case measure => simp [intOf]; omega
      · obtain rfl : j = (kids (getV vs i)).length := by omega
        go_wp2_with fail
        go_ret
        exact ⟨ret_int (by rw [hz.out, ← hmp.out]), B1.out.trans (BL.out.mono (by omega))⟩
end Go.Proofs.YtdfnmapmnmecnaaDoor

/- ref22.Words: the text of a view. -/
namespace Go.Proofs.YtdfnmapmnmecnaaDoor
open Go.RowKit

theorem opn_le {vs : List Vw} {l : List Nat} {k M : Nat} (h : ∀ c, c ∈ l → (words vs c).length ≤ M) (hl : l.length ≤ 5) : (opn ((l.take k).map (words vs))).length ≤ 1 + 5 * (M + 1) := by
  unfold opn
  split
  · simp
  · have := plen_le (k := k) h hl
    unfold plen at this
    omega
theorem bsize (S : ByteArray) : S.size = S.data.toList.length := by rw [Array.length_toList]; rfl
theorem bsize_le {S : ByteArray} {l : List UInt8} {m : Nat} (h : S.data.toList = l) (hl : l.length ≤ m) : S.size ≤ m := by rw [bsize, h]; exact hl
def RetBytes (l : List UInt8) (w : World) (e : Ending) (w' : World) : Prop := ∃ S : ByteArray, e = .returned (.string S) ∧ S.data.toList = l ∧ Below w.heap.size w w'
def WordsSaid (n : Nat) (vs : List Vw) (i : Nat) : Prop := ∀ (A : Option Addr) (cap : Nat) (w : World), TArg w A cap vs →
  Calls Tryd.prog 55 #[.agg #[.int .i64 n, .slice A vs.length cap], .int .i64 i] w (RetBytes (words vs i) w)

set_option maxRecDepth 100000 in
set_option maxHeartbeats 2000000 in
theorem rwords_of {n : Nat} {vs : List Vw} (hw : Wf (n : Int) vs) (hlo : Lows vs) {i : Nat} (hi : i < vs.length) (ih : ∀ c, c ∈ kids (getV vs i) → WordsSaid n vs c) : WordsSaid n vs i := by
  intro A cap w hT
  have hn5 : n ≤ 5 := by have := hw.2.1; omega
  have HT := Lib.hid hT
  have HW := Lib.hid hw
  have IH := Lib.hid ih
  have hfew := hT.few
  have hk5 := kids_len5 (getV vs i)
  have hkl : ∀ c, c ∈ kids (getV vs i) → (words vs c).length ≤ 2967 := fun c hc => by
    have h1 := hw.kid hi hc
    have := words_len hw c (by omega)
    have := hlo.len hw (show c < vs.length by omega)
    omega
  have HKL := Lib.hid hkl
  have hpl := fun k => plen_le (k := k) hkl hk5
  have HPL := Lib.hid hpl
  have hgv : getV vs i = vs[i] := getV_eq hi
  have HGV := Lib.hid hgv
  have hi0 : (0 : Int) ≤ (i : Int) := by omega
  have hi1 : (i : Int) < (vs.length : Int) := by omega
  clear hT hw ih hkl hpl hgv
  go_enter Tryd.func55, Tryd.ntmps55
  by_cases hr : vs[i].r = 0
  · have e1 : (vs[i].r == 0) = true := by simp [hr]
    have hz : Hid (words vs i = [dgt vs[i].p, 58, dgt vs[i].i]) := by show _ = _; rw [words_zero (by rw [HGV.out]; exact hr), HGV.out]
    have hbg := begE_ok (HW.out.beg hi)
    have hp0 : 0 ≤ vs[i].p := hbg.1
    have hp9 : vs[i].p < 10 := by omega
    have hin0 := (hbg.2.2.2.2.1 hr).1
    have hin9 : vs[i].i < 10 := by have := (hbg.2.2.2.2.1 hr).2; omega
    clear hr hbg
    go_upto_region 1 with fail
    obtain ⟨W0, hW0, b0, hsz, hB0⟩ := onebox w #[.int .i64 n, .slice A vs.length cap] 24
    rw [hW0]
    clear hW0
    have t1 : W0.cell? ⟨w.heap.size, 1, none⟩ = some (.slice A vs.length cap) := blk_cell b0 1 rfl
    obtain ⟨b, off, rfl, hb1, c0, c1, c2, c3, c4, c5, c6, c7⟩ := (HT.out.keep hB0).rows.row i hi
    have HB0 := Lib.hid hB0
    clear b0 hB0
    go_upto_region 3 with fail
    obtain ⟨W2, hW2, g0, hsz2, hB2⟩ := onebox W0 vs[i].cells 27
    unfold Vw.cells at hW2
    rw [hW2]
    rw [hsz] at g0
    have q0 : W2.cell? ⟨w.heap.size + 1, 0, none⟩ = some (.int .i64 vs[i].p) := blk_cell g0 0 rfl
    have q2 : W2.cell? ⟨w.heap.size + 1, 2, none⟩ = some (.int .i64 vs[i].i) := blk_cell g0 2 rfl
    have HB2 : Hid (Below w.heap.size w W2) := HB0.out.trans (hB2.mono HB0.out.size)
    clear hW2 g0 hsz2 hB2 c0 c1 c2 c3 c4 c5 c6 c7 t1
    refine wp_region_still_lit (by kernel_rfl) (by kernel_rfl) ?_
    still_step
    still_step
    still_call (itoa_one vs[i].p hp0 hp9 _)
    still_step
    still_step
    still_step
    still_call (itoa_one vs[i].i hin0 hin9 _)
    still_step
    still_step
    refine wpStill_nil ?_
    go_wp2_with fail
    go_ret
    exact ⟨_, rfl, by rw [hz.out]; simp, (belN HB2.out 1)⟩
  · have e1 : (vs[i].r == 0) = false := by simp [hr]
    have hr' : (getV vs i).r ≠ 0 := by rw [HGV.out]; exact hr
    have hz : Hid (words vs i = (dgt vs[i].p :: opn ((kids (getV vs i)).map (words vs))) ++ [41]) := by
      show _ = _
      have hne : (kids (getV vs i)).map (words vs) ≠ [] := fun e => by
        have := HW.out.own_kid hi hr'
        rw [List.map_eq_nil_iff] at e
        rw [e] at this; cases this
      rw [words_later HW.out.acyc hi hr', HGV.out]
      rw [HGV.out] at hne
      unfold opn
      rw [if_neg hne]
      rfl
    have hbg := begE_ok (HW.out.beg hi)
    have hp0 : 0 ≤ vs[i].p := hbg.1
    have hp9 : vs[i].p < 10 := by omega
    have hit := itoa_one vs[i].p hp0 hp9
    have hhd : heardTo vs[i] n = heardL vs[i] := by
      have h1 := HW.out.row_ok hi
      have h2 := (kids_lt h1 hn5).2
      rwa [HGV.out] at h2
    have HHD := Lib.hid hhd
    clear hr hr' hhd hbg
    go_upto_region 1 with fail
    obtain ⟨W0, hW0, b0, hsz, hB0⟩ := onebox w #[.int .i64 n, .slice A vs.length cap] 24
    rw [hW0]
    clear hW0
    have t0 : W0.cell? ⟨w.heap.size, 0, none⟩ = some (.int .i64 n) := blk_cell b0 0 rfl
    have t1 : W0.cell? ⟨w.heap.size, 1, none⟩ = some (.slice A vs.length cap) := blk_cell b0 1 rfl
    obtain ⟨b, off, rfl, hb1, c0, c1, c2, c3, c4, c5, c6, c7⟩ := (HT.out.keep hB0).rows.row i hi
    have HB0 := Lib.hid hB0
    have K0 := Lib.hid b0
    have hw0 : w.heap.size < W0.heap.size := by omega
    clear b0 hB0
    go_wp2_with (go_at_call 73; refine (hit _).mono ?_; rintro e w' ⟨rfl, rfl⟩)
    have hb4 := bel1 W0 (.cells vs[i].cells 27)
    refine (rheard_any n (.slice (some ⟨b, off, none⟩) vs.length cap) vs[i] _ hn5).mono ?_
    rintro e w1 ⟨v1, rfl, ho1, hb1'⟩
    rw [HHD.out, ← castL_kids, ← HGV.out] at ho1
    obtain ⟨A1, k1, rfl, hle1, hm1, hI1⟩ := ho1.form
    have hbw : Below W0.heap.size W0 w1 := hb4.trans (hb1'.mono (by simp))
    have B1 : Hid (Below w.heap.size w w1) := HB0.out.trans (hbw.mono (by omega))
    have K1 : Hid (w1.heap[w.heap.size]? = some (.cells #[.int .i64 n, .slice (some ⟨b, off, none⟩) vs.length cap] 24 (0, 0))) := (hbw.block _ hw0).trans K0.out
    have I1 := Lib.hid hI1
    have lw1 : w.heap.size < w1.heap.size := by have := hbw.size; omega
    rw [castL_length]
    rw [castL_length] at hle1
    clear ho1 hb1' hbw hb4 hI1 t0 t1 c0 c1 c2 c3 c4 c5 c6 c7 K0 hsz hb1
    go_wp2_with fail
    go_loopw [6, 8] (fun o k wr => ∃ (j : Nat) (S : ByteArray), j ≤ (kids (getV vs i)).length ∧ Hid (S.data.toList = dgt vs[i].p :: opn (((kids (getV vs i)).take j).map (words vs))) ∧ o = .string S ∧ k = .int .i64 j ∧ Below w1.heap.size w1 wr) (fun _ k _ => (kids (getV vs i)).length - (intOf k).toNat)
    case atStart => exact ⟨0, _, by omega, by show _ = _; simp [opn], rfl, rfl, Below.refl _ _⟩
    case round =>
      obtain ⟨j, S, hj, hS, rfl, rfl, hbl⟩ := hrel
      have BL := Lib.hid hbl
      have hOP := opn_le (k := j) HKL.out hk5
      have hSz : S.size ≤ 20000 := bsize_le hS.out (by simp only [List.length_cons]; omega)
      clear hOP
      by_cases hlt : j < (kids (getV vs i)).length
      · have d0 := (hbl.block _ lw1).trans K1.out
        have t0 : wr.cell? ⟨w.heap.size, 0, none⟩ = some (.int .i64 n) := blk_cell d0 0 rfl
        have t1 : wr.cell? ⟨w.heap.size, 1, none⟩ = some (.slice (some ⟨b, off, none⟩) vs.length cap) := blk_cell d0 1 rfl
        obtain ⟨b1, off1, rfl, hb1, c0⟩ := (I1.out.up hbl).at_ j (by rw [castL_length]; exact hlt)
        obtain ⟨c, hce⟩ : ∃ c, c = (kids (getV vs i))[j] := ⟨_, rfl⟩
        have hcv : (castL (kids (getV vs i)))[j]'(by rw [castL_length]; exact hlt) = (c : Int) := by simp [castL, hce]
        rw [hcv] at c0
        have hcm : c ∈ kids (getV vs i) := by rw [hce]; exact List.getElem_mem hlt
        have hst : Hid (opn (((kids (getV vs i)).take (j + 1)).map (words vs)) = opn (((kids (getV vs i)).take j).map (words vs)) ++ (if j = 0 then words vs c else 44 :: words vs c)) := by
          show _ = _
          rw [List.take_add_one, List.getElem?_eq_getElem hlt, ← hce]
          simp only [Option.toList_some, List.map_append, List.map_cons, List.map_nil, opn_snoc]
          congr 1
          by_cases e : j = 0
          · subst e; simp
          · rw [if_neg e, if_neg]
            intro h
            rw [List.map_eq_nil_iff, List.take_eq_nil_iff] at h
            rcases h with h | h
            · exact e h
            · rw [h] at hlt; simp at hlt
        have hcl := HKL.out c hcm
        have hih := IH.out c hcm (some ⟨b, off, none⟩) cap wr.drew (HT.out.keep (B1.out.trans (hbl.mono (by omega))).drew)
        have hj0 : (0 : Int) ≤ (j : Int) := by omega
        have hj1 : (j : Int) < ((kids (getV vs i)).length : Int) := by omega
        have HIH := Lib.hid hih
        have lwr : w.heap.size < wr.heap.size := by have := BL.out.size; omega
        clear d0 hcv hce hcm hih hbl
        by_cases hj00 : j = 0
        · have e2 : ¬ (0 : Int) < (j : Int) := by omega
          rw [if_pos hj00] at hst
          clear hj00
          go_upto_region 11 with fail
          go_region_with (go_at_call 55; refine (HIH.out).mono ?_; rintro e w2 ⟨T, rfl, hT, hb2⟩; have hTz : T.size ≤ 2967 := bsize_le hT (hcl))
          all_goals
            have HB2 := Lib.hid (belU hb2)
            have HT2 := Lib.hid hT
            clear t0 t1 c0 hb2 hT
            go_wp2_with fail
            go_roundw
            case rel => exact ⟨j + 1, _, by omega, by show _ = _; rw [hst.out, ByteArray.data_append, Array.toList_append, hS.out, HT2.out]; simp, rfl, by go_num, BL.out.trans (HB2.out.mono BL.out.size)⟩
            case measure => simp [intOf]; omega
        · have e2 : (0 : Int) < (j : Int) := by omega
          rw [if_neg hj00] at hst
          clear hj00
          go_upto_region 11 with fail
          go_region_with (go_at_call 55; refine (HIH.out).mono ?_; rintro e w2 ⟨T, rfl, hT, hb2⟩; have hTz : T.size ≤ 2967 := bsize_le hT (hcl))
          all_goals
            have HB2 := Lib.hid (belU hb2)
            have HT2 := Lib.hid hT
            clear t0 t1 c0 hb2 hT
            go_wp2_with fail
            go_roundw
            case rel => exact ⟨j + 1, _, by omega, by show _ = _; rw [hst.out, ByteArray.data_append, Array.toList_append, ByteArray.data_append, Array.toList_append, hS.out, HT2.out]; simp, rfl, by go_num, BL.out.trans (HB2.out.mono BL.out.size)⟩
            case measure => simp [intOf]; omega
      · obtain rfl : j = (kids (getV vs i)).length := by omega
        go_wp2_with fail
        go_ret
        refine ⟨_, rfl, ?_, B1.out.trans (BL.out.mono (by omega))⟩
        rw [hz.out, ByteArray.data_append, Array.toList_append, hS.out, List.take_length]
end Go.Proofs.YtdfnmapmnmecnaaDoor

/- ref22.Text. -/
namespace Go.Proofs.YtdfnmapmnmecnaaDoor
open Go.RowKit

theorem rlen_any {n : Nat} {vs : List Vw} (hw : Wf (n : Int) vs) (hlo : Lows vs) : ∀ i, i < vs.length → LenSaid n vs i := by
  intro i
  induction i using Nat.strongRecOn with
  | _ i ih =>
    intro hi
    exact length_of hw hlo hi fun c hc => by
      have := hw.acyc i hi c hc
      exact ih c this (by omega)
theorem rwords_any {n : Nat} {vs : List Vw} (hw : Wf (n : Int) vs) (hlo : Lows vs) : ∀ i, i < vs.length → WordsSaid n vs i := by
  intro i
  induction i using Nat.strongRecOn with
  | _ i ih =>
    intro hi
    exact rwords_of hw hlo hi fun c hc => by
      have := hw.acyc i hi c hc
      exact ih c this (by omega)

set_option maxRecDepth 100000 in
set_option maxHeartbeats 4000000 in
theorem rtext_any (n : Int) (A : Option Addr) (cap : Nat) (vs : List Vw) (hlo : Lows vs) (i : Int) (w : World) (hT : TArg w A cap vs) :
    Calls Tryd.prog 21 #[.agg #[.int .i64 n, .slice A vs.length cap], .int .i64 i] w (RetText (textE n vs i) w) := by
  have HT := Lib.hid hT
  have hfew := hT.few
  have HLO := Lib.hid hlo
  clear hT hlo
  go_enter Tryd.func21, Tryd.ntmps21
  go_wp2_with fail
  obtain ⟨W0, hW0, b0, hsz, hB0⟩ := onebox w #[.int .i64 n, .slice A vs.length cap] 24
  rw [hW0]
  clear hW0
  refine (rat_any n A cap vs i _ (HT.out.keep hB0)).mono ?_
  rintro e w1 ⟨rfl, hb⟩
  have d0 := (hb.block _ (by omega)).trans b0
  have B1 : Hid (Below w.heap.size w w1) := hB0.trans (hb.mono (by omega))
  have l1 : w.heap.size < w1.heap.size := by have := hb.size; omega
  have t0 := blk_cell d0 0 rfl
  have t1 := blk_cell d0 1 rfl
  have HD := Lib.hid d0
  clear b0 hsz hB0 hb d0
  by_cases hc : atE n vs [i] = 0
  · have e0 : (atE n vs [i] != 0) = false := by simp [hc]
    obtain ⟨hwf, _, hin⟩ := atE_ok hc
    obtain ⟨h0, h1⟩ := hin i (by simp)
    obtain ⟨j, rfl⟩ := Int.eq_ofNat_of_zero_le h0
    have hj : j < vs.length := by omega
    obtain ⟨N, rfl⟩ := Int.eq_ofNat_of_zero_le (show 0 ≤ n by have := hwf.1; omega)
    have hz := Lib.hid (textE_yes hc)
    have hwl : (words vs j).length ≤ 2967 := Nat.le_trans (words_len hwf j hj) (HLO.out.len hwf hj)
    have HW := Lib.hid hwf
    clear hc hin hwf
    go_wp2_with fail
    refine (rlen_any HW.out HLO.out j hj A cap w1 (HT.out.keep B1.out)).mono ?_
    rintro e w2 ⟨rfl, hb2⟩
    have B2 : Hid (Below w.heap.size w w2) := B1.out.trans (hb2.mono B1.out.size)
    have d2 := (hb2.block _ l1).trans HD.out
    clear t0 t1
    have t0 := blk_cell d2 0 rfl
    have t1 := blk_cell d2 1 rfl
    clear hb2 d2
    go_wp2_with fail
    refine (rwords_any HW.out HLO.out j hj A cap w2 (HT.out.keep B2.out)).mono ?_
    rintro e w3 ⟨S, rfl, hS, hb3⟩
    have B3 : Hid (Below w.heap.size w w3) := B2.out.trans (hb3.mono B2.out.size)
    have HS : Hid (S = ⟨(words vs j).toArray⟩) := by
      show _ = _
      rw [← hS]
    clear hb3 hS
    go_wp2_with fail
    go_ret2
    exact RetText.of hz.out HS.out B3.out
  · have e0 : (atE n vs [i] != 0) = true := by simpa using hc
    have hz := Lib.hid (textE_bad hc)
    clear hc
    go_wp2_with fail
    go_ret2
    exact RetText.of hz.out rfl B1.out
end Go.Proofs.YtdfnmapmnmecnaaDoor

/- ref22.Inputs. -/
namespace Go.Proofs.YtdfnmapmnmecnaaDoor
open Go.RowKit

set_option maxRecDepth 100000 in
set_option maxHeartbeats 4000000 in
theorem rinputs_any (n : Int) (A : Option Addr) (cap : Nat) (vs : List Vw) (i : Int) (w : World) (hT : TArg w A cap vs) :
    Calls Tryd.prog 19 #[.agg #[.int .i64 n, .slice A vs.length cap], .int .i64 i] w (RetPast (inputsE n vs i) w) := by
  have HT := Lib.hid hT
  have hfew := hT.few
  clear hT
  go_enter Tryd.func19, Tryd.ntmps19
  go_wp2_with fail
  obtain ⟨W0, hW0, b0, hsz, hB0⟩ := onebox w #[.int .i64 n, .slice A vs.length cap] 24
  rw [hW0]
  clear hW0
  refine (rat_any n A cap vs i _ (HT.out.keep hB0)).mono ?_
  rintro e w1 ⟨rfl, hb⟩
  have d0 := (hb.block _ (by omega)).trans b0
  have B1 : Hid (Below w.heap.size w w1) := hB0.trans (hb.mono (by omega))
  have l1 : w.heap.size < w1.heap.size := by have := hb.size; omega
  have t0 := blk_cell d0 0 rfl
  have t1 := blk_cell d0 1 rfl
  clear b0 hsz hB0 hb d0
  by_cases hc : atE n vs [i] = 0
  · have e0 : (atE n vs [i] != 0) = false := by simp [hc]
    obtain ⟨hwf, _, hin⟩ := atE_ok hc
    obtain ⟨h0, h1⟩ := hin i (by simp)
    obtain ⟨j, rfl⟩ := Int.eq_ofNat_of_zero_le h0
    have hj : j < vs.length := by omega
    obtain ⟨N, rfl⟩ := Int.eq_ofNat_of_zero_le (show 0 ≤ n by have := hwf.1; omega)
    have hz := Lib.hid (inputsE_yes hc)
    clear hc hin
    go_wp2_with fail
    refine (known_any N A cap vs hwf j hj w1 (HT.out.keep B1.out)).mono ?_
    rintro e w2 ⟨v, rfl, ho, hb2⟩
    have ho' := ho.low B1.out.size
    have B3 : Hid (Below w.heap.size w w2) := B1.out.trans (hb2.mono B1.out.size)
    obtain ⟨A3, c3, rfl, _, _, _⟩ := ho'.form
    have HO := Lib.hid ho'
    clear ho hb2 ho' hwf
    go_wp2_with fail
    go_ret2
    exact RetPast.of hz.out HO.out B3.out
  · have e0 : (atE n vs [i] != 0) = true := by simpa using hc
    have hz := Lib.hid (inputsE_bad hc)
    clear hc
    go_wp2_with fail
    go_ret2
    exact RetPast.of hz.out (Own.nil _ _) B1.out

end Go.Proofs.YtdfnmapmnmecnaaDoor

/- The laws of chapter 22 that hold the program against the reference: ViewsChecks, ViewsAdds, ViewsContinue, ViewsContain answer true. -/
namespace Go.Proofs.YtdfnmapmnmecnaaDoor
open Go.RowKit

theorem few_len {vs : List Vw} (h : fewB vs = true) : vs.length ≤ 60 := by
  unfold fewB at h
  simp only [Bool.and_eq_true, decide_eq_true_eq] at h
  exact h.2
theorem few_lows {vs : List Vw} (h : fewB vs = true) : Lows vs := by
  intro i hi
  have hl := few_len h
  unfold fewB at h
  simp only [Bool.and_eq_true, List.all_eq_true, decide_eq_true_eq] at h
  have hm := h.1 vs[i] (by rw [List.take_of_length_le (by omega)]; exact List.getElem_mem hi)
  have e : getV vs i = vs[i] := getV_eq hi
  rw [e]
  simp [midB] at hm
  omega
theorem len_of_past {n : Int} {vs : List Vw} {i : Int} {r : List Int × Int} (h : pastE n vs i = r) (hf : vs.length ≤ 100000) : r.1.length ≤ 17592186044416 := by
  subst h
  unfold pastE
  split
  · simp
  · have : (pastL vs [i.toNat]).length ≤ vs.length := by unfold pastL; exact Nat.le_trans (List.length_filter_le _ _) (by simp)
    simp only [castL, List.length_map]
    omega
theorem len_of_inputs {n : Int} {vs : List Vw} {i : Int} {r : List Int × Int} (h : inputsE n vs i = r) : r.1.length ≤ 17592186044416 := by
  subst h
  unfold inputsE
  split
  · simp
  · rename_i ha
    have h0 : CheckE n vs = 0 := by
      unfold atE at ha
      by_cases hC : CheckE n vs = 0
      · exact hC
      · rw [if_pos hC] at ha; exact absurd hC ha
    have := (Wf.of_CheckE h0).1.2.1
    rw [knowL_length]
    simp
    omega

set_option maxRecDepth 100000 in
set_option maxHeartbeats 4000000 in
theorem law_continue (n : Int) (A : Option Addr) (cap : Nat) (vs : List Vw) (i j : Int) (w : World) (hA : VAt w w.heap.size A vs) (hc : vs.length ≤ cap) (hm : cap ≤ maxLen) (hl : vs.length ≤ 2199023255552) :
    Calls Tryd.prog 8 #[.agg #[.int .i64 n, .slice A vs.length cap], .int .i64 i, .int .i64 j] w (RetTrue w) := by
  have HA := Lib.hid hA
  have HC := Lib.hid hc
  have HM := Lib.hid hm
  clear hA hc hm
  go_enter Tryd.func8, Tryd.ntmps8
  go_wp2_with fail
  obtain ⟨W0, hW0, d0, hsz, hB0⟩ := onebox w #[.int .i64 n, .slice A vs.length cap] 24
  rw [hW0]
  clear hW0
  refine (few_any n A cap vs W0 w.heap.size (by omega) (HA.out.keep hB0) hl).mono ?_
  rintro e w1 ⟨rfl, hb⟩
  have D0 := Lib.hid d0
  have B := Lib.hid hB0
  clear d0 hB0 hsz
  have d0 := (hb.block _ (blk_lt D0.out)).trans D0.out
  have BN := Lib.hid (B.out.trans (hb.mono B.out.size))
  have t0 := blk_cell d0 0 rfl
  have t1 := blk_cell d0 1 rfl
  have l0 : w.heap.size < w1.heap.size := blk_lt d0
  clear D0 B
  have D0 := Lib.hid d0
  have B := Lib.hid BN.out
  clear BN d0 hb
  obtain ⟨ff, hff⟩ : ∃ ff, fewB vs = ff := ⟨_, rfl⟩
  rw [hff]
  have HF := Lib.hid hff
  clear hff
  cases ff
  · go_wp2_with fail
    refine (awake_any w1).mono ?_
    rintro e wz ⟨rfl, hbz⟩
    go_wp2_with fail
    go_ret
    exact ⟨rfl, B.out.trans (hbz.mono B.out.size)⟩
  · have HT : Hid (TArg w A cap vs) := ⟨HA.out, HC.out, HM.out, by have := few_len HF.out; omega⟩
    clear HA HC HM
    have hc := vown_any n A cap vs i w1 (HT.out.keep B.out)
    obtain ⟨r1, hr1⟩ : ∃ r1, ownE n vs i = r1 := ⟨_, rfl⟩
    rw [hr1] at hc
    have HR1 := Lib.hid hr1
    clear hr1
    have HC := Lib.hid hc
    clear hc
    go_wp2_with fail
    refine HC.out.mono ?_
    rintro e w2 ⟨rfl, hb⟩
    clear HC
    have d0 := (hb.block _ (blk_lt D0.out)).trans D0.out
    have BN := Lib.hid (B.out.trans (hb.mono B.out.size))
    clear t0 t1
    have t0 := blk_cell d0 0 rfl
    have t1 := blk_cell d0 1 rfl
    have l0 : w.heap.size < w2.heap.size := blk_lt d0
    clear D0 B
    have D0 := Lib.hid d0
    have B := Lib.hid BN.out
    clear BN d0 hb
    have hc := rown_any n A cap vs i w2 (HT.out.keep B.out)
    rw [HR1.out] at hc
    have HC := Lib.hid hc
    clear hc
    go_wp2_with fail
    refine HC.out.mono ?_
    rintro e w3 ⟨rfl, hb⟩
    clear HC
    have d0 := (hb.block _ (blk_lt D0.out)).trans D0.out
    have BN := Lib.hid (B.out.trans (hb.mono B.out.size))
    clear t0 t1
    have t0 := blk_cell d0 0 rfl
    have t1 := blk_cell d0 1 rfl
    have l0 : w.heap.size < w3.heap.size := blk_lt d0
    clear D0 B
    have D0 := Lib.hid d0
    have B := Lib.hid BN.out
    clear BN d0 hb
    have hc := vcont_any n A cap vs i j w3 (HT.out.keep B.out)
    obtain ⟨r2, hr2⟩ : ∃ r2, contE n vs i j = r2 := ⟨_, rfl⟩
    rw [hr2] at hc
    have HR2 := Lib.hid hr2
    clear hr2
    have HC := Lib.hid hc
    clear hc
    go_wp2_with fail
    refine HC.out.mono ?_
    rintro e w4 ⟨rfl, hb⟩
    clear HC
    have d0 := (hb.block _ (blk_lt D0.out)).trans D0.out
    have BN := Lib.hid (B.out.trans (hb.mono B.out.size))
    clear t0 t1
    have t0 := blk_cell d0 0 rfl
    have t1 := blk_cell d0 1 rfl
    have l0 : w.heap.size < w4.heap.size := blk_lt d0
    clear D0 B
    have D0 := Lib.hid d0
    have B := Lib.hid BN.out
    clear BN d0 hb
    have hc := rcont_any n A cap vs i j w4 (HT.out.keep B.out)
    rw [HR2.out] at hc
    have HC := Lib.hid hc
    clear hc
    go_wp2_with fail
    refine HC.out.mono ?_
    rintro e w5 ⟨rfl, hb⟩
    clear HC
    have d0 := (hb.block _ (blk_lt D0.out)).trans D0.out
    have BN := Lib.hid (B.out.trans (hb.mono B.out.size))
    clear t0 t1
    have t0 := blk_cell d0 0 rfl
    have t1 := blk_cell d0 1 rfl
    have l0 : w.heap.size < w5.heap.size := blk_lt d0
    clear D0 B
    have D0 := Lib.hid d0
    have B := Lib.hid BN.out
    clear BN d0 hb
    have e1 : (r1.1 == r1.1) = true := by simp
    have e2 : (r1.2 == r1.2) = true := by simp
    have e3 : (r2.1 == r2.1) = true := by simp
    have e4 : (r2.2 == r2.2) = true := by simp
    go_wp2_with fail
    refine (awake_any w5).mono ?_
    rintro e wz ⟨rfl, hbz⟩
    go_wp2_with fail
    go_ret
    exact ⟨rfl, B.out.trans (hbz.mono B.out.size)⟩
set_option maxRecDepth 100000 in
set_option maxHeartbeats 4000000 in
theorem law_contain (n : Int) (A : Option Addr) (cap : Nat) (vs : List Vw) (i : Int) (w : World) (hA : VAt w w.heap.size A vs) (hc : vs.length ≤ cap) (hm : cap ≤ maxLen) (hl : vs.length ≤ 2199023255552) :
    Calls Tryd.prog 4 #[.agg #[.int .i64 n, .slice A vs.length cap], .int .i64 i] w (RetTrue w) := by
  have HA := Lib.hid hA
  have HC := Lib.hid hc
  have HM := Lib.hid hm
  clear hA hc hm
  go_enter Tryd.func4, Tryd.ntmps4
  go_wp2_with fail
  obtain ⟨W0, hW0, d0, hsz, hB0⟩ := onebox w #[.int .i64 n, .slice A vs.length cap] 24
  rw [hW0]
  clear hW0
  refine (few_any n A cap vs W0 w.heap.size (by omega) (HA.out.keep hB0) hl).mono ?_
  rintro e w1 ⟨rfl, hb⟩
  have D0 := Lib.hid d0
  have B := Lib.hid hB0
  clear d0 hB0 hsz
  have d0 := (hb.block _ (blk_lt D0.out)).trans D0.out
  have BN := Lib.hid (B.out.trans (hb.mono B.out.size))
  have t0 := blk_cell d0 0 rfl
  have t1 := blk_cell d0 1 rfl
  have l0 : w.heap.size < w1.heap.size := blk_lt d0
  clear D0 B
  have D0 := Lib.hid d0
  have B := Lib.hid BN.out
  clear BN d0 hb
  obtain ⟨ff, hff⟩ : ∃ ff, fewB vs = ff := ⟨_, rfl⟩
  rw [hff]
  have HF := Lib.hid hff
  clear hff
  cases ff
  · go_wp2_with fail
    refine (awake_any w1).mono ?_
    rintro e wz ⟨rfl, hbz⟩
    go_wp2_with fail
    go_ret
    exact ⟨rfl, B.out.trans (hbz.mono B.out.size)⟩
  · have HT : Hid (TArg w A cap vs) := ⟨HA.out, HC.out, HM.out, by have := few_len HF.out; omega⟩
    clear HA HC HM
    have HLO := Lib.hid (few_lows HF.out)
    have hc := vpast_any n A cap vs i w1 (HT.out.keep B.out)
    obtain ⟨r1, hr1⟩ : ∃ r1, pastE n vs i = r1 := ⟨_, rfl⟩
    rw [hr1] at hc
    have Hr1 := Lib.hid hr1
    clear hr1
    have HC := Lib.hid hc
    clear hc
    go_wp2_with fail
    refine HC.out.mono ?_
    rintro e w2 ⟨v0, rfl, ho, hb⟩
    clear HC
    have O0 : Hid (Own w2 w.heap.size v0 r1.1) := ho.low B.out.size
    clear ho
    have d0 := (hb.block _ (blk_lt D0.out)).trans D0.out
    have BN := Lib.hid (B.out.trans (hb.mono B.out.size))
    clear t0 t1
    have t0 := blk_cell d0 0 rfl
    have t1 := blk_cell d0 1 rfl
    have l0 : w.heap.size < w2.heap.size := blk_lt d0
    clear D0 B
    have D0 := Lib.hid d0
    have B := Lib.hid BN.out
    clear BN d0 hb
    have hc := rpast_any n A cap vs i w2 (HT.out.keep B.out)
    rw [Hr1.out] at hc
    have HC := Lib.hid hc
    clear hc
    go_wp2_with fail
    refine HC.out.mono ?_
    rintro e w3 ⟨v1, rfl, ho, hb⟩
    clear HC
    have N0 : Hid (Own w3 w.heap.size v0 r1.1) := O0.out.below hb (Nat.le_refl _)
    clear O0
    have O0 := Lib.hid N0.out
    clear N0
    have O1 : Hid (Own w3 w.heap.size v1 r1.1) := ho.low B.out.size
    clear ho
    have d0 := (hb.block _ (blk_lt D0.out)).trans D0.out
    have BN := Lib.hid (B.out.trans (hb.mono B.out.size))
    clear t0 t1
    have t0 := blk_cell d0 0 rfl
    have t1 := blk_cell d0 1 rfl
    have l0 : w.heap.size < w3.heap.size := blk_lt d0
    clear D0 B
    have D0 := Lib.hid d0
    have B := Lib.hid BN.out
    clear BN d0 hb
    have hc := vinputs_any n A cap vs i w3 (HT.out.keep B.out)
    obtain ⟨r2, hr2⟩ : ∃ r2, inputsE n vs i = r2 := ⟨_, rfl⟩
    rw [hr2] at hc
    have Hr2 := Lib.hid hr2
    clear hr2
    have HC := Lib.hid hc
    clear hc
    go_wp2_with fail
    refine HC.out.mono ?_
    rintro e w4 ⟨v2, rfl, ho, hb⟩
    clear HC
    have N0 : Hid (Own w4 w.heap.size v0 r1.1) := O0.out.below hb (Nat.le_refl _)
    clear O0
    have O0 := Lib.hid N0.out
    clear N0
    have N1 : Hid (Own w4 w.heap.size v1 r1.1) := O1.out.below hb (Nat.le_refl _)
    clear O1
    have O1 := Lib.hid N1.out
    clear N1
    have O2 : Hid (Own w4 w.heap.size v2 r2.1) := ho.low B.out.size
    clear ho
    have d0 := (hb.block _ (blk_lt D0.out)).trans D0.out
    have BN := Lib.hid (B.out.trans (hb.mono B.out.size))
    clear t0 t1
    have t0 := blk_cell d0 0 rfl
    have t1 := blk_cell d0 1 rfl
    have l0 : w.heap.size < w4.heap.size := blk_lt d0
    clear D0 B
    have D0 := Lib.hid d0
    have B := Lib.hid BN.out
    clear BN d0 hb
    have hc := rinputs_any n A cap vs i w4 (HT.out.keep B.out)
    rw [Hr2.out] at hc
    have HC := Lib.hid hc
    clear hc
    go_wp2_with fail
    refine HC.out.mono ?_
    rintro e w5 ⟨v3, rfl, ho, hb⟩
    clear HC
    have N0 : Hid (Own w5 w.heap.size v0 r1.1) := O0.out.below hb (Nat.le_refl _)
    clear O0
    have O0 := Lib.hid N0.out
    clear N0
    have N1 : Hid (Own w5 w.heap.size v1 r1.1) := O1.out.below hb (Nat.le_refl _)
    clear O1
    have O1 := Lib.hid N1.out
    clear N1
    have N2 : Hid (Own w5 w.heap.size v2 r2.1) := O2.out.below hb (Nat.le_refl _)
    clear O2
    have O2 := Lib.hid N2.out
    clear N2
    have O3 : Hid (Own w5 w.heap.size v3 r2.1) := ho.low B.out.size
    clear ho
    have d0 := (hb.block _ (blk_lt D0.out)).trans D0.out
    have BN := Lib.hid (B.out.trans (hb.mono B.out.size))
    clear t0 t1
    have t0 := blk_cell d0 0 rfl
    have t1 := blk_cell d0 1 rfl
    have l0 : w.heap.size < w5.heap.size := blk_lt d0
    clear D0 B
    have D0 := Lib.hid d0
    have B := Lib.hid BN.out
    clear BN d0 hb
    have hc := vtext_any n A cap vs HLO.out i w5 (HT.out.keep B.out)
    obtain ⟨r3, hr3⟩ : ∃ r3, textE n vs i = r3 := ⟨_, rfl⟩
    rw [hr3] at hc
    have Hr3 := Lib.hid hr3
    clear hr3
    have HC := Lib.hid hc
    clear hc
    go_wp2_with fail
    refine HC.out.mono ?_
    rintro e w6 ⟨rfl, hb⟩
    clear HC
    have N0 : Hid (Own w6 w.heap.size v0 r1.1) := O0.out.below hb (Nat.le_refl _)
    clear O0
    have O0 := Lib.hid N0.out
    clear N0
    have N1 : Hid (Own w6 w.heap.size v1 r1.1) := O1.out.below hb (Nat.le_refl _)
    clear O1
    have O1 := Lib.hid N1.out
    clear N1
    have N2 : Hid (Own w6 w.heap.size v2 r2.1) := O2.out.below hb (Nat.le_refl _)
    clear O2
    have O2 := Lib.hid N2.out
    clear N2
    have N3 : Hid (Own w6 w.heap.size v3 r2.1) := O3.out.below hb (Nat.le_refl _)
    clear O3
    have O3 := Lib.hid N3.out
    clear N3
    have d0 := (hb.block _ (blk_lt D0.out)).trans D0.out
    have BN := Lib.hid (B.out.trans (hb.mono B.out.size))
    clear t0 t1
    have t0 := blk_cell d0 0 rfl
    have t1 := blk_cell d0 1 rfl
    have l0 : w.heap.size < w6.heap.size := blk_lt d0
    clear D0 B
    have D0 := Lib.hid d0
    have B := Lib.hid BN.out
    clear BN d0 hb
    have hc := rtext_any n A cap vs HLO.out i w6 (HT.out.keep B.out)
    rw [Hr3.out] at hc
    have HC := Lib.hid hc
    clear hc
    go_wp2_with fail
    refine HC.out.mono ?_
    rintro e w7 ⟨rfl, hb⟩
    clear HC
    have N0 : Hid (Own w7 w.heap.size v0 r1.1) := O0.out.below hb (Nat.le_refl _)
    clear O0
    have O0 := Lib.hid N0.out
    clear N0
    have N1 : Hid (Own w7 w.heap.size v1 r1.1) := O1.out.below hb (Nat.le_refl _)
    clear O1
    have O1 := Lib.hid N1.out
    clear N1
    have N2 : Hid (Own w7 w.heap.size v2 r2.1) := O2.out.below hb (Nat.le_refl _)
    clear O2
    have O2 := Lib.hid N2.out
    clear N2
    have N3 : Hid (Own w7 w.heap.size v3 r2.1) := O3.out.below hb (Nat.le_refl _)
    clear O3
    have O3 := Lib.hid N3.out
    clear N3
    have d0 := (hb.block _ (blk_lt D0.out)).trans D0.out
    have BN := Lib.hid (B.out.trans (hb.mono B.out.size))
    clear t0 t1
    have t0 := blk_cell d0 0 rfl
    have t1 := blk_cell d0 1 rfl
    have l0 : w.heap.size < w7.heap.size := blk_lt d0
    clear D0 B
    have D0 := Lib.hid d0
    have B := Lib.hid BN.out
    clear BN d0 hb
    obtain ⟨A0, c0, rfl, hlc0, hcm0, hi0⟩ := O0.out.form
    have HI0 := Lib.hid hi0
    clear hi0
    obtain ⟨A1, c1, rfl, hlc1, hcm1, hi1⟩ := O1.out.form
    have HI1 := Lib.hid hi1
    clear hi1
    obtain ⟨A2, c2, rfl, hlc2, hcm2, hi2⟩ := O2.out.form
    have HI2 := Lib.hid hi2
    clear hi2
    obtain ⟨A3, c3, rfl, hlc3, hcm3, hi3⟩ := O3.out.form
    have HI3 := Lib.hid hi3
    clear hi3
    unfold maxLen at hcm0 hcm1 hcm2 hcm3
    have hp1 : r1.1.length ≤ 17592186044416 := len_of_past Hr1.out HT.out.few
    have hp2 : r2.1.length ≤ 17592186044416 := len_of_inputs Hr2.out
    have e2 : (r1.2 == r1.2) = true := by simp
    have e4 : (r2.2 == r2.2) = true := by simp
    have e6 : (r3.2 == r3.2) = true := by simp
    have e5 : ((⟨r3.1.toArray⟩ : ByteArray) == ⟨r3.1.toArray⟩) = true := (Go.MapKept.bytes_beq _ _).2 rfl
    have e7 : decide (r1.1 = r1.1) = true := by simp
    have e8 : decide (r2.1 = r2.1) = true := by simp
    go_wp2_with fail
    refine (sameInts_any A0 A1 c0 c1 r1.1 r1.1 w7 w7.heap.size HI0.out HI1.out hp1 hp1).mono ?_
    rintro e w8 ⟨rfl, hb⟩
    have HJ2 := Lib.hid ((HI2.out.keep hb))
    have HJ3 := Lib.hid ((HI3.out.keep hb))
    have d0 := (hb.block _ (blk_lt D0.out)).trans D0.out
    have BN := Lib.hid (B.out.trans (hb.mono B.out.size))
    clear t0 t1
    have t0 := blk_cell d0 0 rfl
    have t1 := blk_cell d0 1 rfl
    have l0 : w.heap.size < w8.heap.size := blk_lt d0
    clear D0 B
    have D0 := Lib.hid d0
    have B := Lib.hid BN.out
    clear BN d0 hb
    go_wp2_with fail
    refine (sameInts_any A2 A3 c2 c3 r2.1 r2.1 w8 w7.heap.size HJ2.out HJ3.out hp2 hp2).mono ?_
    rintro e w9 ⟨rfl, hb⟩
    have d0 := (hb.block _ (blk_lt D0.out)).trans D0.out
    have BN := Lib.hid (B.out.trans (hb.mono B.out.size))
    clear t0 t1
    have t0 := blk_cell d0 0 rfl
    have t1 := blk_cell d0 1 rfl
    have l0 : w.heap.size < w9.heap.size := blk_lt d0
    clear D0 B
    have D0 := Lib.hid d0
    have B := Lib.hid BN.out
    clear BN d0 hb
    go_wp2_with fail
    refine (awake_any w9).mono ?_
    rintro e wz ⟨rfl, hbz⟩
    go_wp2_with fail
    go_ret
    exact ⟨rfl, B.out.trans (hbz.mono B.out.size)⟩
set_option maxRecDepth 100000 in
set_option maxHeartbeats 4000000 in
theorem law_checks (n : Int) (A : Option Addr) (cap : Nat) (vs : List Vw) (v : Vw) (w : World) (hA : VAt w w.heap.size A vs) (hc : vs.length ≤ cap) (hm : cap ≤ maxLen) (hl : vs.length ≤ 2199023255552) :
    Calls Tryd.prog 6 #[.agg #[.int .i64 n, .slice A vs.length cap], .agg v.cells] w (RetTrue w) := by
  have HA := Lib.hid hA
  have HC := Lib.hid hc
  have HM := Lib.hid hm
  clear hA hc hm
  go_enter Tryd.func6, Tryd.ntmps6
  unfold Vw.cells
  go_wp2_with fail
  obtain ⟨W0, hW0, d0, d1, hsz, hB0⟩ := twoboxes w #[.int .i64 n, .slice A vs.length cap] v.cells 24 27
  unfold Vw.cells at hW0 d1
  rw [hW0]
  clear hW0
  refine (few_any n A cap vs W0 w.heap.size (by omega) (HA.out.keep hB0) hl).mono ?_
  rintro e w1 ⟨rfl, hb⟩
  have D0 := Lib.hid d0
  have D1 := Lib.hid d1
  have B := Lib.hid hB0
  clear d0 d1 hB0 hsz
  have d0 := (hb.block _ (blk_lt D0.out)).trans D0.out
  have d1 := (hb.block _ (blk_lt D1.out)).trans D1.out
  have BN := Lib.hid (B.out.trans (hb.mono B.out.size))
  have t0 := blk_cell d0 0 rfl
  have t1 := blk_cell d0 1 rfl
  have q0 := blk_cell d1 0 rfl
  have q1 := blk_cell d1 1 rfl
  have q2 := blk_cell d1 2 rfl
  have q3 := blk_cell d1 3 rfl
  have q4 := blk_cell d1 4 rfl
  have q5 := blk_cell d1 5 rfl
  have q6 := blk_cell d1 6 rfl
  have q7 := blk_cell d1 7 rfl
  have l0 : w.heap.size < w1.heap.size := blk_lt d0
  have l1 : w.heap.size + 1 < w1.heap.size := blk_lt d1
  clear D0 D1 B
  have D0 := Lib.hid d0
  have D1 := Lib.hid d1
  have B := Lib.hid BN.out
  clear BN d0 d1 hb
  obtain ⟨ff, hff⟩ : ∃ ff, fewB vs = ff := ⟨_, rfl⟩
  rw [hff]
  have HF := Lib.hid hff
  clear hff
  cases ff
  · go_wp2_with fail
    refine (awake_any w1).mono ?_
    rintro e wz ⟨rfl, hbz⟩
    go_wp2_with fail
    go_ret
    exact ⟨rfl, B.out.trans (hbz.mono B.out.size)⟩
  · have HT : Hid (TArg w A cap vs) := ⟨HA.out, HC.out, HM.out, by have := few_len HF.out; omega⟩
    clear HA HC HM
    have hc := vfind_any n A cap vs v w1 (HT.out.keep B.out)
    obtain ⟨r1, hr1⟩ : ∃ r1, findE n vs v = r1 := ⟨_, rfl⟩
    rw [hr1] at hc
    have Hr1 := Lib.hid hr1
    clear hr1
    unfold Vw.cells at hc
    have HC := Lib.hid hc
    clear hc
    go_wp2_with fail
    refine HC.out.mono ?_
    rintro e w2 ⟨rfl, hb⟩
    clear HC
    have d0 := (hb.block _ (blk_lt D0.out)).trans D0.out
    have d1 := (hb.block _ (blk_lt D1.out)).trans D1.out
    have BN := Lib.hid (B.out.trans (hb.mono B.out.size))
    clear t0 t1 q0 q1 q2 q3 q4 q5 q6 q7
    have t0 := blk_cell d0 0 rfl
    have t1 := blk_cell d0 1 rfl
    have q0 := blk_cell d1 0 rfl
    have q1 := blk_cell d1 1 rfl
    have q2 := blk_cell d1 2 rfl
    have q3 := blk_cell d1 3 rfl
    have q4 := blk_cell d1 4 rfl
    have q5 := blk_cell d1 5 rfl
    have q6 := blk_cell d1 6 rfl
    have q7 := blk_cell d1 7 rfl
    have l0 : w.heap.size < w2.heap.size := blk_lt d0
    have l1 : w.heap.size + 1 < w2.heap.size := blk_lt d1
    clear D0 D1 B
    have D0 := Lib.hid d0
    have D1 := Lib.hid d1
    have B := Lib.hid BN.out
    clear BN d0 d1 hb
    have hc := rfind_any n A cap vs v w2 (HT.out.keep B.out)
    rw [Hr1.out] at hc
    unfold Vw.cells at hc
    have HC := Lib.hid hc
    clear hc
    go_wp2_with fail
    refine HC.out.mono ?_
    rintro e w3 ⟨rfl, hb⟩
    clear HC
    have d0 := (hb.block _ (blk_lt D0.out)).trans D0.out
    have d1 := (hb.block _ (blk_lt D1.out)).trans D1.out
    have BN := Lib.hid (B.out.trans (hb.mono B.out.size))
    clear t0 t1 q0 q1 q2 q3 q4 q5 q6 q7
    have t0 := blk_cell d0 0 rfl
    have t1 := blk_cell d0 1 rfl
    have q0 := blk_cell d1 0 rfl
    have q1 := blk_cell d1 1 rfl
    have q2 := blk_cell d1 2 rfl
    have q3 := blk_cell d1 3 rfl
    have q4 := blk_cell d1 4 rfl
    have q5 := blk_cell d1 5 rfl
    have q6 := blk_cell d1 6 rfl
    have q7 := blk_cell d1 7 rfl
    have l0 : w.heap.size < w3.heap.size := blk_lt d0
    have l1 : w.heap.size + 1 < w3.heap.size := blk_lt d1
    clear D0 D1 B
    have D0 := Lib.hid d0
    have D1 := Lib.hid d1
    have B := Lib.hid BN.out
    clear BN d0 d1 hb
    obtain ⟨c1, hc1⟩ : ∃ c1, CheckE n vs = c1 := ⟨_, rfl⟩
    have Hc1 := Lib.hid hc1
    clear hc1
    have e1 : (r1.1 == r1.1) = true := by simp
    have e2 : (r1.2.1 == r1.2.1) = true := by simp
    have e3 : (r1.2.2 == r1.2.2) = true := by simp
    have e4 : (c1 == c1) = true := by simp
    have HW3 := B.out.size
    go_upto_region 5 with fail
    go_region_held3 (fun w' => w'.cell? ⟨w.heap.size, 0, none⟩ = some (.int .i64 n) ∧ w'.cell? ⟨w.heap.size, 1, none⟩ = some (.slice A vs.length cap))
      (first | exact ⟨t0, t1⟩ | exact ⟨(hbA.cell (p := ⟨w.heap.size, 0, none⟩) l0).trans t0, (hbA.cell (p := ⟨w.heap.size, 1, none⟩) l0).trans t1⟩ | exact ⟨y0, y1⟩ | exact ⟨x0, x1⟩ | exact ⟨z0, z1⟩)
      ((first
      | (go_at_call 27; refine (vcheck_any n A cap vs _ (by exact (HT.out.keep B.out).keep ((Below.refl _ _).drew))).mono ?_; rw [Hc1.out]; rintro e wA ⟨rfl, hbA0⟩; have hbA := belU hbA0; have x0 := (hbA.cell (p := ⟨w.heap.size, 0, none⟩) l0).trans t0; have x1 := (hbA.cell (p := ⟨w.heap.size, 1, none⟩) l0).trans t1)
      | (go_at_call 28; refine (rcheck_any n A cap vs _ (by exact ((HT.out.keep B.out).keep hbA))).mono ?_; rw [Hc1.out]; rintro e wB ⟨rfl, hbB⟩; have y0 := (hbB.cell (p := ⟨w.heap.size, 0, none⟩) (Nat.lt_of_lt_of_le l0 hbA.size)).trans x0; have y1 := (hbB.cell (p := ⟨w.heap.size, 1, none⟩) (Nat.lt_of_lt_of_le l0 hbA.size)).trans x1)
      | (go_at_call 12; refine (awake_any _).mono ?_; rintro e wC ⟨rfl, hbC⟩; have z0 := (hbC.cell (p := ⟨w.heap.size, 0, none⟩) (Nat.lt_of_lt_of_le l0 (Nat.le_trans hbA.size hbB.size))).trans y0; have z1 := (hbC.cell (p := ⟨w.heap.size, 1, none⟩) (Nat.lt_of_lt_of_le l0 (Nat.le_trans hbA.size hbB.size))).trans y1)))
    all_goals
      go_wp2_with fail
      go_ret
      exact ⟨rfl, B.out.trans ((hbA.trans ((hbB.trans (hbC.mono hbB.size)).mono hbA.size)).mono B.out.size)⟩
set_option maxRecDepth 100000 in
set_option maxHeartbeats 4000000 in
theorem law_adds (n : Int) (A : Option Addr) (cap : Nat) (vs : List Vw) (v : Vw) (w : World) (hA : VAt w w.heap.size A vs) (hc : vs.length ≤ cap) (hm : cap ≤ maxLen) (hl : vs.length ≤ 2199023255552) :
    Calls Tryd.prog 3 #[.agg #[.int .i64 n, .slice A vs.length cap], .agg v.cells] w (RetTrue w) := by
  have HA := Lib.hid hA
  have HC := Lib.hid hc
  have HM := Lib.hid hm
  clear hA hc hm
  go_enter Tryd.func3, Tryd.ntmps3
  unfold Vw.cells
  go_wp2_with fail
  obtain ⟨W0, hW0, d0, d1, hsz, hB0⟩ := twoboxes w #[.int .i64 n, .slice A vs.length cap] v.cells 24 27
  unfold Vw.cells at hW0 d1
  rw [hW0]
  clear hW0
  refine (few_any n A cap vs W0 w.heap.size (by omega) (HA.out.keep hB0) hl).mono ?_
  rintro e w1 ⟨rfl, hb⟩
  have D0 := Lib.hid d0
  have D1 := Lib.hid d1
  have B := Lib.hid hB0
  clear d0 d1 hB0 hsz
  have d0 := (hb.block _ (blk_lt D0.out)).trans D0.out
  have d1 := (hb.block _ (blk_lt D1.out)).trans D1.out
  have BN := Lib.hid (B.out.trans (hb.mono B.out.size))
  have t0 := blk_cell d0 0 rfl
  have t1 := blk_cell d0 1 rfl
  have q0 := blk_cell d1 0 rfl
  have q1 := blk_cell d1 1 rfl
  have q2 := blk_cell d1 2 rfl
  have q3 := blk_cell d1 3 rfl
  have q4 := blk_cell d1 4 rfl
  have q5 := blk_cell d1 5 rfl
  have q6 := blk_cell d1 6 rfl
  have q7 := blk_cell d1 7 rfl
  have l0 : w.heap.size < w1.heap.size := blk_lt d0
  have l1 : w.heap.size + 1 < w1.heap.size := blk_lt d1
  clear D0 D1 B
  have D0 := Lib.hid d0
  have D1 := Lib.hid d1
  have B := Lib.hid BN.out
  clear BN d0 d1 hb
  obtain ⟨ff, hff⟩ : ∃ ff, fewB vs = ff := ⟨_, rfl⟩
  rw [hff]
  have HF := Lib.hid hff
  clear hff
  cases ff
  · go_wp2_with fail
    refine (awake_any w1).mono ?_
    rintro e wz ⟨rfl, hbz⟩
    go_wp2_with fail
    go_ret
    exact ⟨rfl, B.out.trans (hbz.mono B.out.size)⟩
  · have HT : Hid (TArg w A cap vs) := ⟨HA.out, HC.out, HM.out, by have := few_len HF.out; omega⟩
    clear HA HC HM
    by_cases hr : 4 < v.r ∧ v.r ≤ 6
    · have g1 : decide (v.r > 4) = true := by simpa using hr.1
      have g2 : decide (v.r ≤ 6) = true := by simpa using hr.2
      clear hr
      go_wp2_with fail
      refine (awake_any w1).mono ?_
      rintro e wz ⟨rfl, hbz⟩
      go_wp2_with fail
      go_ret
      exact ⟨rfl, B.out.trans (hbz.mono B.out.size)⟩
    · have gg : (decide (v.r > 4) && decide (v.r ≤ 6)) = false := by simp; omega
      have HG := Lib.hid gg
      have hc := vadd_any n A cap vs v w1 (HT.out.keep B.out)
      obtain ⟨r1, hr1⟩ : ∃ r1, addE n vs v = r1 := ⟨_, rfl⟩
      rw [hr1] at hc
      have Hr1 := Lib.hid hr1
      unfold Vw.cells at hc
      have HC := Lib.hid hc
      clear hr hr1 gg hc
      by_cases h4 : 4 < v.r
      · have h6 : ¬ v.r ≤ 6 := by have := HG.out; simp at this; omega
        have g1 : decide (v.r > 4) = true := by simpa using h4
        have g2 : decide (v.r ≤ 6) = false := by simpa using h6
        clear h4 h6
        go_wp2_with fail
        refine HC.out.mono ?_
        rintro e w2 ⟨A5, cap5, rfl, hT5, hb⟩
        clear HC
        have HT5 := Lib.hid hT5
        have HL5 := Lib.hid hT5.few
        clear hT5
        have d0 := (hb.block _ (blk_lt D0.out)).trans D0.out
        have d1 := (hb.block _ (blk_lt D1.out)).trans D1.out
        have BN := Lib.hid (B.out.trans (hb.mono B.out.size))
        clear t0 t1 q0 q1 q2 q3 q4 q5 q6 q7
        have t0 := blk_cell d0 0 rfl
        have t1 := blk_cell d0 1 rfl
        have q0 := blk_cell d1 0 rfl
        have q1 := blk_cell d1 1 rfl
        have q2 := blk_cell d1 2 rfl
        have q3 := blk_cell d1 3 rfl
        have q4 := blk_cell d1 4 rfl
        have q5 := blk_cell d1 5 rfl
        have q6 := blk_cell d1 6 rfl
        have q7 := blk_cell d1 7 rfl
        have l0 : w.heap.size < w2.heap.size := blk_lt d0
        have l1 : w.heap.size + 1 < w2.heap.size := blk_lt d1
        clear D0 D1 B
        have D0 := Lib.hid d0
        have D1 := Lib.hid d1
        have B := Lib.hid BN.out
        clear BN d0 d1 hb
        go_wp2_with fail
        obtain ⟨W3, hW3, d3, hs3, hB3⟩ := onebox w2 #[.int .i64 r1.1.1, .slice A5 r1.1.2.length cap5] 24
        rw [hW3]
        clear hW3
        have HT6 : Hid (TArg W3 A5 cap5 r1.1.2) := HT5.out.keep hB3
        have l3 : w2.heap.size < W3.heap.size := by omega
        have HB3 := Lib.hid hB3
        clear HT5 hs3
        have d0 := (hB3.block _ (blk_lt D0.out)).trans D0.out
        have d1 := (hB3.block _ (blk_lt D1.out)).trans D1.out
        have BN := Lib.hid (B.out.trans (hB3.mono B.out.size))
        clear t0 t1 q0 q1 q2 q3 q4 q5 q6 q7
        have t0 := blk_cell d0 0 rfl
        have t1 := blk_cell d0 1 rfl
        have q0 := blk_cell d1 0 rfl
        have q1 := blk_cell d1 1 rfl
        have q2 := blk_cell d1 2 rfl
        have q3 := blk_cell d1 3 rfl
        have q4 := blk_cell d1 4 rfl
        have q5 := blk_cell d1 5 rfl
        have q6 := blk_cell d1 6 rfl
        have q7 := blk_cell d1 7 rfl
        have l0 : w.heap.size < W3.heap.size := blk_lt d0
        have l1 : w.heap.size + 1 < W3.heap.size := blk_lt d1
        clear D0 D1 B
        have D0 := Lib.hid d0
        have D1 := Lib.hid d1
        have B := Lib.hid BN.out
        clear BN d0 d1 hB3
        have D3 := Lib.hid d3
        clear d3
        have hc := radd_any n A cap vs v W3 (HT.out.keep B.out)
        rw [Hr1.out] at hc
        unfold Vw.cells at hc
        refine hc.mono ?_
        clear hc
        rintro e w4 ⟨A7, cap7, rfl, hT7, hb⟩
        have HT7 := Lib.hid hT7
        clear hT7
        have HT8 : Hid (TArg w4 A5 cap5 r1.1.2) := HT6.out.keep hb
        clear HT6
        have d3 := (hb.block _ (blk_lt D3.out)).trans D3.out
        clear D3
        have l4 : w2.heap.size < w4.heap.size := blk_lt d3
        have d0 := (hb.block _ (blk_lt D0.out)).trans D0.out
        have d1 := (hb.block _ (blk_lt D1.out)).trans D1.out
        have BN := Lib.hid (B.out.trans (hb.mono B.out.size))
        clear t0 t1 q0 q1 q2 q3 q4 q5 q6 q7
        have t0 := blk_cell d0 0 rfl
        have t1 := blk_cell d0 1 rfl
        have q0 := blk_cell d1 0 rfl
        have q1 := blk_cell d1 1 rfl
        have q2 := blk_cell d1 2 rfl
        have q3 := blk_cell d1 3 rfl
        have q4 := blk_cell d1 4 rfl
        have q5 := blk_cell d1 5 rfl
        have q6 := blk_cell d1 6 rfl
        have q7 := blk_cell d1 7 rfl
        have l0 : w.heap.size < w4.heap.size := blk_lt d0
        have l1 : w.heap.size + 1 < w4.heap.size := blk_lt d1
        clear D0 D1 B
        have D0 := Lib.hid d0
        have D1 := Lib.hid d1
        have B := Lib.hid BN.out
        clear BN d0 d1 hb
        have D3 := Lib.hid d3
        have x0 := blk_cell d3 0 rfl
        have x1 := blk_cell d3 1 rfl
        clear d3
        go_wp2_with fail
        have hc := same_any r1.1.1 r1.1.1 A5 A7 cap5 cap7 r1.1.2 r1.1.2 (w4.alloc (.cells #[.int .i64 r1.1.1, .slice A7 r1.1.2.length cap7] 24)) w4.heap.size (by simp) (HT8.out.rows.keep (bel1 w4 _)) (HT7.out.rows.keep (bel1 w4 _)) (Nat.le_trans HL5.out (by decide)) (Nat.le_trans HL5.out (by decide))
        refine hc.mono ?_
        clear hc
        rintro e w5 ⟨rfl, hb⟩
        have B5 : Hid (Below w.heap.size w w5) := B.out.trans (((bel1 w4 _).trans (hb.mono (by simp))).mono B.out.size)
        have e1 : decide (r1.1.1 = r1.1.1 ∧ r1.1.2 = r1.1.2) = true := by simp
        have e2 : (r1.2.1 == r1.2.1) = true := by simp
        have e3 : (r1.2.2 == r1.2.2) = true := by simp
        clear hb
        go_wp2_with fail
        refine (awake_any w5).mono ?_
        rintro e wz ⟨rfl, hbz⟩
        go_wp2_with fail
        go_ret
        exact ⟨rfl, B5.out.trans (hbz.mono B5.out.size)⟩
      · have g1 : decide (v.r > 4) = false := by simpa using h4
        clear h4
        go_wp2_with fail
        refine HC.out.mono ?_
        rintro e w2 ⟨A5, cap5, rfl, hT5, hb⟩
        clear HC
        have HT5 := Lib.hid hT5
        have HL5 := Lib.hid hT5.few
        clear hT5
        have d0 := (hb.block _ (blk_lt D0.out)).trans D0.out
        have d1 := (hb.block _ (blk_lt D1.out)).trans D1.out
        have BN := Lib.hid (B.out.trans (hb.mono B.out.size))
        clear t0 t1 q0 q1 q2 q3 q4 q5 q6 q7
        have t0 := blk_cell d0 0 rfl
        have t1 := blk_cell d0 1 rfl
        have q0 := blk_cell d1 0 rfl
        have q1 := blk_cell d1 1 rfl
        have q2 := blk_cell d1 2 rfl
        have q3 := blk_cell d1 3 rfl
        have q4 := blk_cell d1 4 rfl
        have q5 := blk_cell d1 5 rfl
        have q6 := blk_cell d1 6 rfl
        have q7 := blk_cell d1 7 rfl
        have l0 : w.heap.size < w2.heap.size := blk_lt d0
        have l1 : w.heap.size + 1 < w2.heap.size := blk_lt d1
        clear D0 D1 B
        have D0 := Lib.hid d0
        have D1 := Lib.hid d1
        have B := Lib.hid BN.out
        clear BN d0 d1 hb
        go_wp2_with fail
        obtain ⟨W3, hW3, d3, hs3, hB3⟩ := onebox w2 #[.int .i64 r1.1.1, .slice A5 r1.1.2.length cap5] 24
        rw [hW3]
        clear hW3
        have HT6 : Hid (TArg W3 A5 cap5 r1.1.2) := HT5.out.keep hB3
        have l3 : w2.heap.size < W3.heap.size := by omega
        have HB3 := Lib.hid hB3
        clear HT5 hs3
        have d0 := (hB3.block _ (blk_lt D0.out)).trans D0.out
        have d1 := (hB3.block _ (blk_lt D1.out)).trans D1.out
        have BN := Lib.hid (B.out.trans (hB3.mono B.out.size))
        clear t0 t1 q0 q1 q2 q3 q4 q5 q6 q7
        have t0 := blk_cell d0 0 rfl
        have t1 := blk_cell d0 1 rfl
        have q0 := blk_cell d1 0 rfl
        have q1 := blk_cell d1 1 rfl
        have q2 := blk_cell d1 2 rfl
        have q3 := blk_cell d1 3 rfl
        have q4 := blk_cell d1 4 rfl
        have q5 := blk_cell d1 5 rfl
        have q6 := blk_cell d1 6 rfl
        have q7 := blk_cell d1 7 rfl
        have l0 : w.heap.size < W3.heap.size := blk_lt d0
        have l1 : w.heap.size + 1 < W3.heap.size := blk_lt d1
        clear D0 D1 B
        have D0 := Lib.hid d0
        have D1 := Lib.hid d1
        have B := Lib.hid BN.out
        clear BN d0 d1 hB3
        have D3 := Lib.hid d3
        clear d3
        have hc := radd_any n A cap vs v W3 (HT.out.keep B.out)
        rw [Hr1.out] at hc
        unfold Vw.cells at hc
        refine hc.mono ?_
        clear hc
        rintro e w4 ⟨A7, cap7, rfl, hT7, hb⟩
        have HT7 := Lib.hid hT7
        clear hT7
        have HT8 : Hid (TArg w4 A5 cap5 r1.1.2) := HT6.out.keep hb
        clear HT6
        have d3 := (hb.block _ (blk_lt D3.out)).trans D3.out
        clear D3
        have l4 : w2.heap.size < w4.heap.size := blk_lt d3
        have d0 := (hb.block _ (blk_lt D0.out)).trans D0.out
        have d1 := (hb.block _ (blk_lt D1.out)).trans D1.out
        have BN := Lib.hid (B.out.trans (hb.mono B.out.size))
        clear t0 t1 q0 q1 q2 q3 q4 q5 q6 q7
        have t0 := blk_cell d0 0 rfl
        have t1 := blk_cell d0 1 rfl
        have q0 := blk_cell d1 0 rfl
        have q1 := blk_cell d1 1 rfl
        have q2 := blk_cell d1 2 rfl
        have q3 := blk_cell d1 3 rfl
        have q4 := blk_cell d1 4 rfl
        have q5 := blk_cell d1 5 rfl
        have q6 := blk_cell d1 6 rfl
        have q7 := blk_cell d1 7 rfl
        have l0 : w.heap.size < w4.heap.size := blk_lt d0
        have l1 : w.heap.size + 1 < w4.heap.size := blk_lt d1
        clear D0 D1 B
        have D0 := Lib.hid d0
        have D1 := Lib.hid d1
        have B := Lib.hid BN.out
        clear BN d0 d1 hb
        have D3 := Lib.hid d3
        have x0 := blk_cell d3 0 rfl
        have x1 := blk_cell d3 1 rfl
        clear d3
        go_wp2_with fail
        have hc := same_any r1.1.1 r1.1.1 A5 A7 cap5 cap7 r1.1.2 r1.1.2 (w4.alloc (.cells #[.int .i64 r1.1.1, .slice A7 r1.1.2.length cap7] 24)) w4.heap.size (by simp) (HT8.out.rows.keep (bel1 w4 _)) (HT7.out.rows.keep (bel1 w4 _)) (Nat.le_trans HL5.out (by decide)) (Nat.le_trans HL5.out (by decide))
        refine hc.mono ?_
        clear hc
        rintro e w5 ⟨rfl, hb⟩
        have B5 : Hid (Below w.heap.size w w5) := B.out.trans (((bel1 w4 _).trans (hb.mono (by simp))).mono B.out.size)
        have e1 : decide (r1.1.1 = r1.1.1 ∧ r1.1.2 = r1.1.2) = true := by simp
        have e2 : (r1.2.1 == r1.2.1) = true := by simp
        have e3 : (r1.2.2 == r1.2.2) = true := by simp
        clear hb
        go_wp2_with fail
        refine (awake_any w5).mono ?_
        rintro e wz ⟨rfl, hbz⟩
        go_wp2_with fail
        go_ret
        exact ⟨rfl, B5.out.trans (hbz.mono B5.out.size)⟩
end Go.Proofs.YtdfnmapmnmecnaaDoor
