/- Parts Execs NumA NumB CountA WordsB CatL Copy CountB BuildA BuildB PutA BuildC First BtA. -/
import Derived.Test.YtdkmpccfnnpnbaaGreatProg
import Derived.Test.YtdkmpccfnnpnbaaGreatKb
import Derived.Test.YtdkmpccfnnpnbaaGreatKc
import Derived.Deep.RegionHeld3
import Derived.Deep.LoopGhost
import Derived.Deep.DeepCutAuto
import Derived.Laws.EntriesVeiled
import Derived.Deep.QuietTactic
import Derived.BigQuiet
import Derived.StillTactics
import Derived.StillTailTactics
import Derived.Laws.Pointers
import Derived.Deep.RegionLaw
import Derived.Carry
import Derived.Test.YtdkmpccfnnpnbaaGreatKa

namespace Go.Proofs.YtdkmpccfnnpnbaaGreat
set_option maxHeartbeats 4000000
section
open Go.RowKit Go.Shelf
attribute [local go_sem] Oper.semAt_some
def zg (n : Nat) : Nat → Nat → List (Nat × Nat)
 | _, 0 => []
 | i, m + 1 => (List.range n).map (fun j => (i, j)) ++ zg n (i + 1) m
def yy (n i j : Nat) : List (Nat × Nat) := ((List.range n).drop j).map fun j => (i, j)
theorem vx {n i j : Nat} (h : j < n) : yy n i j = (i, j) :: yy n i (j + 1) := by
 unfold yy
 rw [List.drop_eq_getElem_cons (by simpa using h)]
 simp
theorem uH (n i : Nat) : yy n i n = [] := by unfold yy; simp
theorem qK {n : Nat} : ∀ (m i : Nat) (x : Nat × Nat), x ∈ zg n i m → i ≤ x.1 ∧ x.1 < i + m ∧ x.2 < n
 | 0, _, _, h => by cases h
 | m + 1, i, x, h => by
  rcases List.mem_append.1 h with h | h
  · obtain ⟨j, hj, rfl⟩ := List.mem_map.1 h
    exact ⟨Nat.le_refl _, by show i < _; omega, by simpa using hj⟩
  · obtain ⟨a, b, c⟩ := qK m (i + 1) x h
    exact ⟨by omega, by omega, c⟩
set_option maxRecDepth 100000 in
theorem execs_any (p : Pb) (A : Option Addr) (kc : Nat) (SV : Option Addr) (ks : Nat) (V : Option Addr) (nw cw : Nat) (w : World) : Calls Tryz.prog 137 #[.agg (p.vs A kc SV ks), .slice V nw cw] w fun e w' =>
  e = .returned (.func (.func 172) #[] #[.pointer (some ⟨w.heap.size, 0, none⟩), .pointer (some ⟨w.heap.size + 1, 0, none⟩)]) ∧ (w.alloc (.cells (p.vs A kc SV ks) 29)).alloc (.cells #[.slice V nw cw] 209) = w' := by
 unfold Pb.vs
 go_enter Tryz.func137, Tryz.ntmps137
 go_wp2
 go_ret
 exact ⟨rfl, rfl⟩
def SlAt (w : World) (B : Nat) (AW : Option Addr) (nw : Nat) (sl : Nat → Value) : Prop := ∀ j, j < nw → ∃ b off, AW = some ⟨b, off, none⟩ ∧ b < B ∧ w.cell? ⟨b, off + j, none⟩ = some (sl j)
theorem SlAt.same {w w' : World} {B : Nat} {AW : Option Addr} {nw : Nat} {sl : Nat → Value} (h : SlAt w B AW nw sl) (hk : ∀ k, k < B → w'.heap[k]? = w.heap[k]?) : SlAt w' B AW nw sl := fun j hj => by
 obtain ⟨b, off, e, hb, hc⟩ := h j hj
 exact ⟨b, off, e, hb, (World.cell?_of_block (hk b hb)).trans hc⟩
set_option maxRecDepth 100000 in
theorem XO (C : Array Value) (M : Nat) (hf : M ≤ 30) (A : Option Addr) (kc : Nat) (hC : C[3]? = some (.slice A M kc)) (AW : Option Addr) (nw cw : Nat) (hnw : nw ≤ 5000) (sl : Nat → Value) (B bp bw : Nat) (w : World) (hp : w.heap[bp]? = some (.cells C 29)) (hw : w.heap[bw]? = some (.cells #[.slice AW nw cw] 209))
  (hS : SlAt w B AW nw sl) (hB : B ≤ w.heap.size) :
  Ja Tryz.prog 172 #[.pointer (some ⟨bp, 0, none⟩), .pointer (some ⟨bw, 0, none⟩)] (fun x : Nat × Nat => #[.int .i64 x.1, sl x.2]) (fun k => k < B ∨ k = bp ∨ k = bw) (zg nw 0 M) w := fun n hn l J Jx W hW hJ hJx hY h0 => by
 have hbp : bp < w.heap.size := (Array.getElem?_eq_some_iff.1 hp).1
 have hbw : bw < w.heap.size := (Array.getElem?_eq_some_iff.1 hw).1
 have hp0 := (hW.block bp hbp).trans hp
 have hw0 := (hW.block bw hbw).trans hw
 have HS0 := zH (hS.same (w' := W) fun k hk => hW.block k (by omega))
 have HY := zH hY
 have c3 := za hp0 3 hC
 have H0 := zH h0
 have HP0 := zH hp0
 have HW0 := zH hw0
 have hBs : B ≤ W.heap.size := Nat.le_trans hB hW.size
 have hpW : bp < W.heap.size := Nat.lt_of_lt_of_le hbp hW.size
 have hwW : bw < W.heap.size := Nat.lt_of_lt_of_le hbw hW.size
 clear hY hS hJ hJx h0 hp0 hw0 hp hw hW hB hbp hbw
 refine callsIn_of_wp Tryz.func172 rfl trivial ?_ rfl
 simp only [Tryz.ntmps172, List.size_toArray, List.length_cons, List.length_nil, Nat.reduceAdd, Nat.reduceSub, Array.replicate_succ, Array.replicate_zero, List.push_toArray, List.append_toArray, List.nil_append, List.cons_append]
 gi_wp2
 gi_loopw [11] (fun q wr => ∃ s : Nat, s ≤ M ∧ q = .int .i64 (s : Int) ∧ ∃ pre : List { x : Nat × Nat // x ∈ zg nw 0 M }, Hid (pre.map (·.1) ++ zg nw s (M - s) = zg nw 0 M) ∧ Hid (J pre wr) ∧ Hid (SlAt wr B AW nw sl) ∧ Hid (wr.heap[bp]? = some (.cells C 29)) ∧ Hid (wr.heap[bw]? = some (.cells #[.slice AW nw cw] 209)) ∧ W.heap.size ≤ wr.heap.size) (fun q _ => M - (intOf q).toNat)
 case atStart => exact ⟨0, by omega, rfl, [], by simp [Hid], H0, HS0, HP0, HW0, Nat.le_refl _⟩
 case round =>
  obtain ⟨s, hs, rfl, pre, hpr, hJ0, hSr, hPr, hWr, hsz⟩ := hrel
  clear c3 HP0 HW0 HS0 H0
  by_cases hlt : s < M
  · have hdr : zg nw s (M - s) = yy nw s 0 ++ zg nw (s + 1) (M - (s + 1)) := by
     rw [show M - s = (M - (s + 1)) + 1 by omega, zg]
     unfold yy
     rw [List.drop_zero]
    have HP : Hid (pre.map (·.1) ++ (yy nw s 0 ++ zg nw (s + 1) (M - (s + 1))) = zg nw 0 M) := by rw [← hdr]; exact hpr.out
    have q0 := za hWr.out 0 rfl
    clear hdr hpr
    gi_wp2_with fail
    gi_loopw [16] (fun q wr => ∃ j : Nat, j ≤ nw ∧ q = .int .i64 (j : Int) ∧ ∃ pre : List { x : Nat × Nat // x ∈ zg nw 0 M }, Hid (pre.map (·.1) ++ (yy nw s j ++ zg nw (s + 1) (M - (s + 1))) = zg nw 0 M) ∧ Hid (J pre wr) ∧ Hid (SlAt wr B AW nw sl) ∧ Hid (wr.heap[bp]? = some (.cells C 29)) ∧ Hid (wr.heap[bw]? = some (.cells #[.slice AW nw cw] 209)) ∧ W.heap.size ≤ wr.heap.size) (fun q _ => nw - (intOf q).toNat)
    case atStart => exact ⟨0, by omega, rfl, pre, HP, hJ0, hSr, hPr, hWr, hsz⟩
    case round =>
     clear HP q0 hJ0 hSr hPr hWr hsz
     obtain ⟨j, hj, rfl, pre, hpr, hJ0, hSr, hPr, hWr, hsz⟩ := hrel
     by_cases hjl : j < nw
     · obtain ⟨b2, o2, rfl, hb2, m0⟩ := hSr.out j hjl
       have hp2 : pre.map (·.1) ++ ((s, j) :: (yy nw s (j + 1) ++ zg nw (s + 1) (M - (s + 1)))) = zg nw 0 M := by
        have := hpr.out
        rw [vx hjl, List.cons_append] at this
        exact this
       have hmem : (s, j) ∈ zg nw 0 M := by rw [← hp2]; simp
       have hlen : pre.length < (zg nw 0 M).length := by
        have := congrArg List.length hp2
        simp only [List.length_append, List.length_map, List.length_cons] at this
        omega
       obtain ⟨fn, tmps, assign, body, hy, hR⟩ := HY.out pre ⟨(s, j), hmem⟩ _ hJ0.out hlen
       dsimp only at hy
       have HP2 : Hid ((pre ++ [(⟨(s, j), hmem⟩ : { x : Nat × Nat // x ∈ zg nw 0 M })]).map (·.1) ++ (yy nw s (j + 1) ++ zg nw (s + 1) (M - (s + 1))) = zg nw 0 M) := by
        rw [List.map_append, List.append_assoc]
        exact hp2
       have HR := zH hR
       clear hp2 hpr hR
       gi_wp2_with fail
       refine HR.out.mono ?_
       rintro e W3 (⟨rfl, hJ3, hk3⟩ | ⟨rfl, hJx3⟩)
       · have hs1 : wr.heap.size ≤ W3.heap.size := hk3.size
         have S3 := zH (hSr.out.same (fun k hk => hk3.same k (.inl hk) (by omega)))
         have P3 := zH ((hk3.same bp (.inr (.inl rfl)) (by omega)).trans hPr.out)
         have B3 := zH ((hk3.same bw (.inr (.inr rfl)) (by omega)).trans hWr.out)
         have J3 := zH hJ3
         have hsz3 : W.heap.size ≤ W3.heap.size := by omega
         clear hk3 hJ3 hs1 m0
         gi_wp2_with fail
         go_roundw
         case rel => exact ⟨j + 1, by omega, by go_num, _, HP2, J3, S3, P3, B3, hsz3⟩
         case measure => simp [intOf]; omega
       · gi_wp2_with fail
         refine bodyPost_ret (results_none rfl _ _ _) rfl ?_
         refine ⟨⟨_, rfl⟩, .inr ⟨_, ?_, hJx3⟩⟩
         exact ⟨_, HP2.out⟩
     · obtain rfl : nw = j := by omega
       have HP : Hid (pre.map (·.1) ++ zg nw (s + 1) (M - (s + 1)) = zg nw 0 M) := by have := hpr.out; rwa [uH, List.nil_append] at this
       clear hpr
       gi_wp2_with fail
       go_roundw
       case rel => exact ⟨s + 1, by omega, by go_num, pre, HP, hJ0, hSr, hPr, hWr, hsz⟩
       case measure => simp [intOf]; omega
  · obtain rfl : M = s := by omega
    have HP : Hid (pre.map (·.1) = zg nw 0 M) := by have := hpr.out; rwa [Nat.sub_self, zg, List.append_nil] at this
    clear hpr
    gi_wp2_with fail
    go_end0
    exact ⟨⟨_, rfl⟩, .inl ⟨pre, HP.out, hJ0.out⟩⟩
end
section
open Go.RowKit
theorem gC : ∀ (j : Nat) (xss : List (List Mv)) (x : Int × Mv), x ∈ zB j xss → ∃ s, j ≤ s ∧ s < j + xss.length ∧ x.1 = (s : Int)
 | _, [], x, h => by cases h
 | j, l :: r, x, h => by
  rw [zB] at h
  rcases List.mem_append.1 h with h | h
  · obtain ⟨m, _, rfl⟩ := List.mem_map.1 h
    exact ⟨j, Nat.le_refl _, by simp, rfl⟩
  · obtain ⟨s, h1, h2, h3⟩ := gC (j + 1) r x h
    exact ⟨s, by omega, by simp; omega, h3⟩
def qO (a : Ad) (k s : Nat) (xs : List (Int × Mv)) : Nat := (xs.map fun x => if x.1 = (s : Int) then zN a k x.2.to else 0).sum
theorem JW (a : Ad) (k s : Nat) (xs : List (Int × Mv)) (x : Int × Mv) : qO a k s (xs ++ [x]) = qO a k s xs + if x.1 = (s : Int) then zN a k x.2.to else 0 := by
 unfold qO; rw [List.map_append, List.sum_append]; simp
theorem wK (a : Ad) (k s j : Nat) (h : s ≠ j) : ∀ l : List Mv, qO a k s (l.map fun m => ((j : Int), m)) = 0
 | [] => rfl
 | m :: l => by
  have := wK a k s j h l
  unfold qO at this ⊢
  rw [List.map_cons, List.map_cons, List.sum_cons, this, if_neg (by intro e; apply h; omega)]
theorem Zy (a : Ad) (k s : Nat) : ∀ l : List Mv, qO a k s (l.map fun m => ((s : Int), m)) = (l.map fun m => zN a k m.to).sum
 | [] => rfl
 | m :: l => by
  have := Zy a k s l
  unfold qO at this ⊢
  rw [List.map_cons, List.map_cons, List.sum_cons, this, if_pos rfl, List.map_cons, List.sum_cons]
theorem sumF_app (a : Ad) (k s : Nat) (xs ys : List (Int × Mv)) : qO a k s (xs ++ ys) = qO a k s xs + qO a k s ys := by
 unfold qO; rw [List.map_append, List.sum_append]
theorem Zz (a : Ad) (k s : Nat) : ∀ (j : Nat) (xss : List (List Mv)), qO a k s (zB j xss) = if j ≤ s then ((xss.getD (s - j) []).map fun m => zN a k m.to).sum else 0
 | j, [] => by simp [zB, qO]
 | j, l :: r => by
  rw [zB, sumF_app, Zz a k s (j + 1) r]
  by_cases e : s = j
  · subst e
    rw [Zy, if_neg (by omega), if_pos (Nat.le_refl _), Nat.sub_self]; rfl
  · rw [wK a k s j e, Nat.zero_add]
    by_cases h : j ≤ s
    · rw [if_pos (by omega), if_pos h, show s - j = (s - (j + 1)) + 1 by omega, List.getD_cons_succ]
    · rw [if_neg (by omega), if_neg h]
theorem sumF_all (a : Ad) (k s : Nat) : qO a k s (zB 0 a.sts) = zN a (k + 1) (s : Int) := by
 rw [Zz, if_pos (Nat.zero_le _), Nat.sub_zero, zN]; unfold Ad.at_; rw [Int.toNat_natCast]
def qh (a : Ad) (L k sl : Nat) (pre : List (Int × Mv)) : List Int := (List.range sl).map fun (j : Nat) => ((yG L (qO a k j pre) : Nat) : Int)
theorem nextL_len (a : Ad) (L k sl : Nat) (pre : List (Int × Mv)) : (qh a L k sl pre).length = sl := by unfold qh; simp
theorem nextL_nil (a : Ad) (L k sl : Nat) : qh a L k sl [] = List.replicate sl 0 := by
 refine List.ext_getElem (by simp [qh]) fun j h1 h2 => ?_
 simp [qh, qO, YY]
theorem ua (a : Ad) (L k sl : Nat) (pre : List (Int × Mv)) (j : Nat) (h : j < (qh a L k sl pre).length) : (qh a L k sl pre)[j] = ((yG L (qO a k j pre) : Nat) : Int) := by simp [qh]
theorem Qx (a : Ad) (L k sl : Nat) (pre : List (Int × Mv)) (x : Int × Mv) (s : Nat) (hx : x.1 = (s : Int)) : qh a L k sl (pre ++ [x]) = (qh a L k sl pre).set s ((yG L (qO a k s pre + zN a k x.2.to) : Nat) : Int) := by
 refine List.ext_getElem (by simp [qh]) fun j h1 h2 => ?_
 rw [List.getElem_set, ua, JW, hx]
 by_cases e : s = j
 · subst e; rw [if_pos rfl, if_pos rfl]
 · rw [if_neg (by omega), if_neg e, Nat.add_zero, ua]
theorem nextL_all (a : Ad) (L k sl : Nat) : qh a L k sl (zB 0 a.sts) = cl a L (k + 1) sl := by
 unfold qh cl
 refine List.map_congr_left fun j _ => ?_
 rw [sumF_all]
theorem cl_first (a : Ad) (L sl : Nat) : cl a L 0 sl = List.replicate sl 1 := by
 refine List.ext_getElem (by simp [cl]) fun j h1 h2 => ?_
 rw [Za]
 simp [zN, Jf]
end
section
open Go.RowKit Go.Shelf
attribute [local go_sem] Oper.semAt_some
theorem xq {B : Nat} {ds : List Deferred} {w w' : World} (h : Marks B ds w) (hs : ∀ k : Nat, w.heap[k]? = some (Obj.deferred (some [])) → w'.heap[k]? = some (Obj.deferred (some []))) : Marks B ds w' := by
 obtain ⟨rs, e, hn, hk⟩ := h
 exact ⟨rs, e, hn, fun r hr => ⟨(hk r hr).1, hs r (hk r hr).2⟩⟩
structure NmIn (B : Nat) (C : Array Value) (L : Int) (g7 g : Nat) (cs : List Int) (w W : World) : Prop where
 below : Below B w W
 b0 : W.heap[B]? = some (.cells C 27 (0, 0))
 b1 : W.heap[B + 1]? = some (.cells #[.int .i64 L] 3 (0, 0))
 b7 : W.heap[g7]? = some (.cells #[.slice (some ⟨g, 0, none⟩) cs.length cs.length] 38 (0, 0))
 row : RowAt W g cs
 h7 : B + 2 ≤ g7
 hg : B + 2 ≤ g
theorem NmIn.on {B : Nat} {C : Array Value} {L : Int} {g7 g : Nat} {cs : List Int} {w W W' : World} (h : NmIn B C L g7 g cs w W) (hb : Below W.heap.size W W') : NmIn B C L g7 g cs w W' :=
 ⟨h.below.trans (hb.mono (by have := zd h.b0; omega)), (hb.block _ (zd h.b0)).trans h.b0, (hb.block _ (zd h.b1)).trans h.b1, (hb.block _ (zd h.b7)).trans h.b7, (hb.block _ h.row.lt).trans h.row, h.h7, h.hg⟩
theorem NmIn.turn {B : Nat} {C : Array Value} {L : Int} {g7 g : Nat} {cs : List Int} {w W W' : World} {row : Option Nat} (h : NmIn B C L g7 g cs w W) (hg : W.grownBy W' row) (hr : ∀ r, row = some r → B ≤ r ∧ ∃ o : Obj, W.heap[r]? = some o ∧ o.isCells = false) : NmIn B C L g7 g cs w W' :=
 ⟨h.below.grown hg (by have := zd h.b0; omega) (fun k hk => (hr k hk).1), (grownBy_keeps_cells hg (fun r e => (hr r e).2) h.b0 rfl).trans h.b0, (grownBy_keeps_cells hg (fun r e => (hr r e).2) h.b1 rfl).trans h.b1,
  (grownBy_keeps_cells hg (fun r e => (hr r e).2) h.b7 rfl).trans h.b7, (grownBy_keeps_cells hg (fun r e => (hr r e).2) h.row rfl).trans h.row, h.h7, h.hg⟩
theorem NmIn.setk {B : Nat} {C : Array Value} {L : Int} {g7 g : Nat} {cs : List Int} {w W : World} (h : NmIn B C L g7 g cs w W) (n j : Nat) (v : Value) (h7 : g7 < n) (hg : g < n) : NmIn B C L g7 g cs w (W.setCell ⟨n, j, none⟩ v) := by
 have h1 := h.h7
 exact ⟨h.below.setCell (by show B ≤ n; omega) _, (Below.heap_setCell W ⟨n, j, none⟩ v B (by show B ≠ n; omega)).trans h.b0, (Below.heap_setCell W ⟨n, j, none⟩ v (B + 1) (by show B + 1 ≠ n; omega)).trans h.b1,
  (Below.heap_setCell W ⟨n, j, none⟩ v g7 (by show g7 ≠ n; omega)).trans h.b7, (Below.heap_setCell W ⟨n, j, none⟩ v g (by show g ≠ n; omega)).trans h.row, h.h7, h.hg⟩
theorem NmIn.swap {B : Nat} {C : Array Value} {L : Int} {g7 g n : Nat} {cs cs' : List Int} {w W : World} (h : NmIn B C L g7 g cs w W) (hr : RowAt W n cs') (hn : B + 2 ≤ n) (hne : n ≠ g7) : NmIn B C L g7 n cs' w (W.setCell ⟨g7, 0, none⟩ (.slice (some ⟨n, 0, none⟩) cs'.length cs'.length)) := by
 have h1 := h.h7
 obtain ⟨x1, x2, x3⟩ := kD h.b7 (.slice (some ⟨n, 0, none⟩) cs'.length cs'.length)
 exact ⟨h.below.setCell (by show B ≤ g7; omega) _, (x3 B (by omega)).trans h.b0, (x3 (B + 1) (by omega)).trans h.b1, x1, (x3 n hne).trans hr, h.h7, hn⟩
theorem QL {D : Nat} {W : World} {n : Nat} {xs : List Int} (h : RowAt W n xs) (j : Nat) (v : Value) : KeepsFrom D W (W.setCell ⟨n, j, none⟩ v) :=
 ⟨(yc W n j v).size, fun k o _ hk ho => (Below.heap_setCell W ⟨n, j, none⟩ v k (by rintro rfl; rw [h] at hk; cases hk; cases ho)).trans hk⟩
theorem rep_arr (n : Nat) : ((List.replicate n (0 : Int)).map (Value.int .i64)).toArray = Array.replicate n (Value.int .i64 0) := by simp
set_option maxRecDepth 100000 in
theorem Qu (a : Ad) (hf : FewA a) (hz : zv a a.sts = 0) (h1 : 1 ≤ a.sts.length) (K L : Nat) (hK : K ≤ 6) (hL : L ≤ 1048576) (SV : Option Addr) (ks : Nat) (w : World) (hS : SAt w w.heap.size SV a.sts) :
  Calls Tryz.prog 203 #[.agg #[.int .i64 a.n, .slice SV a.sts.length ks], .int .i64 K, .int .i64 L] w fun e w' => e = .returned (.int .i64 ((yG L (zN a K 0) : Nat) : Int)) ∧ Below w.heap.size w w' := by
 have hf1 := hf.1
 have HI := zH (fun (bx : Nat) (w' : World) (hb : w'.heap[bx]? = some (.cells #[.int .i64 a.n, .slice SV a.sts.length ks] 27)) (h : SAt w' w.heap.size SV a.sts) (hB : w.heap.size ≤ w'.heap.size) => jf a hf SV ks w.heap.size bx w' hb h hB)
 have HZ := zH (@xk a hz)
 have HS := zH hS
 clear hS hz hf
 refine yq Tryz.func203 rfl ?_
 simp only [Tryz.ntmps203, List.size_toArray, List.length_cons, List.length_nil, Nat.reduceAdd, Nat.reduceSub, Array.replicate_succ, Array.replicate_zero, List.push_toArray, List.append_toArray, List.nil_append, List.cons_append]
 go_wp2_with fail
 obtain ⟨w2, hw2, b0, b1, hsz, hB⟩ := yj w #[.int .i64 a.n, .slice SV a.sts.length ks] #[.int .i64 (L : Int)] 27 3
 have hz2 : w2.heap.size = w.heap.size + 2 := by rw [← hw2]; simp
 rw [hw2]
 obtain ⟨w3, hw3, b2, hz3, hB3⟩ := zi w2 #[.int .i64 1] 3
 rw [hw3]
 clear hw2 hw3
 rw [show w2.heap.size = w.heap.size + 1 + 1 by omega] at b2
 refine (Y6 a.sts.length (w.heap.size + 1 + 1) h1 hf1 1 w3 b2).mono ?_
 rintro e w4 ⟨g, rfl, hgg, hrow, hB4⟩
 have H4 : Hid (NmIn w.heap.size #[.int .i64 a.n, .slice SV a.sts.length ks] L w4.heap.size g (cl a L 0 a.sts.length) w (w4.alloc (.cells #[.slice (some ⟨g, 0, none⟩) a.sts.length a.sts.length] 38))) := by
  have c0 := (hB4.block _ (by omega)).trans ((hB3.block _ (by omega)).trans b0)
  have c1 := (hB4.block _ (by omega)).trans ((hB3.block _ (by omega)).trans b1)
  have hs4 := hB4.size
  refine ⟨(hB.trans (hB3.mono (by omega))).trans ((hB4.mono (by omega)).trans ((Below.refl _ _).alloc (by omega) _)), ye c0 _, ye c1 _, ?_, ?_, by omega, by omega⟩
  · rw [kM]; exact zh _ _
  · rw [cl_first]; exact ye hrow _
 have hs4 := hB4.size
 clear hB hB3 hB4 b0 b1 b2
 go_wp2_with fail
 obtain ⟨w5, hw5⟩ : ∃ w5, w4.alloc (.cells #[.slice (some ⟨g, 0, none⟩) a.sts.length a.sts.length] 38) = w5 := ⟨_, rfl⟩
 rw [hw5] at H4 ⊢
 obtain ⟨g7, hg7⟩ : ∃ g7, w4.heap.size = g7 := ⟨_, rfl⟩
 rw [hg7] at H4 ⊢
 obtain ⟨g0, hg0⟩ : ∃ g0, g0 = g := ⟨_, rfl⟩
 have H5 : Hid (NmIn w.heap.size #[.int .i64 a.n, .slice SV a.sts.length ks] L g7 g (cl a L 0 a.sts.length) w w5) := H4.out
 clear H4 hw5 hg7 hrow hgg hs4 hsz hz2 hz3
 refine wp_loop_ghost (fun (m : Nat) (a' : Act) (w' : World) => ∃ (ds : List Deferred) (k h : Nat) (u8 u18 u19 u20 u21 u22 u23 u42 u43 : Value), (m = K - k ∧ k ≤ K ∧ Hid (NmIn w.heap.size #[.int .i64 a.n, .slice SV a.sts.length ks] L g7 h (cl a L k a.sts.length) w w') ∧ Hid (Marks w.heap.size ds w')) ∧ a' = { tmps := #[.agg #[.int .i64 a.n, .slice SV a.sts.length ks], .int .i64 (K : Int), .int .i64 (L : Int), .pointer (some ⟨w.heap.size, 0, none⟩), undef, .pointer (some ⟨w.heap.size + 1, 0, none⟩), .int .i64 0, .pointer (some ⟨g7, 0, none⟩), u8, undef, undef, .slice (some ⟨w.heap.size + 1 + 1, 0, none⟩) 1 1, .pointer (some ⟨w.heap.size, 1, none⟩), .slice SV a.sts.length ks, .int .i64 (a.sts.length : Int), .slice (some ⟨g0, 0, none⟩) a.sts.length a.sts.length, .int .i64 (K : Int), .int .i64 (k : Int), u18, u19, u20, u21, u22, u23, undef, undef, undef, undef, undef, undef, undef, undef, undef, undef, undef, undef, undef, undef, undef, undef, undef, undef, u42, u43, undef, undef, undef], defers := ds }) K ?_ ?_
 · exact ⟨[], 0, g, _, _, _, _, _, _, _, _, _, ⟨by omega, by omega, H5.out, Marks.nil _ _⟩, by rw [hg0]; rfl⟩
 clear H5 hg0
 rintro m a' wr ⟨ds, k, h, u8, u18, u19, u20, u21, u22, u23, u42, u43, ⟨hm, hk, HN, MK⟩, rfl⟩
 have hln := kM a L k a.sts.length
 have q7 := za HN.out.b7 0 rfl
 rw [hln] at q7
 by_cases hkK : k < K
 case neg =>
  obtain rfl : k = K := by omega
  have c0 := HN.out.row.cell 0 (by omega)
  rw [Za] at c0
  clear HI HZ
  go_wp2_with fail
  refine yS MK.out (v := .int .i64 ((yG L (zN a k 0) : Nat) : Int)) (fun W => by kernel_rfl) ?_
  intro W hX
  exact ⟨rfl, HN.out.below.trans hX.below⟩
 case pos =>
 have hmk := uh a.sts.length h1 hf1
 have q0 := za HN.out.b0 0 rfl
 have q1 := za HN.out.b0 1 rfl
 go_upto_region 5 with fail
 obtain ⟨W1, hW1, d0, d1, hs1, hB1⟩ := yj wr (Array.replicate a.sts.length (.int .i64 0)) #[.slice (some ⟨wr.heap.size, 0, none⟩) a.sts.length a.sts.length] 3 38
 rw [hW1]
 have hrow : RowAt W1 wr.heap.size (qh a L k a.sts.length []) := by rw [nextL_nil]; unfold RowAt; rw [rep_arr]; exact d0
 have HN1 := HN.out.on hB1
 obtain ⟨hn, hhn⟩ : ∃ hn, wr.heap.size = hn := ⟨_, rfl⟩
 have hg7n : g7 < hn := by rw [← hhn]; exact zd HN.out.b7
 have hhg : h < hn := by rw [← hhn]; exact HN.out.row.lt
 have hBn : w.heap.size + 1 < hn := by rw [← hhn]; exact zd HN.out.b1
 have MK1 : Hid (Marks w.heap.size ds W1) := xq (w := wr) MK.out fun x hx => (hB1.block x (Array.getElem?_eq_some_iff.1 hx).1).trans hx
 rw [hhn] at hrow d1 hs1 ⊢
 have q0 := za HN1.b0 0 rfl
 have q1 := za HN1.b0 1 rfl
 have HNN := zH HN1
 have HRW := zH hrow
 have HD1 := zH d1
 clear hW1 d0 d1 hB1 hrow HN1 hmk hhn q7
 go_wp2_with fail
 refine (ub a.n (.slice SV a.sts.length ks) W1).mono ?_
 rintro e W2 ⟨rfl, hW2⟩
 have bb := zh W1 (.cells #[.int .i64 a.n, .slice SV a.sts.length ks] 27)
 have hB2 : Below W1.heap.size W1 W2 := by rw [← hW2]; exact zI _ _
 have hs2 : W2.heap.size = W1.heap.size + 1 := by rw [← hW2]; simp
 rw [hW2] at bb
 obtain ⟨bx, hbx⟩ : ∃ bx, W1.heap.size = bx := ⟨_, rfl⟩
 have HN2 := zH (HNN.out.on hB2)
 have HR2 : Hid (RowAt W2 hn (qh a L k a.sts.length [])) := (hB2.block _ HRW.out.lt).trans HRW.out
 have HD2 := zH ((hB2.block _ (zd HD1.out)).trans HD1.out)
 have MK2 : Hid (Marks w.heap.size ds W2) := xq (w := W1) MK1.out fun x hx => (hB2.block x (Array.getElem?_eq_some_iff.1 hx).1).trans hx
 rw [hbx] at bb hs2 hs1 ⊢
 have HIT := zH (HI.out bx W2 bb (HS.out.keep HN2.out.below) (by omega))
 clear hW2 bb hB2 hbx HNN HRW HD1 MK1 q0 q1
 go_wp2_with fail
 refine qT rfl (enters_of Tryz.func241 (by kernel_rfl) rfl) HIT.out (by rintro x (h | rfl) <;> omega) (fun _ => rfl)
  (fun (pre : List { x : Int × Mv // x ∈ zB 0 a.sts }) (X : World) => NmIn w.heap.size #[.int .i64 a.n, .slice SV a.sts.length ks] L g7 h (cl a L k a.sts.length) w X ∧ X.heap[hn + 1]? = some (.cells #[.slice (some ⟨hn, 0, none⟩) a.sts.length a.sts.length] 38 (0, 0)) ∧ RowAt X hn (qh a L k a.sts.length (pre.map (·.1))) ∧ W2.heap.size ≤ X.heap.size ∧ (∀ y : Nat, W2.heap[y]? = some (Obj.deferred (some [])) → X.heap[y]? = some (Obj.deferred (some []))))
  (fun _ _ _ => False)
  ?hI (fun _ _ _ _ _ h _ _ => h)
  ⟨HN2.out, HD2.out, HR2.out, Nat.le_refl _, fun _ h => h⟩ (fun x => x.2.cells) 200 ?a1 ?assign ?body ?done ?stop (fun _ _ h => h.2.2.2.1)
 case hI =>
  intro s X X' row hX hg hr
  refine ⟨hX.1.turn hg (fun r e => ⟨by have := (hr r e).1; omega, (hr r e).2⟩), (grownBy_keeps_cells hg (fun r e => (hr r e).2) hX.2.1 rfl).trans hX.2.1, (grownBy_keeps_cells hg (fun r e => (hr r e).2) hX.2.2.1 rfl).trans hX.2.2.1, Nat.le_trans hX.2.2.2.1 hg.size, fun y hy => ?_⟩
  have hy2 := hX.2.2.2.2 y hy
  have hyl := (Array.getElem?_eq_some_iff.1 hy).1
  exact (hg.block y (by have := hX.2.2.2.1; omega) (fun e => by have := (hr y e.symm).1; omega)).trans hy2
 case assign =>
  intro l pre x X K' hI hK
  obtain ⟨g', hg'⟩ : ∃ g', g' = X.heap.size := ⟨_, rfl⟩
  have HK := zH (hK g' hg' ⟨hI.1.on (zI X _), ye hI.2.1 _, ye hI.2.2.1 _, by have := hI.2.2.2.1; simp; omega, fun y hy => (Below.heap_alloc X _ y (Array.getElem?_eq_some_iff.1 (hI.2.2.2.2 y hy)).1).trans (hI.2.2.2.2 y hy)⟩)
  have HG := zH hg'
  unfold Mv.cells at HK ⊢
  dsimp only at HK ⊢
  clear hK hg' hI
  gi_wp2
  rw [← HG.out]
  exact HK.out
 case body =>
  intro l pre x g W3 hg hgb hI hlt
  obtain ⟨hI1, hI2, hI3, hI4, hI5⟩ := hI
  obtain ⟨s, _, hsl, hxs⟩ := gC 0 a.sts x.1 x.2
  obtain ⟨_, _, z3, z4⟩ := HZ.out x.1.2 (Yo x.2)
  have hstep := Qx a L k a.sts.length (pre.map (·.1)) x.1 s hxs
  obtain ⟨t, et⟩ := Int.eq_ofNat_of_zero_le z3
  have htl : t < a.sts.length := by omega
  have hsl : s < a.sts.length := by omega
  have c8 := za hI2 0 rfl
  have rS := hI3.cell s (by rw [nextL_len]; omega)
  rw [ua] at rS
  have fS := hI3.froz s
  have q7 := za hI1.b7 0 rfl
  rw [kM] at q7
  have cT := hI1.row.cell t (by rw [kM]; omega)
  rw [Za] at cT
  have u7 := za hgb 7 (u := .int .i64 x.1.2.to) rfl
  rw [et] at u7
  have q1 := za hI1.b1 0 rfl
  rw [et] at hstep
  have hsat := Jh L (qO a k s (pre.map (·.1))) (zN a k (t : Int))
  have y1 := vP L (qO a k s (pre.map (·.1)))
  have y2 := vP L (zN a k (t : Int))
  rw [← hsat] at hstep
  obtain ⟨n1, hn1⟩ : ∃ n1, yG L (qO a k s (pre.map (·.1))) = n1 := ⟨_, rfl⟩
  obtain ⟨n2, hn2⟩ : ∃ n2, yG L (zN a k (t : Int)) = n2 := ⟨_, rfl⟩
  rw [hn1] at rS hstep y1
  rw [hn2] at cT hstep y2
  have hl3 := hI3.lt
  have HI1 := zH hI1
  have HI2 := zH hI2
  have HI3 := zH hI3
  have HI5 := zH hI5
  have HST := zH hstep
  clear hI1 hI2 hI3 hI5 hstep z3 z4 et hn1 hn2 hsat hgb hlt MK MK2 HD2 HR2 HN2 HIT HI HS
  try dsimp only
  rw [hxs]
  clear hxs HZ
  gi_wp2_with fail
  refine qy 16 (by kernel_rfl) (by kernel_rfl) (by kernel_rfl) (by rintro ⟨_, _, h⟩; exact h) ?_
  simp only [List.take_succ_cons, List.take_zero, List.drop_succ_cons, List.drop_zero]
  repeat still_step
  try refine wpStill_nil ?_
  change wpList _ _ _ _ _ W3.drew
  go_wp2_with fail
  have hv : min ((n1 : Int) + (n2 : Int)) ((L : Int) + 1) = ((min (n1 + n2) (L + 1) : Nat) : Int) := by omega
  rw [hv]
  have hset := HI3.out.set s ((min (n1 + n2) (L + 1) : Nat) : Int)
  rw [← HST.out] at hset
  obtain ⟨V, hV⟩ : ∃ V : Value, Value.int .i64 ((min (n1 + n2) (L + 1) : Nat) : Int) = V := ⟨_, rfl⟩
  rw [hV] at hset ⊢
  have hnk : ¬ (hn < w.heap.size ∨ hn = bx) := by omega
  refine ⟨(QL HI3.out s V).trans (qL (Below.refl _ _).drew), ?_, (HI1.out.setk hn s V (by omega) (by omega)).on (Below.refl _ _).drew, ?_, ?_, ?_, ?_⟩
  · have hk1 := KeepB.setCell (W := W3) (K := fun k => k < w.heap.size ∨ k = bx) (a := ⟨hn, s, none⟩) hnk V
    exact hk1.trans (KeepB.drew _ _)
  · exact (Below.heap_setCell W3 ⟨hn, s, none⟩ V (hn + 1) (by show hn + 1 ≠ hn; omega)).trans HI2.out
  · show RowAt (W3.setCell ⟨hn, s, none⟩ V) hn (qh a L k a.sts.length ((pre ++ [x]).map (·.1)))
    rw [List.map_append]
    exact hset
  · show W2.heap.size ≤ (W3.setCell ⟨hn, s, none⟩ V).heap.size
    exact Nat.le_trans hI4 (yc W3 hn s V).size
  · intro y hy
    exact (Below.heap_setCell W3 ⟨hn, s, none⟩ V y (by rintro rfl; have h5 := HI5.out _ hy; rw [HI3.out] at h5; cases h5)).trans (HI5.out y hy)
 case done =>
  intro D ys W3 hD hys hI hDk
  obtain ⟨hI1, hI2, hI3, hI4, hI5⟩ := hI
  rw [hys, nextL_all] at hI3
  have c8 := za hI2 0 rfl
  have q7 := za hI1.b7 0 rfl
  have f7 := zb hI1.b7 0
  have hl7 := zd hI1.b7
  have HI1 := zH hI1
  have HI3 := zH hI3
  have HI5 := zH hI5
  have HDk := zH hDk
  clear hI1 hI2 hI3 hI5 hDk hys HI HIT HD2 HR2 HN2 HZ HS
  try dsimp only
  go_wp2_with fail
  have hsw := NmIn.swap HI1.out HI3.out (by omega) (by omega)
  rw [kM] at hsw
  refine ⟨K - (k + 1), by omega, _, k + 1, hn, _, _, _, _, _, _, _, _, _, ⟨rfl, by omega, hsw, ?_⟩, rfl⟩
  refine Marks.cons MK2.out (fun y hy => ?_) (by omega) hD ?_
  · exact (Below.heap_setCell W3 ⟨g7, 0, none⟩ _ y (by rintro rfl; have := HI5.out _ hy; rw [HI1.out.b7] at this; cases this)).trans (HI5.out y hy)
  · exact (Below.heap_setCell W3 ⟨g7, 0, none⟩ _ D (by rintro rfl; have := HDk.out; rw [HI1.out.b7] at this; cases this)).trans HDk.out
 case stop =>
  intro D c pre W _ _ h
  exact h.elim
end
section
open Go.RowKit
attribute [local go_sem] Oper.semAt_some
theorem yR {a : Ad} (hf : FewA a) (h : xN a = 0) : zv a a.sts = 0 ∧ 1 ≤ a.sts.length ∧ xe a = true ∧ 1 ≤ a.n ∧ a.n ≤ 5 := by
 by_cases h1 : a.n < 1 ∨ 5 < a.n
 · rw [vi h1] at h; cases h
 by_cases h2 : a.sts.length < 1
 · rw [uu h1 h2] at h; cases h
 by_cases h3 : zv a a.sts = 0
 · rw [vj h1 (by omega) hf h3] at h
   by_cases h4 : xe a = true
   · exact ⟨h3, by omega, h4, by omega, by omega⟩
   · rw [if_neg h4] at h; cases h
 · rw [vh h1 (by omega) hf h3] at h; exact absurd h h3
def jE (L T : Nat) : Int × Int := if L < T then (0, 17) else ((T : Int), 0)
set_option maxRecDepth 100000 in
theorem vI (a : Ad) (hf : FewA a) (h : xN a = 0) (K L : Nat) (hK : K ≤ 6) (hL : L ≤ 1048576) (SV : Option Addr) (ks : Nat) (w : World) (hS : SAt w w.heap.size SV a.sts) :
  Calls Tryz.prog 166 #[.agg #[.int .i64 a.n, .slice SV a.sts.length ks], .int .i64 K, .int .i64 L] w fun e w' => e = .returned (.tuple #[.int .i64 (jE L (zN a K 0)).1, .int .i64 (jE L (zN a K 0)).2]) ∧ Below w.heap.size w w' := by
 obtain ⟨z1, z2, _⟩ := yR hf h
 have HC := zH (fun (w' : World) (h' : SAt w' w'.heap.size SV a.sts) => Zi a hf SV ks w' h')
 rw [h] at HC
 have HN := zH (fun (w' : World) (h' : SAt w' w'.heap.size SV a.sts) => Qu a hf z1 z2 K L hK hL SV ks w' h')
 have hgt := sat_gt L (zN a K 0)
 have HEQ := zH (@sat_eq L (zN a K 0))
 have hle := vP L (zN a K 0)
 obtain ⟨T, hT⟩ : ∃ T, zN a K 0 = T := ⟨_, rfl⟩
 rw [hT] at HN HEQ hgt hle ⊢
 obtain ⟨r, hr⟩ : ∃ r, yG L T = r := ⟨_, rfl⟩
 rw [hr] at HN HEQ hgt hle
 clear hT hr h hf z1
 obtain ⟨w1, hw1⟩ : ∃ w1, w.alloc (.cells #[.int .i64 a.n, .slice SV a.sts.length ks] 27) = w1 := ⟨_, rfl⟩
 have hbb := zh w (.cells #[.int .i64 a.n, .slice SV a.sts.length ks] 27)
 have hb01 : Below w.heap.size w w1 := by rw [← hw1]; exact zI w _
 have hsz1 : w1.heap.size = w.heap.size + 1 := by rw [← hw1]; simp
 rw [hw1] at hbb
 have HBB := zH hbb
 have HB01 := zH hb01
 have HS := zH ((hS.keep hb01).more (by omega : w.heap.size ≤ w1.heap.size))
 have HW1 := zH hw1
 have q0 := za hbb 0 rfl
 have q1 := za hbb 1 rfl
 clear hS hw1 hb01 hbb
 go_enter Tryz.func166, Tryz.ntmps166
 go_wp2_with fail
 rw [HW1.out]
 go_wp2_with fail
 refine (HC.out w1 HS.out).mono ?_
 rintro e w2 ⟨rfl, hb2⟩
 have HB2 := zH (HB01.out.trans (hb2.mono (by omega)))
 have HS2 := zH ((HS.out.keep hb2).more hb2.size)
 have hbk := (hb2.block _ (zd HBB.out)).trans HBB.out
 have q0 := za hbk 0 rfl
 have q1 := za hbk 1 rfl
 have hs2 := hb2.size
 clear hb2 hbk HC HW1
 go_wp2_with fail
 all_goals first | (exfalso; omega) | skip
 refine (HN.out w2 HS2.out).mono ?_
 rintro e w3 ⟨rfl, hb3⟩
 have HB3 := zH (HB2.out.trans (hb3.mono (by omega)))
 clear hb3 HN q0 q1
 by_cases hg : L < T
 · have hg2 : L < r := hgt.2 hg
   have hR : Hid (jE L T = (0, 17)) := if_pos hg
   clear hgt HEQ hg
   go_wp2_with fail
   all_goals first | (exfalso; omega) | skip
   go_ret2
   rw [hR.out]
   exact ⟨rfl, HB3.out⟩
 · have hg2 : ¬ L < r := fun h => hg (hgt.1 h)
   have hr : r = T := (HEQ.out (by omega)).symm ▸ rfl
   have hR : Hid (jE L T = ((T : Int), 0)) := if_neg hg
   subst hr
   clear hgt HEQ hg
   go_wp2_with fail
   all_goals first | (exfalso; omega) | skip
   go_ret2
   rw [hR.out]
   exact ⟨rfl, HB3.out⟩
theorem X7 (a : Ad) (hf : FewA a) (h : xN a = 0) (K : Nat) (hK : K ≤ 6) (SV : Option Addr) (ks : Nat) (w : World) (hS : SAt w w.heap.size SV a.sts) :
  Calls Tryz.prog 165 #[.agg #[.int .i64 a.n, .slice SV a.sts.length ks], .int .i64 K] w fun e w' => e = .returned (.tuple #[.int .i64 (jE 1048576 (zN a K 0)).1, .int .i64 (jE 1048576 (zN a K 0)).2]) ∧ Below w.heap.size w w' := by
 have HN := zH (fun (w' : World) (h' : SAt w' w'.heap.size SV a.sts) => vI a hf h K 1048576 hK (Nat.le_refl _) SV ks w' h')
 obtain ⟨r, hr⟩ : ∃ r, jE 1048576 (zN a K 0) = r := ⟨_, rfl⟩
 rw [hr] at HN ⊢
 have hb01 := zI w (.cells #[.int .i64 a.n, .slice SV a.sts.length ks] 27)
 have HB01 := zH hb01
 have HS := zH ((hS.keep hb01).more hb01.size)
 clear hS hb01 hr
 go_enter Tryz.func165, Tryz.ntmps165
 go_wp2_with fail
 refine (HN.out _ HS.out).mono ?_
 rintro e w2 ⟨rfl, hb2⟩
 have HB2 := zH (HB01.out.trans (hb2.mono (by simp)))
 clear hb2
 go_wp2_with fail
 go_ret2
 exact ⟨rfl, HB2.out⟩
end
section
open Go.RowKit
attribute [local go_sem] Oper.semAt_some
set_option maxRecDepth 100000 in
theorem JS (a : Ad) (hf : FewA a) (h : xN a = 0) (K : Nat) (hK : K ≤ 6) (hT : zN a K 0 ≤ 4096) (SV : Option Addr) (ks : Nat) (w : World) (hS : SAt w w.heap.size SV a.sts) :
  Calls Tryz.prog 135 #[.agg #[.int .i64 a.n, .slice SV a.sts.length ks], .int .i64 K] w fun e w' => ∃ A c, e = .returned (.tuple #[.slice A (zy a K 0).length c, .int .i64 0]) ∧ WAt w' w'.heap.size A (zy a K 0) ∧ Below w.heap.size w w' := by
 obtain ⟨z1, z2, _⟩ := yR hf h
 have HC := zH (fun (w' : World) (h' : SAt w' w'.heap.size SV a.sts) => vI a hf h K 4096 hK (by omega) SV ks w' h')
 have hcut : jE 4096 (zN a K 0) = (((zN a K 0 : Nat) : Int), 0) := if_neg (by omega)
 rw [hcut] at HC
 have HL := zH (yo a K 0)
 obtain ⟨T, hTT⟩ : ∃ T, zN a K 0 = T := ⟨_, rfl⟩
 rw [hTT] at HC HL hT
 have HF := zH (XI a K hK SV ks z1 hf K)
 clear hTT hcut z1 h hf
 obtain ⟨w1, hw1, d0, d1, hs1, hBw⟩ := yj w #[.int .i64 a.n, .slice SV a.sts.length ks] #[.int .i64 (K : Int)] 27 3
 have HS := zH ((hS.keep hBw).more hBw.size)
 have HS0 := zH hS
 have HBW := zH hBw
 have HD0 := zH d0
 have HD1 := zH d1
 have HW1 := zH hw1
 have p0 := za d0 0 rfl
 have p1 := za d0 1 rfl
 have q0 := za d1 0 rfl
 clear hw1 d0 d1 hBw hS
 go_enter Tryz.func135, Tryz.ntmps135
 go_wp2_with fail
 rw [HW1.out]
 go_wp2_with fail
 refine (HC.out w1 HS.out).mono ?_
 rintro e w2 ⟨rfl, hb2⟩
 have HB2 := zH hb2
 have D0 := zH ((hb2.block _ (zd HD0.out)).trans HD0.out)
 have D1 := zH ((hb2.block _ (zd HD1.out)).trans HD1.out)
 have hsz2 := hb2.size
 clear p0 p1 q0 hb2 HW1 HC
 obtain ⟨i0, hi, hz0, hz1, hz2⟩ := yz QM
 obtain ⟨w3, hmk, r1, r2⟩ := run_make_own (P := Tryz.prog) w2 w2.heap.size 209 91 i0 kWd.z 1 Tryz.underlying209 hi hz0 hz1 .i64 .i64 T (by rw [hz2]; show 24 * T ≤ _; omega) (by unfold maxLen; omega) (Nat.le_refl _)
 have R1 := zH r1
 have R2 := zH r2
 clear hi hz0 hz1 hz2 r1 r2
 go_wp2_with fail
 have hg32 := R2.out
 have hgr := R2.out.size
 obtain ⟨w4, hw4, e0, e1, hs4, hB4⟩ := yj w3 #[.slice (some ⟨w2.heap.size, 0, none⟩) 0 T] #[.func (.func 167) #[] #[.pointer (some ⟨w.heap.size + 1, 0, none⟩), .pointer (some ⟨w3.heap.size, 0, none⟩), .pointer (some ⟨w.heap.size, 0, none⟩), .pointer (some ⟨w3.heap.size + 1, 0, none⟩)]] 209 247
 rw [hw4]
 clear hw4 hmk
 have B3 : Below w2.heap.size w2 w3 := ⟨hg32.os, hg32.tape, hg32.output, hg32.size, fun k hk => hg32.block k hk (by simp)⟩
 have B4 : Below w2.heap.size w2 w4 := B3.trans (hB4.mono hgr)
 have D04 := (B4.block _ (zd D0.out)).trans D0.out
 have D14 := (B4.block _ (zd D1.out)).trans D1.out
 have hl0 := zd D0.out
 have hl1 := zd D1.out
 obtain ⟨i1, hi, hz0, hz1, hz2⟩ := yz Yu
 obtain ⟨w5, hmk, r1, r2⟩ := run_make_own (P := Tryz.prog) w4.drew w4.drew.heap.size 91 172 i1 kRd.z 7 Tryz.underlying91 hi hz0 hz1 .i64 .i64 K (by rw [hz2]; show 56 * K ≤ _; omega) (by unfold maxLen; omega) (Nat.le_refl _)
 have B5 : Below w4.heap.size w4 w5 := XZ ⟨r2.os, r2.tape, r2.output, r2.size, fun k hk => r2.block k hk (by simp)⟩
 have r1' : OwnR kRd w5 w4.heap.size (.slice (some ⟨w4.heap.size, 0, none⟩) 0 K) 0 [] := r1
 have hl4 : w3.heap.size + 1 < w4.heap.size := by omega
 have HB5 : Hid (Below w.heap.size w w5) := (HBW.out.trans ((HB2.out.trans (B4.mono hsz2)).mono HBW.out.size)).trans (B5.mono (by omega))
 have HFI : Hid (FromIn a K SV ks w.heap.size (w.heap.size + 1) w3.heap.size w.heap.size (w3.heap.size + 1) w4.heap.size (.slice (some ⟨w2.heap.size, 0, none⟩) 0 T) [] [] w w5) := by
  refine ⟨(B5.block _ (by omega)).trans D14, (B5.block _ (by omega)).trans e0, (B5.block _ (by omega)).trans D04, (B5.block _ (by omega)).trans e1, ?_, ?_, ?_, HB5.out⟩
  · refine ⟨[], rfl, ?_, fun i h1 _ => absurd h1 (by simp)⟩
    have h3 : OwnR kWd w3 w2.heap.size (.slice (some ⟨w2.heap.size, 0, none⟩) 0 T) 0 [] := R1.out
    exact ((h3.below hB4 (Nat.le_refl _)).below B5 (Nat.le_refl _)).low (by omega)
  · intro k hk
    have : w2.heap.size = k := by simpa [Value.ownBlock] using hk
    have hlt3 : w2.heap.size < w3.heap.size := (R1.out.lt w2.heap.size rfl).2
    exact ⟨by omega, by omega, by omega, by omega, by omega⟩
  · exact r1'.low (by omega)
 have f4 : w4.cell? ⟨w3.heap.size + 1, 0, none⟩ = some (.func (.func 167) #[] #[.pointer (some ⟨w.heap.size + 1, 0, none⟩), .pointer (some ⟨w3.heap.size, 0, none⟩), .pointer (some ⟨w.heap.size, 0, none⟩), .pointer (some ⟨w3.heap.size + 1, 0, none⟩)]) := za e1 0 rfl
 have k4 : w4.cell? ⟨w.heap.size + 1, 0, none⟩ = some (.int .i64 K) := za D14 0 rfl
 have f5 := (B5.cell (p := ⟨w3.heap.size + 1, 0, none⟩) (by show w3.heap.size + 1 < _; omega)).trans f4
 have k5 := (B5.cell (p := ⟨w.heap.size + 1, 0, none⟩) (by show w.heap.size + 1 < _; omega)).trans k4
 have HBF : Hid (FromB w.heap.size (w.heap.size + 1) w3.heap.size w.heap.size (w3.heap.size + 1) w4.heap.size) :=
  ⟨by omega, by omega, by omega, by omega, by omega, by omega, by omega, by omega, by omega, by omega, by omega, by omega⟩
 clear hi hz0 hz1 hz2 r1 r2 r1' D04 D14 e0 e1 R1 R2 hg32 B3 B4 hB4
 refine zr [(0, true), (1, true), (2, false), (3, false)]
  (fun W => W.cell? ⟨w3.heap.size + 1, 0, none⟩ = some (.func (.func 167) #[] #[.pointer (some ⟨w.heap.size + 1, 0, none⟩), .pointer (some ⟨w3.heap.size, 0, none⟩), .pointer (some ⟨w.heap.size, 0, none⟩), .pointer (some ⟨w3.heap.size + 1, 0, none⟩)]) ∧ W.cell? ⟨w.heap.size + 1, 0, none⟩ = some (.int .i64 K))
  (by kernel_rfl) (by kernel_rfl) ⟨f4, k4⟩ ?_
 repeat
  apply zA rfl
  · rintro K' hK' W ⟨y0, y1⟩
    go_simp
    exact hK'
 refine zC rfl ?_
 intro K' hK'
 go_simp
 refine hK' _ _ ⟨f5, k5⟩ ?_
 clear hK' K'
 refine yW rfl (by kernel_rfl) ?_
 intro K' hK'
 go_simp
 have HCC := HF.out 0 [] [] (.slice (some ⟨w2.heap.size, 0, none⟩) 0 T) w.heap.size (w.heap.size + 1) w3.heap.size w.heap.size (w3.heap.size + 1) w4.heap.size w w5 (by simp) (.inr ⟨by omega, by omega⟩) (by have := HL.out; simp; omega) HBF.out HS0.out HFI.out
 refine HCC.mono ?_
 rintro e w6 ⟨⟨v6, rfl⟩, V6, H6⟩
 rw [List.nil_append, show yJ [] (zy a K 0) = zy a K 0 by simp [yJ]] at H6
 refine hK' (fun _ => True) _ _ trivial ?_
 refine zG ?_
 clear hK' K' HCC
 obtain ⟨A6, c6, rfl, _, _, hW6⟩ := Zd H6.out
 have o6 := za H6.hO 0 rfl
 have HB6 := zH H6.bel
 have HW6 := zH hW6
 clear H6 hW6
 go_wp2_with fail
 go_ret2
 exact ⟨A6, c6, rfl, HW6.out, HB6.out⟩
end
section
open Go.RowKit
def RawL (B : Nat) (w : World) (A : Option Addr) (n : Nat) (cs : List Value) : Prop := 0 < n → ∃ b off, A = some ⟨b, off, none⟩ ∧ b < B ∧ ∀ (j : Nat) (u : Value), cs[j]? = some u → w.cell? ⟨b, off + j, none⟩ = some u
theorem RawL.raw {B : Nat} {w : World} {A : Option Addr} {n : Nat} {cs : List Value} (h : RawL B w A n cs) (hB : B ≤ w.heap.size) : Raw w A n cs := fun h0 => by
 obtain ⟨b, off, e, hb, hc⟩ := h h0
 exact ⟨b, off, e, by omega, hc⟩
theorem RawL.keep {B : Nat} {w w' : World} {A : Option Addr} {n : Nat} {cs : List Value} (h : RawL B w A n cs) (hb : Below B w w') : RawL B w' A n cs := fun h0 => by
 obtain ⟨b, off, e, hlt, hc⟩ := h h0
 exact ⟨b, off, e, hlt, fun j u hu => (hb.cell (p := ⟨b, _, none⟩) hlt).trans (hc j u hu)⟩
def CAtL (L0 B0 : Nat) (w : World) (A : Option Addr) (xs : List Cs) : Prop := ∃ cs : List Value, cs.length = xs.length * 3 ∧ RawL B0 w A xs.length cs ∧ (∀ u ∈ cs, u.oneCell' = true) ∧
  ∀ (i : Nat) (hi : i < xs.length), ∃ d, cCs.lies (fun k => L0 ≤ k ∧ k < B0) w d xs[i] ∧ ∀ j u, d[j]? = some u → cs[i * 3 + j]? = some u
def SAtL (L0 B0 : Nat) (w : World) (A : Option Addr) (xs : List (List Mv)) : Prop := ∃ cs : List Value, cs.length = xs.length * 1 ∧ RawL B0 w A xs.length cs ∧ (∀ u ∈ cs, u.oneCell' = true) ∧
  ∀ (i : Nat) (hi : i < xs.length), ∃ d, cMl.lies (fun k => L0 ≤ k ∧ k < B0) w d xs[i] ∧ ∀ j u, d[j]? = some u → cs[i * 1 + j]? = some u
section
variable {L0 B0 : Nat} {w w' : World} {A : Option Addr}
theorem CAtL.keep {xs : List Cs} (h : CAtL L0 B0 w A xs) (hb : Below B0 w w') : CAtL L0 B0 w' A xs := by
 obtain ⟨cs, h1, h2, h3, h4⟩ := h
 refine ⟨cs, h1, h2.keep hb, h3, fun i hi => ?_⟩
 obtain ⟨d, h5, h6⟩ := h4 i hi
 exact ⟨d, xu.keep h5 ⟨hb.size, fun k hk _ => hb.block k hk.2⟩, h6⟩
theorem SAtL.keep {xs : List (List Mv)} (h : SAtL L0 B0 w A xs) (hb : Below B0 w w') : SAtL L0 B0 w' A xs := by
 obtain ⟨cs, h1, h2, h3, h4⟩ := h
 refine ⟨cs, h1, h2.keep hb, h3, fun i hi => ?_⟩
 obtain ⟨d, h5, h6⟩ := h4 i hi
 exact ⟨d, qF.keep h5 ⟨hb.size, fun k hk _ => hb.block k hk.2⟩, h6⟩
theorem CAtL.raw {xs : List Cs} (h : CAtL L0 B0 w A xs) (hB : B0 ≤ w.heap.size) : ∃ cs : List Value, cs.length = xs.length * 3 ∧ Raw w A xs.length cs ∧ (∀ u ∈ cs, u.oneCell' = true) ∧
  ∀ (i : Nat) (hi : i < xs.length), ∃ d, cCs.lies (fun k => L0 ≤ k ∧ k < B0) w d xs[i] ∧ ∀ j u, d[j]? = some u → cs[i * 3 + j]? = some u := by
 obtain ⟨cs, h1, h2, h3, h4⟩ := h
 exact ⟨cs, h1, h2.raw hB, h3, h4⟩
theorem SAtL.raw {xs : List (List Mv)} (h : SAtL L0 B0 w A xs) (hB : B0 ≤ w.heap.size) : ∃ cs : List Value, cs.length = xs.length * 1 ∧ Raw w A xs.length cs ∧ (∀ u ∈ cs, u.oneCell' = true) ∧
  ∀ (i : Nat) (hi : i < xs.length), ∃ d, cMl.lies (fun k => L0 ≤ k ∧ k < B0) w d xs[i] ∧ ∀ j u, d[j]? = some u → cs[i * 1 + j]? = some u := by
 obtain ⟨cs, h1, h2, h3, h4⟩ := h
 exact ⟨cs, h1, h2.raw hB, h3, h4⟩
theorem CAtL.of {xs : List Cs} (h : CAt w B0 A xs) (hB : B0 ≤ w.heap.size) : CAtL 0 B0 w A xs := by
 obtain ⟨cs, h1, h2, h3, h4⟩ := h.raw hB
 refine ⟨cs, h1, fun h0 => ?_, h3, fun i hi => ?_⟩
 · obtain ⟨b, off, e, _, hc⟩ := h2 h0
   obtain ⟨b', off', e', hb', _⟩ := h h0
   rw [e] at e'
   simp only [Option.some.injEq, Addr.mk.injEq, and_true] at e'
   exact ⟨b, off, e, by omega, hc⟩
 · obtain ⟨d, h5, h6⟩ := h4 i hi
   exact ⟨d, xu.mono h5 fun k _ hk => ⟨Nat.zero_le _, hk⟩, h6⟩
theorem SAtL.of {xs : List (List Mv)} (h : SAt w B0 A xs) (hB : B0 ≤ w.heap.size) : SAtL 0 B0 w A xs := by
 obtain ⟨cs, h1, h2, h3, h4⟩ := h.raw hB
 refine ⟨cs, h1, fun h0 => ?_, h3, fun i hi => ?_⟩
 · obtain ⟨b, off, e, _, hc⟩ := h2 h0
   obtain ⟨b', off', e', hb', _⟩ := h h0
   rw [e] at e'
   simp only [Option.some.injEq, Addr.mk.injEq, and_true] at e'
   exact ⟨b, off, e, by omega, hc⟩
 · obtain ⟨d, h5, h6⟩ := h4 i hi
   exact ⟨d, qF.mono h5 fun k _ hk => ⟨Nat.zero_le _, hk⟩, h6⟩
end
end
section
open Go.RowKit
attribute [local go_sem] Oper.semAt_some
structure CpIn (B : Nat) (p : Pb) (A : Option Addr) (kc : Nat) (SV : Option Addr) (ks : Nat) (Z : Array Value) (w W : World) : Prop where
 bel : Below B w W
 b0 : W.heap[B]? = some (.cells (p.vs A kc SV ks) 29 (0, 0))
 b1 : W.heap[B + 1]? = some (.cells Z 29 (0, 0))
def Nbx (L0 B0 B k : Nat) : Prop := k ≠ B ∧ k ≠ B + 1 ∧ ((L0 ≤ k ∧ k < B0) ∨ B ≤ k)
theorem CpIn.on {B : Nat} {p : Pb} {A : Option Addr} {kc : Nat} {SV : Option Addr} {ks : Nat} {Z : Array Value} {w W W' : World} (h : CpIn B p A kc SV ks Z w W) (hb : Below W.heap.size W W') : CpIn B p A kc SV ks Z w W' := by
 have := zd h.b1
 exact ⟨h.bel.trans (hb.mono (by omega)), (hb.block _ (by omega)).trans h.b0, (hb.block _ (by omega)).trans h.b1⟩
theorem CpIn.set {B : Nat} {p : Pb} {A : Option Addr} {kc : Nat} {SV : Option Addr} {ks : Nat} {Z : Array Value} {w W : World} (h : CpIn B p A kc SV ks Z w W) {g : Nat} (hg : B + 1 < g) (o : Nat) (v : Value) : CpIn B p A kc SV ks Z w (W.setCell ⟨g, o, none⟩ v) :=
 ⟨h.bel.setCell (by show B ≤ g; omega) _, (Below.heap_setCell W _ v B (by show B ≠ g; omega)).trans h.b0, (Below.heap_setCell W _ v (B + 1) (by show B + 1 ≠ g; omega)).trans h.b1⟩
set_option maxRecDepth 100000 in
theorem Q1 (p : Pb) (hf : YK p) (hc1 : 1 ≤ p.t.cases.length) (hs1 : 1 ≤ p.a.sts.length) (A : Option Addr) (kc : Nat) (SV : Option Addr) (ks : Nat) (w : World) (L0 B0 : Nat) (hB0 : B0 ≤ w.heap.size) (hA : CAtL L0 B0 w A p.t.cases) (hS : SAtL L0 B0 w SV p.a.sts) :
  Calls Tryz.prog 136 #[.agg (p.vs A kc SV ks)] w fun e w' => ∃ g kc' gm ks', e = .returned (.agg (p.vs (some ⟨g, 0, none⟩) kc' (some ⟨gm, 0, none⟩) ks')) ∧ RowX cCs (fun b => (L0 ≤ b ∧ b < B0) ∨ w.heap.size ≤ b) w' g p.t.cases ∧ RowX cMl (fun b => (L0 ≤ b ∧ b < B0) ∨ w.heap.size ≤ b) w' gm p.a.sts ∧ w.heap.size ≤ g ∧ w.heap.size ≤ gm ∧ Below w.heap.size w w' := by
 have hfc := hf.1.1
 have hfs := hf.2.1
 obtain ⟨w1, hw1, d0, d1, hsz, hBw⟩ := yj w (p.vs A kc SV ks) #[.int .i64 0, .int .i64 0, .int .i64 0, .slice none 0 0, .int .i64 0, .slice none 0 0, .int .i64 0] 29 29
 have hBw0 := hBw.mono hB0
 have HS := zH (hS.keep hBw0)
 have hw10 : B0 ≤ w1.heap.size := by have := hBw.size; omega
 obtain ⟨ccs, ccl, ccr, cc1, cce⟩ := (hA.keep hBw0).raw hw10
 have HC := zH (clone_kCs A p.t.cases.length kc ccs w1 ccl ccr cc1 (by omega))
 have HBW := zH hBw
 have HD0 := zH d0
 have HD1 := zH d1
 have HCE := zH cce
 have HFT := zH hf.1
 have HFA := zH hf.2
 clear hA hS hf ccl ccr cc1 cce
 unfold Pb.vs at hw1 d0
 have p3 := za d0 3 rfl
 have f3 := zb d0 3
 have HW1 := zH hw1
 clear hw1 d0 d1 hBw hBw0
 unfold Pb.vs
 go_enter Tryz.func136, Tryz.ntmps136
 go_wp2_with fail
 rw [HW1.out]
 refine HC.out.mono ?_
 rintro e w2 ⟨v2, rfl, ho2, hb2⟩
 obtain ⟨A2, c2, rfl, hc2, hm2, hg2⟩ := ho2.form
 obtain ⟨g, rfl, _, hgl, _⟩ := hg2 (by omega)
 have hge : w1.heap.size ≤ g := (ho2.lt g rfl).1
 have hsz2 := hb2.size
 have hgb : w.heap.size + 1 < g := by omega
 have R2 : RowX cCs (Nbx L0 B0 w.heap.size) w2 g p.t.cases := RowX.of_own xu ho2 rfl rfl (fun i hi => by
  obtain ⟨d, h1, h2⟩ := HCE.out i hi
  refine ⟨d, xu.mono (xu.keep h1 ⟨hb2.size, fun k hk _ => hb2.block k (by omega)⟩) fun k _ hk => ⟨⟨by omega, by omega⟩, by omega⟩, h2⟩)
 have D0 := (hb2.block _ (zd HD0.out)).trans HD0.out
 have D1 := (hb2.block _ (zd HD1.out)).trans HD1.out
 have p3 := za D0 3 rfl
 have f3 := zb D0 3
 obtain ⟨W3, hW3⟩ : ∃ W3, w2.setCell ⟨w.heap.size, 3, none⟩ (.slice (some ⟨g, 0, none⟩) p.t.cases.length c2) = W3 := ⟨_, rfl⟩
 have H3 : Hid (CpIn w.heap.size p (some ⟨g, 0, none⟩) c2 SV ks #[.int .i64 0, .int .i64 0, .int .i64 0, .slice none 0 0, .int .i64 0, .slice none 0 0, .int .i64 0] w W3) := by
  rw [← hW3]
  refine ⟨(HBW.out.trans (hb2.mono (by omega))).setCell (Nat.le_refl _) _, ?_, (Below.heap_setCell w2 _ _ (w.heap.size + 1) (by show w.heap.size + 1 ≠ w.heap.size; omega)).trans D1⟩
  rw [heap_setCell_same w2 w.heap.size 3 _ _ _ D0]
  rfl
 have R3 : Hid (RowX cCs (Nbx L0 B0 w.heap.size) W3 g p.t.cases) := by rw [← hW3]; exact R2.other xu 3 _ (by omega) (fun h => h.1 rfl)
 have HS3 : Hid (SAtL L0 B0 W3 SV p.a.sts) := HS.out.keep (by
  rw [← hW3]
  exact ((Below.mono hb2 (show w.heap.size ≤ w1.heap.size by omega)).setCell (Nat.le_refl _) _).mono hB0)
 have q3 : W3.cell? ⟨w.heap.size, 3, none⟩ = some (.slice (some ⟨g, 0, none⟩) p.t.cases.length c2) := za H3.out.b0 3 rfl
 clear R2 D0 D1 ho2 hb2 hc2 hm2 HC HCE
 go_wp2_with fail
 clear p3 f3 hW3 q3
 go_loopw [17] (fun i wr => ∃ k : Nat, k ≤ p.t.cases.length ∧ i = .int .i64 (k : Int) ∧ Hid (CpIn w.heap.size p (some ⟨g, 0, none⟩) c2 SV ks #[.int .i64 0, .int .i64 0, .int .i64 0, .slice none 0 0, .int .i64 0, .slice none 0 0, .int .i64 0] w wr) ∧ Hid (RowX cCs (Nbx L0 B0 w.heap.size) wr g p.t.cases) ∧ Hid (SAtL L0 B0 wr SV p.a.sts)) (fun i _ => p.t.cases.length - (intOf i).toNat)
 case atStart => exact ⟨0, by omega, rfl, H3.out, R3.out, HS3.out⟩
 case round =>
  clear H3 R3 HS3
  obtain ⟨k, hk, rfl, HI, HR, HSr⟩ := hrel
  by_cases hkl : k < p.t.cases.length
  case neg =>
   obtain rfl : k = p.t.cases.length := by omega
   have b0 := HI.out.b0
   have q5 : wr.cell? ⟨w.heap.size, 5, none⟩ = some (.slice SV p.a.sts.length ks) := za b0 5 rfl
   have f5 := zb b0 5
   have hsr := HI.out.bel.size
   obtain ⟨ccs, ccl, ccr, cc1, cce⟩ := HSr.out.raw (by omega)
   have HC := zH (clone_kMl SV p.a.sts.length ks ccs wr ccl ccr cc1 (by omega))
   have HCE := zH cce
   have hbx := zd HI.out.b1
   clear ccl ccr cc1 cce b0
   go_wp2_with fail
   refine HC.out.mono ?_
   rintro e w2' ⟨v2, rfl, ho2, hb2⟩
   obtain ⟨A2, c3, rfl, _, _, hg2⟩ := ho2.form
   obtain ⟨gm, rfl, _, hgml, _⟩ := hg2 (by omega)
   have hgem : wr.heap.size ≤ gm := (ho2.lt gm rfl).1
   have hgg : g < wr.heap.size := HR.out.lt
   have R2 : RowX cMl (fun b => Nbx L0 B0 w.heap.size b ∧ b ≠ g) w2' gm p.a.sts := RowX.of_own qF ho2 rfl rfl (fun i hi => by
    obtain ⟨d, h1, h2⟩ := HCE.out i hi
    exact ⟨d, qF.mono (qF.keep h1 ⟨hb2.size, fun k hk _ => hb2.block k (by omega)⟩) fun k _ hk => ⟨⟨⟨by omega, by omega⟩, by omega⟩, by omega⟩, h2⟩)
   have I2 := HI.out.on hb2
   have q5' : w2'.cell? ⟨w.heap.size, 5, none⟩ = some (.slice SV p.a.sts.length ks) := za I2.b0 5 rfl
   have f5' := zb I2.b0 5
   have RC : RowX cCs (fun b => Nbx L0 B0 w.heap.size b ∧ b ≠ gm) w2' g p.t.cases := (HR.out.mono xu fun b hb hs => ⟨hs, by omega⟩).below xu hb2 (Nat.le_refl _)
   obtain ⟨W3, hW3⟩ : ∃ W3, w2'.setCell ⟨w.heap.size, 5, none⟩ (.slice (some ⟨gm, 0, none⟩) p.a.sts.length c3) = W3 := ⟨_, rfl⟩
   have H3 : Hid (CpIn w.heap.size p (some ⟨g, 0, none⟩) c2 (some ⟨gm, 0, none⟩) c3 #[.int .i64 0, .int .i64 0, .int .i64 0, .slice none 0 0, .int .i64 0, .slice none 0 0, .int .i64 0] w W3) := by
    rw [← hW3]
    refine ⟨I2.bel.setCell (Nat.le_refl _) _, ?_, (Below.heap_setCell w2' _ _ (w.heap.size + 1) (by show w.heap.size + 1 ≠ w.heap.size; omega)).trans I2.b1⟩
    rw [heap_setCell_same w2' w.heap.size 5 _ _ _ I2.b0]
    rfl
   have R3 : Hid (RowX cMl (fun b => Nbx L0 B0 w.heap.size b ∧ b ≠ g) W3 gm p.a.sts) := by rw [← hW3]; exact R2.other qF 5 _ (by omega) (fun h => h.1.1 rfl)
   have RC3 : Hid (RowX cCs (fun b => Nbx L0 B0 w.heap.size b ∧ b ≠ gm) W3 g p.t.cases) := by rw [← hW3]; exact RC.other xu 5 _ (by omega) (fun h => h.1.1 rfl)
   have q6 : W3.cell? ⟨w.heap.size, 5, none⟩ = some (.slice (some ⟨gm, 0, none⟩) p.a.sts.length c3) := za H3.out.b0 5 rfl
   have hsz2' := hb2.size
   clear R2 I2 RC ho2 hb2 HC HCE q5 f5 hg2
   go_wp2_with fail
   clear q5' f5' hW3 q6
   go_loopw [48] (fun i wx => ∃ k : Nat, k ≤ p.a.sts.length ∧ i = .int .i64 (k : Int) ∧ Hid (CpIn w.heap.size p (some ⟨g, 0, none⟩) c2 (some ⟨gm, 0, none⟩) c3 #[.int .i64 0, .int .i64 0, .int .i64 0, .slice none 0 0, .int .i64 0, .slice none 0 0, .int .i64 0] w wx) ∧ Hid (RowX cMl (fun b => Nbx L0 B0 w.heap.size b ∧ b ≠ g) wx gm p.a.sts) ∧ Hid (RowX cCs (fun b => Nbx L0 B0 w.heap.size b ∧ b ≠ gm) wx g p.t.cases)) (fun i _ => p.a.sts.length - (intOf i).toNat)
   case atStart => exact ⟨0, by omega, rfl, H3.out, R3.out, RC3.out⟩
   case round =>
    clear H3 R3 RC3 HI HR HSr
    obtain ⟨k, hk, rfl, HI, HR, HRC⟩ := hrel
    by_cases hkl : k < p.a.sts.length
    case neg =>
     obtain rfl : k = p.a.sts.length := by omega
     have b0 := HI.out.b0
     have b1 := HI.out.b1
     have c0 : wr.cell? ⟨w.heap.size, 0, none⟩ = some (.int .i64 p.t.n) := za b0 0 rfl
     have c1 : wr.cell? ⟨w.heap.size, 1, none⟩ = some (.int .i64 p.t.ins) := za b0 1 rfl
     have c2' : wr.cell? ⟨w.heap.size, 2, none⟩ = some (.int .i64 p.t.outs) := za b0 2 rfl
     have c3' : wr.cell? ⟨w.heap.size, 3, none⟩ = some (.slice (some ⟨g, 0, none⟩) p.t.cases.length c2) := za b0 3 rfl
     have c4 : wr.cell? ⟨w.heap.size, 4, none⟩ = some (.int .i64 p.a.n) := za b0 4 rfl
     have c5 : wr.cell? ⟨w.heap.size, 5, none⟩ = some (.slice (some ⟨gm, 0, none⟩) p.a.sts.length c3) := za b0 5 rfl
     have c6 : wr.cell? ⟨w.heap.size, 6, none⟩ = some (.int .i64 p.k) := za b0 6 rfl
     have e0 := za b1 0 rfl
     have e1 := za b1 1 rfl
     have e2 := za b1 2 rfl
     have e3 := za b1 3 rfl
     have e4 := za b1 4 rfl
     have e5 := za b1 5 rfl
     have e6 := za b1 6 rfl
     have z0 := zb b1 0
     have z1 := zb b1 1
     have z2 := zb b1 2
     have z3 := zb b1 3
     have z4 := zb b1 4
     have z5 := zb b1 5
     have z6 := zb b1 6
     clear b0 b1
     have HB9 := zH HI.out.bel
     have HCT := zH HRC.out
     have HST := zH HR.out
     have hgl1 := HRC.out.lt
     have hgl2 := HR.out.lt
     have hgm1 : w.heap.size + 1 < gm := by omega
     have HO1 := zH (fun (o : Nat) (v : Value) (W : World) (h : RowX cCs (fun b => Nbx L0 B0 w.heap.size b ∧ b ≠ gm) W g p.t.cases) => h.other xu o v (show w.heap.size + 1 ≠ g by omega) (fun h => h.1.2.1 rfl))
     have HO2 := zH (fun (o : Nat) (v : Value) (W : World) (h : RowX cMl (fun b => Nbx L0 B0 w.heap.size b ∧ b ≠ g) W gm p.a.sts) => h.other qF o v (show w.heap.size + 1 ≠ gm by omega) (fun h => h.1.2.1 rfl))
     clear HI HR HRC
     go_wp2_with fail
     refine bodyPost_ret (v := .agg (p.vs (some ⟨g, 0, none⟩) c2 (some ⟨gm, 0, none⟩) c3)) (by simp [results, Tryz.results136, go_sem, e0, e1, e2, e3, e4, e5, e6, Pb.vs]) rfl ?_
     refine ⟨g, c2, gm, c3, rfl, ?_, ?_, by omega, by omega, ?_⟩
     · refine RowX.mono (S := fun b => Nbx L0 B0 w.heap.size b ∧ b ≠ gm) xu ?_ (fun b _ hs => hs.1.2.2)
       exact HO1.out _ _ _ (HO1.out _ _ _ (HO1.out _ _ _ (HO1.out _ _ _ (HO1.out _ _ _ (HO1.out _ _ _ (HO1.out _ _ _ (HCT.out)))))))
     · refine RowX.mono (S := fun b => Nbx L0 B0 w.heap.size b ∧ b ≠ g) qF ?_ (fun b _ hs => hs.1.2.2)
       exact HO2.out _ _ _ (HO2.out _ _ _ (HO2.out _ _ _ (HO2.out _ _ _ (HO2.out _ _ _ (HO2.out _ _ _ (HO2.out _ _ _ (HST.out)))))))
     · have hl9 : w.heap.size ≤ w.heap.size + 1 := by omega
       exact (((((((HB9.out).setCell hl9 _).setCell hl9 _).setCell hl9 _).setCell hl9 _).setCell hl9 _).setCell hl9 _).setCell hl9 _
    case pos =>
     obtain ⟨arr, ha1, ha2⟩ := HR.out
     obtain ⟨cs, ⟨A0, k0, rfl, i0⟩, hcs⟩ := ha2 k hkl
     have x0 : wr.cell? ⟨gm, k, none⟩ = some (.slice A0 p.a.sts[k].length k0) := by
      have := hcs 0 _ rfl
      change arr[k * 1 + 0]? = _ at this
      exact za ha1 _ (by rw [← this]; congr 1; omega)
     have hk0 : (0 : Int) ≤ (k : Int) := by omega
     have hk1 : (k : Int) < (p.a.sts.length : Int) := by omega
     have hgw : gm < wr.heap.size := zd ha1
     have hBx := zd HI.out.b1
     have hm40 := HFA.out.each (List.getElem_mem hkl)
     obtain ⟨x, hx⟩ : ∃ x, p.a.sts[k] = x := ⟨_, rfl⟩
     have HXX := zH hx
     rw [hx] at x0 i0 hm40
     have HC := zH (clone_kMv A0 x.length k0 (qQ x) wr.drew (jR x) (QA (w := wr.drew) i0.mat) (QC x) (by omega))
     have q5 : wr.cell? ⟨w.heap.size, 5, none⟩ = some (.slice (some ⟨gm, 0, none⟩) p.a.sts.length c3) := za HI.out.b0 5 rfl
     clear ha1 ha2 hcs hx i0
     go_wp2_with fail
     refine zr [(0, true), (1, true), (2, true), (3, true), (4, true), (5, false), (6, false), (7, false)]
      (fun W => W.cell? ⟨w.heap.size, 5, none⟩ = some (.slice (some ⟨gm, 0, none⟩) p.a.sts.length c3)) (by kernel_rfl) (by kernel_rfl) (by exact q5) ?_
     repeat
      apply zA rfl
      · rintro K' hK' W y0
        go_simp
        exact hK'
     refine zC rfl ?_
     intro K' hK'
     go_simp
     refine HC.out.mono ?_
     rintro e w5 ⟨v5, rfl, ho5, hb5⟩
     have hb5 : Below wr.heap.size wr w5 := XZ hb5
     have ho5 : OwnR kMv w5 wr.heap.size v5 x.length (qQ x) := ho5
     obtain ⟨A5, c5, rfl, _, _, hl5⟩ := QB ho5
     have I5 := HI.out.on hb5
     have q5' : w5.cell? ⟨w.heap.size, 5, none⟩ = some (.slice (some ⟨gm, 0, none⟩) p.a.sts.length c3) := za I5.b0 5 rfl
     refine hK' _ _ q5' ?_
     clear hK' K'
     refine zC rfl ?_
     intro K' hK'
     go_simp
     refine hK' _ _ q5' ?_
     clear hK' K'
     have HR5 := HR.out.below qF hb5 (Nat.le_refl _)
     obtain ⟨arr, ha1, ha2⟩ := HR5
     obtain ⟨cs, ⟨Q0, n0, rfl, _⟩, hcs⟩ := ha2 k hkl
     have x1 : w5.cell? ⟨gm, k, none⟩ = some (.slice Q0 p.a.sts[k].length n0) := by
      have := hcs 0 _ rfl
      change arr[k * 1 + 0]? = _ at this
      exact za ha1 _ (by rw [← this]; congr 1; omega)
     have y1 := zb ha1 k
     have hX : cMl.lies (fun b => (fun b => Nbx L0 B0 w.heap.size b ∧ b ≠ g) b ∧ b ≠ gm) w5 [.slice A5 x.length c5] p.a.sts[k] := by
      rw [HXX.out]
      have hgl := HRC.out.lt
      exact ⟨A5, c5, rfl, hl5.mono fun b _ hb => ⟨⟨⟨by omega, by omega⟩, by omega⟩, by omega⟩⟩
     have HRn := zH (RowX.set1 qF rfl (HR.out.below qF hb5 (Nat.le_refl _)) hkl hX)
     have hNg : w.heap.size + 1 < gm := by omega
     have HIn := zH (I5.set hNg k (.slice A5 x.length c5))
     have hgmg : gm ≠ g := by omega
     have HRCn := zH ((HRC.out.below xu hb5 (Nat.le_refl _)).other xu k (.slice A5 x.length c5) hgmg (fun h => h.2 rfl))
     clear ha1 ha2 hcs hX I5 hl5 ho5 hb5
     refine yW rfl (by kernel_rfl) ?_
     intro K' hK'
     go_simp
     refine hK' (fun _ => True) _ _ trivial ?_
     refine zG ?_
     clear hK' K'
     go_wp2_with fail
     go_roundw
     case rel => exact ⟨k + 1, by omega, by go_num, HIn, HRn, HRCn⟩
     case measure => simp [intOf]; omega
  case pos =>
   obtain ⟨arr, ha1, ha2⟩ := HR.out
   obtain ⟨cs, ⟨A0, k0, A1, k1, A2, k2, rfl, i0, l1, l2⟩, hcs⟩ := ha2 k hkl
   have x0 : wr.cell? ⟨g, k * 3, none⟩ = some (.slice A0 p.t.cases[k].inp.length k0) := za ha1 _ (hcs 0 _ rfl)
   have x1 : wr.cell? ⟨g, k * 3 + 1, none⟩ = some (.slice A1 p.t.cases[k].out.length k1) := za ha1 _ (hcs 1 _ rfl)
   have x2 : wr.cell? ⟨g, k * 3 + 2, none⟩ = some (.slice A2 p.t.cases[k].calm.length k2) := za ha1 _ (hcs 2 _ rfl)
   have hk0 : (0 : Int) ≤ (k : Int) := by omega
   have hk1 : (k : Int) < (p.t.cases.length : Int) := by omega
   have hgw : g < wr.heap.size := zd ha1
   have hBx := zd HI.out.b1
   clear ha1 ha2 hcs
   have HLC := HFT.out.2 p.t.cases[k] (List.getElem_mem hkl)
   obtain ⟨x, hx⟩ : ∃ x, p.t.cases[k] = x := ⟨_, rfl⟩
   have HXX := zH hx
   rw [hx] at x0 x1 x2 i0 l1 l2 HLC
   clear hx
   go_wp2_with fail
   clear x0 x1 x2
   obtain ⟨W4, hW4, g0, hsz4, hB4⟩ := zi wr #[.slice A0 x.inp.length k0, .slice A1 x.out.length k1, .slice A2 x.calm.length k2] 168
   rw [hW4]
   clear hW4
   have H4 := HI.out.on hB4
   have p4 : W4.cell? ⟨w.heap.size, 3, none⟩ = some (.slice (some ⟨g, 0, none⟩) p.t.cases.length c2) := za H4.b0 3 rfl
   have HI0 := zH i0.iat
   have HL1 := zH l1.lat
   have HL2 := zH l2.lat
   have HB4 := zH hB4
   have HR4 := zH (HR.out.below xu hB4 (Nat.le_refl _))
   have HG4 := zH g0
   have hN0 : w.heap.size < W4.heap.size := by omega
   clear i0 l1 l2 hB4 H4
   refine zr [(0, true), (1, true), (2, true), (3, true), (4, true), (5, true), (7, true), (8, true), (10, true), (11, true), (6, false), (9, false), (12, false), (13, false), (14, false), (15, false)]
    (fun W => W.cell? ⟨w.heap.size, 3, none⟩ = some (.slice (some ⟨g, 0, none⟩) p.t.cases.length c2) ∧ W.heap[wr.heap.size]? = some (.cells #[.slice A0 x.inp.length k0, .slice A1 x.out.length k1, .slice A2 x.calm.length k2] 168 (0, 0)))
    (by kernel_rfl) (by kernel_rfl) ⟨p4, g0⟩ ?_
   repeat
    apply zA rfl
    · rintro K' hK' W ⟨y0, y1⟩
      have z0 : W.cell? ⟨wr.heap.size, 0, none⟩ = some (.slice A0 x.inp.length k0) := za y1 0 rfl
      have z1 : W.cell? ⟨wr.heap.size, 1, none⟩ = some (.slice A1 x.out.length k1) := za y1 1 rfl
      have z2 : W.cell? ⟨wr.heap.size, 2, none⟩ = some (.slice A2 x.calm.length k2) := za y1 2 rfl
      clear y1
      go_simp
      exact hK'
   clear p4 g0
   have hwr4 := HB4.out.size
   -- the inputs
   refine zC rfl ?_
   intro K' hK'
   go_simp
   refine (hZ A0 k0 x.inp W4.drew (((HI0.out.keep HB4.out).more hwr4)) (by have := HLC.1; omega)).mono ?_
   rintro e w5 ⟨A5, c5, rfl, hi5, hb5⟩
   have hb5 : Below W4.heap.size W4 w5 := XZ hb5
   have HB5 := zH hb5
   have hi5 : IAtS (fun b => W4.heap.size ≤ b) w5 A5 x.inp := hi5
   have HI5 := zH hi5
   have hwr5 := hb5.size
   have E5 : Below wr.heap.size wr w5 := HB4.out.trans (hb5.mono (by omega))
   refine hK' _ _ ⟨za (HI.out.on E5).b0 3 rfl, (hb5.block _ (by omega)).trans HG4.out⟩ ?_
   clear hK' K' hb5 hi5
   -- the outputs
   refine zC rfl ?_
   intro K' hK'
   go_simp
   refine (uA A1 k1 x.out w5 ((HL1.out.keep E5).more E5.size) (by have := HLC.2.1.1; omega) (fun v hv => by have := HLC.2.1.2 v hv; omega)).mono ?_
   rintro e w6 ⟨v6, rfl, ho6, hb6⟩
   obtain ⟨A6, c6, rfl, _, _, hl6⟩ := XX ho6
   have HB6 := zH hb6
   have HL6 := zH hl6
   have hwr6 := hb6.size
   have E6 : Below wr.heap.size wr w6 := E5.trans (hb6.mono E5.size)
   refine hK' _ _ ⟨za (HI.out.on E6).b0 3 rfl, (hb6.block _ (by omega)).trans ((HB5.out.block _ (by omega)).trans HG4.out)⟩ ?_
   clear hK' K' hb6 hl6 ho6
   -- the calm ones
   refine zC rfl ?_
   intro K' hK'
   go_simp
   refine (uA A2 k2 x.calm w6 ((HL2.out.keep E6).more E6.size) (by have := HLC.2.2.1; omega) (fun v hv => by have := HLC.2.2.2 v hv; omega)).mono ?_
   rintro e w7 ⟨v7, rfl, ho7, hb7⟩
   obtain ⟨A7, c7, rfl, _, _, hl7⟩ := XX ho7
   have HB7 := zH hb7
   have HL7 := zH hl7
   have hwr7 := hb7.size
   have E7 : Below wr.heap.size wr w7 := E6.trans (hb7.mono E6.size)
   have HE7 := zH E7
   refine hK' _ _ ⟨za (HI.out.on E7).b0 3 rfl, (hb7.block _ (by omega)).trans ((HB6.out.block _ (by omega)).trans ((HB5.out.block _ (by omega)).trans HG4.out))⟩ ?_
   have HR7 := zH (HR.out.below xu E7 (Nat.le_refl _))
   obtain ⟨arr, ha1, ha2⟩ := HR7.out
   obtain ⟨cs, ⟨Q0, n0, B1, n1, B2, n2, rfl, _, _, _⟩, hcs⟩ := ha2 k hkl
   have x0 : w7.cell? ⟨g, k * 3, none⟩ = some (.slice Q0 p.t.cases[k].inp.length n0) := za ha1 _ (hcs 0 _ rfl)
   have x1 : w7.cell? ⟨g, k * 3 + 1, none⟩ = some (.slice B1 p.t.cases[k].out.length n1) := za ha1 _ (hcs 1 _ rfl)
   have x2 : w7.cell? ⟨g, k * 3 + 2, none⟩ = some (.slice B2 p.t.cases[k].calm.length n2) := za ha1 _ (hcs 2 _ rfl)
   have y0 := zb ha1 (k * 3)
   have y1 := zb ha1 (k * 3 + 1)
   have y2 := zb ha1 (k * 3 + 2)
   have q3 : w7.cell? ⟨w.heap.size, 3, none⟩ = some (.slice (some ⟨g, 0, none⟩) p.t.cases.length c2) := za (HI.out.on E7).b0 3 rfl
   have HKK := zH ((hb7.block wr.heap.size (by omega)).trans ((HB6.out.block _ (by omega)).trans ((HB5.out.block _ (by omega)).trans HG4.out)))
   clear hK' K' hb7 hl7 ho7 ha1 ha2 hcs E5 E6 E7
   refine zC rfl ?_
   intro K' hK'
   go_simp
   refine hK' _ _ ⟨q3, HKK.out⟩ ?_
   clear hK' K'
   refine zC rfl ?_
   intro K' hK'
   go_simp
   refine hK' _ _ ⟨q3, HKK.out⟩ ?_
   clear hK' K'
   refine yW rfl (by kernel_rfl) ?_
   intro K' hK'
   go_simp
   refine hK' (fun _ => True) _ _ trivial ?_
   refine zG ?_
   clear hK' K' x0 x1 x2 y0 y1 y2 q3
   have hlt7 : W4.heap.size ≤ w7.heap.size := by omega
   have hX : cCs.lies (fun b => Nbx L0 B0 w.heap.size b ∧ b ≠ g) w7 [.slice A5 x.inp.length c5, .slice A6 x.out.length c6, .slice A7 x.calm.length c7] p.t.cases[k] := by
    rw [HXX.out]
    refine ⟨A5, c5, A6, c6, A7, c7, rfl, ?_, ?_, ?_⟩
    · exact (HI5.out.on (HB6.out.trans (HB7.out.mono hwr6))).mono fun b _ hb => ⟨⟨by omega, by omega⟩, by omega⟩
    · exact (HL6.out.on HB7.out).mono fun b _ hb => ⟨⟨by omega, by omega⟩, by omega⟩
    · exact HL7.out.mono fun b _ hb => ⟨⟨by omega, by omega⟩, by omega⟩
   have HRn := zH (HR7.out.set3 hkl hX)
   have hNg : w.heap.size + 1 < g := hgb
   have HIn := zH ((((HI.out.on HE7.out).set hNg (k * 3) (.slice A5 x.inp.length c5)).set hNg (k * 3 + 1) (.slice A6 x.out.length c6)).set hNg (k * 3 + 2) (.slice A7 x.calm.length c7))
   have HSn : Hid (SAtL L0 B0 (((w7.setCell ⟨g, k * 3, none⟩ (.slice A5 x.inp.length c5)).setCell ⟨g, k * 3 + 1, none⟩ (.slice A6 x.out.length c6)).setCell ⟨g, k * 3 + 2, none⟩ (.slice A7 x.calm.length c7)) SV p.a.sts) :=
    HSr.out.keep (((((HE7.out.mono (by omega : w.heap.size ≤ wr.heap.size)).setCell (by show w.heap.size ≤ g; omega) _).setCell (by show w.heap.size ≤ g; omega) _).setCell (by show w.heap.size ≤ g; omega) _).mono hB0)
   go_wp2_with fail
   go_roundw
   case rel => exact ⟨k + 1, by omega, by go_num, HIn, HRn, HSn⟩
   case measure => simp [intOf]; omega
end
section
open Go.RowKit
attribute [local go_sem] Oper.semAt_some
theorem zO {p : Pb} (h : zJ p = 0) : yQ p.t = 0 ∧ xN p.a = 0 ∧ p.t.n = p.a.n ∧ 0 ≤ p.k ∧ p.k ≤ 6 := by
 by_cases h1 : yQ p.t = 0
 case neg => rw [j9 h1] at h; exact absurd h h1
 by_cases h2 : xN p.a = 0
 case neg => rw [vU h1 h2] at h; exact absurd h h2
 by_cases h3 : p.t.n = p.a.n
 case neg => rw [Yd h1 h2 h3] at h; cases h
 by_cases h4 : p.k < 0 ∨ 6 < p.k
 · rw [Ye h1 h2 h3 h4] at h; cases h
 · exact ⟨h1, h2, h3, by omega, by omega⟩
theorem yB {t : Tk} (h : yQ t = 0) : 1 ≤ t.cases.length ∧ 1 ≤ t.n ∧ t.n ≤ 5 := by
 unfold yQ at h
 split at h
 · cases h
 · split at h
   · cases h
   · omega
def zP (p : Pb) : Nat := zN p.a p.k.toNat 0 * p.t.cases.length
def vf (p : Pb) : Int × Int := if zJ p ≠ 0 then (0, zJ p) else jE 1048576 (zP p)
set_option maxRecDepth 100000 in
theorem QZ (p : Pb) (hf : YK p) (A : Option Addr) (kc : Nat) (SV : Option Addr) (ks : Nat) (w : World) (hA : CAt w w.heap.size A p.t.cases) (hS : SAt w w.heap.size SV p.a.sts) :
  Calls Tryz.prog 134 #[.agg (p.vs A kc SV ks)] w fun e w' => e = .returned (.tuple #[.int .i64 (vf p).1, .int .i64 (vf p).2]) ∧ Below w.heap.size w w' := by
 have HP := zH (fun (w' : World) (h : CAt w' w'.heap.size A p.t.cases) (h2 : SAt w' w'.heap.size SV p.a.sts) => Qs p hf A kc SV ks w' h h2)
 have HF := zH (@zO p)
 have hc30 := hf.1.1
 have HCN := zH (fun (h : xN p.a = 0) (K : Nat) (hK : K ≤ 6) (w' : World) (h' : SAt w' w'.heap.size SV p.a.sts) => X7 p.a hf.2 h K hK SV ks w' h')
 have HE1 : Hid (zJ p ≠ 0 → vf p = (0, zJ p)) := fun h => if_pos h
 have HE2 : Hid (zJ p = 0 → vf p = jE 1048576 (zP p)) := fun h => if_neg (by simpa using h)
 obtain ⟨E, hE⟩ : ∃ E, vf p = E := ⟨_, rfl⟩
 rw [hE] at HE1 HE2 ⊢
 obtain ⟨pe, hpe⟩ : ∃ pe, zJ p = pe := ⟨_, rfl⟩
 rw [hpe] at HE1 HE2 HF HP
 clear hE hpe hf
 obtain ⟨w1, hw1⟩ : ∃ w1, w.alloc (.cells (p.vs A kc SV ks) 29) = w1 := ⟨_, rfl⟩
 have hbb := zh w (.cells (p.vs A kc SV ks) 29)
 have hb01 : Below w.heap.size w w1 := by rw [← hw1]; exact zI w _
 have hsz1 : w1.heap.size = w.heap.size + 1 := by rw [← hw1]; simp
 rw [hw1] at hbb
 unfold Pb.vs at hw1 hbb HP ⊢
 have HBB := zH hbb
 have HB01 := zH hb01
 have HA := zH ((hA.keep hb01).more (by omega : w.heap.size ≤ w1.heap.size))
 have HS := zH ((hS.keep hb01).more (by omega : w.heap.size ≤ w1.heap.size))
 have HW1 := zH hw1
 have q0 := za hbb 0 rfl
 have q1 := za hbb 1 rfl
 have q2 := za hbb 2 rfl
 have q3 := za hbb 3 rfl
 have q4 := za hbb 4 rfl
 have q5 := za hbb 5 rfl
 have q6 := za hbb 6 rfl
 clear hA hS hw1 hb01 hbb
 go_enter Tryz.func134, Tryz.ntmps134
 go_wp2_with fail
 rw [HW1.out]
 go_wp2_with fail
 refine (HP.out w1 HA.out HS.out).mono ?_
 rintro e w2 ⟨rfl, hb2⟩
 have B2 := zH (HB01.out.trans (hb2.mono (by omega)))
 have HS2 := zH ((HS.out.keep hb2).more hb2.size)
 have hbk := (hb2.block _ (zd HBB.out)).trans HBB.out
 have HB2 := zH hbk
 have hs2 := hb2.size
 clear hb2 HP HW1 q0 q1 q2 q3 q4 q5 q6
 have q4 := za hbk 4 rfl
 have q5 := za hbk 5 rfl
 have q6 := za hbk 6 rfl
 clear hbk
 by_cases h1 : pe = 0
 case neg =>
  have hR := zH (HE1.out h1)
  have e0 : (pe != 0) = true := by simpa using h1
  clear HE1 HE2 h1 HF HCN
  go_wp2_with fail
  go_ret2
  rw [hR.out]
  exact ⟨rfl, B2.out⟩
 case pos =>
 have hR := zH (HE2.out h1)
 obtain ⟨f1, f2, f3, f4, f5⟩ := HF.out h1
 obtain ⟨K, hk⟩ := Int.eq_ofNat_of_zero_le f4
 have HN := zH (HCN.out f2 K (by omega))
 obtain ⟨c1, _⟩ := yB f1
 rw [hk] at q6
 have hx : zP p = zN p.a K 0 * p.t.cases.length := by unfold zP; rw [hk]; rfl
 rw [hx] at hR
 subst h1
 obtain ⟨T, hT⟩ : ∃ T, zN p.a K 0 = T := ⟨_, rfl⟩
 rw [hT] at HN hR
 clear HE1 HE2 HF HCN f1 f2 f3 f4 hx hT
 go_wp2_with fail
 refine (HN.out w2 HS2.out).mono ?_
 rintro e w3 ⟨rfl, hb3⟩
 have B3 := zH (B2.out.trans (hb3.mono (by omega)))
 have hbk := (hb3.block _ (zd HB2.out)).trans HB2.out
 have q3 := za hbk 3 rfl
 clear hb3 hbk HN q4 q5 q6
 obtain ⟨cn, hcn⟩ : ∃ cn, p.t.cases.length = cn := ⟨_, rfl⟩
 rw [hcn] at q3 c1 hc30 hR
 clear hcn
 by_cases hg : 1048576 < T
 · have hm : 1048576 < T * cn := Nat.lt_of_lt_of_le hg (Nat.le_mul_of_pos_right T c1)
   have hR2 : Hid (E = (0, 17)) := hR.out.trans (if_pos hm)
   have hC : jE 1048576 T = (0, 17) := if_pos hg
   rw [hC]
   clear hR hm hC hg
   go_wp2_with fail
   go_ret2
   rw [hR2.out]
   exact ⟨rfl, B3.out⟩
 · have hC : jE 1048576 T = ((T : Int), 0) := if_neg hg
   rw [hC]
   have hmb : T * cn ≤ 1048576 * 30 := Nat.mul_le_mul (by omega) hc30
   have hw : IntKind.i64.wrap ((T : Int) * (cn : Int)) = ((T * cn : Nat) : Int) := by rw [IntKind.wrap_i64, ← Int.natCast_mul]; omega
   obtain ⟨m, hm⟩ : ∃ m, T * cn = m := ⟨_, rfl⟩
   rw [hm] at hR hmb hw
   clear hC hg hm
   by_cases hg : 1048576 < m
   · have hR2 : Hid (E = (0, 17)) := hR.out.trans (if_pos hg)
     clear hR
     go_wp2_with fail
     all_goals first | (exfalso; omega) | skip
     go_ret2
     rw [hR2.out]
     exact ⟨rfl, B3.out⟩
   · have hR2 : Hid (E = ((m : Int), 0)) := hR.out.trans (if_neg hg)
     clear hR
     go_wp2_with fail
     all_goals first | (exfalso; omega) | skip
     go_ret2
     rw [hR2.out]
     exact ⟨by first | rfl | rw [hw], B3.out⟩
end
section
open Go.RowKit Go.Shelf
def xb (p : Pb) : Prop := YK p ∧ (zJ p = 0 → zP p ≤ 60 ∨ 4096 < zP p)
def zQ (p : Pb) : Sy × Int := if zJ p ≠ 0 then (ql, zJ p) else if 4096 < zP p then (ql, 17) else (zD p, 0)
theorem xv {p : Pb} (h : zJ p ≠ 0) : zQ p = (ql, zJ p) := if_pos h
theorem xC {p : Pb} (h : zJ p = 0) (h2 : 4096 < zP p) : zQ p = (ql, 17) := by unfold zQ; rw [if_neg (by simpa using h), if_pos h2]
theorem qw {p : Pb} (h : zJ p = 0) (h2 : zP p ≤ 4096) : zQ p = (zD p, 0) := by unfold zQ; rw [if_neg (by simpa using h), if_neg (by omega)]
def jC (words : List (List Rd)) (l : List (Nat × Nat)) : List (Nat × List Rd) := l.map fun x => (x.1, words.getD x.2 [])
theorem prsW_snoc (words : List (List Rd)) (l : List (Nat × Nat)) (x : Nat × Nat) : jC words (l ++ [x]) = jC words l ++ [(x.1, words.getD x.2 [])] := by simp [jC]
theorem prsW_row (words : List (List Rd)) (i : Nat) : jC words ((List.range words.length).map fun j => (i, j)) = words.map fun w => (i, w) := by
 unfold jC
 rw [List.map_map]
 refine List.ext_getElem (by simp) fun j h1 h2 => ?_
 simp at h1
 simp [h1]
theorem Xd (words : List (List Rd)) : ∀ (m i : Nat), jC words (zg words.length i m) = (List.range m).flatMap fun d => words.map fun w => (i + d, w)
 | 0, _ => rfl
 | m + 1, i => by
  rw [zg, jC, List.map_append]
  have h1 := prsW_row words i
  have h2 := Xd words m (i + 1)
  unfold jC at h1 h2
  rw [h1, h2, List.range_succ_eq_map, List.flatMap_cons, List.flatMap_map]
  have e : (fun d => words.map fun w => (i + 1 + d, w)) = (fun d => words.map fun w => (i + (d + 1), w)) := by
   funext d; rw [show i + 1 + d = i + (d + 1) by omega]
  rw [e]; rfl
theorem ZE (p : Pb) (K : Nat) (hK : p.k = (K : Int)) : jC (zy p.a K 0) (zg (zy p.a K 0).length 0 p.t.cases.length) = zn p := by
 rw [Xd]
 unfold zn
 rw [hK]
 have e : (fun d => (zy p.a K 0).map fun w => (0 + d, w)) = (fun d => (zy p.a ((K : Int).toNat) 0).map fun w => (d, w)) := by
  funext d; rw [Nat.zero_add]; rfl
 rw [e]
theorem jb (n : Nat) : ∀ (m i : Nat), (zg n i m).length = m * n
 | 0, _ => by simp [zg]
 | m + 1, i => by rw [zg, List.length_append, jb n m (i + 1)]; simp; rw [Nat.add_mul]; omega
theorem xE (p : Pb) (l : List (Nat × List Rd)) : (zu p l).2.length = l.length := by
 have key : ∀ n, n ≤ l.length → (zu p (l.take n)).2.length = n := by
  intro n
  induction n with
  | zero => intro _; rfl
  | succ n ih =>
   intro hl
   rw [List.take_succ_eq_append_getElem (by omega), qr, List.length_append, ih (by omega)]; rfl
 have := key l.length (Nat.le_refl _)
 rwa [List.take_length] at this
theorem wS (p : Pb) (hn : p.t.n.toNat ≤ 5) (l : List (Nat × List Rd)) (h : ∀ x ∈ l, x.2.length ≤ 6) : (zu p l).1.length ≤ l.length * 35 := by
 have key : ∀ n, n ≤ l.length → (zu p (l.take n)).1.length ≤ n * 35 := by
  intro n
  induction n with
  | zero => intro _; simp [vt]
  | succ n ih =>
   intro hl
   rw [List.take_succ_eq_append_getElem (by omega), qr]
   have h1 := ih (by omega)
   obtain ⟨x, hx⟩ : ∃ x, l[n] = x := ⟨_, rfl⟩
   have h3 := h l[n] (List.getElem_mem _)
   rw [hx] at h3 ⊢
   have h2 := kd (zu p (l.take n)).1 p.t.n.toNat (yL p x.1) x.2 x.2.length
   have h4 : (x.2.length + 1) * p.t.n.toNat ≤ 7 * 5 := Nat.mul_le_mul (by omega) hn
   dsimp only
   omega
 have := key l.length (Nat.le_refl _)
 rwa [List.take_length] at this
end
section
open Go.RowKit Go.Shelf
structure BlIn (p : Pb) (D B bB bM b7 : Nat) (SC : Value → Array Value) (WR : World) (l : List (Nat × List Rd)) (V E : Value) (X : World) : Prop where
 wr : Wrote (fun k => k = bB ∨ k = bM ∨ k = b7) WR X
 bd : BdIn B bB bM p.t.n V (zu p l).1 X
 sys : X.heap[b7]? = some (.cells (SC E) 35 (0, 0))
 out : OwnX cXnC (fun k => D ≤ k ∧ V.ownBlock ≠ some k) X D E (zu p l).2
 no : ∀ k, V.ownBlock = some k → D ≤ k ∧ E.ownBlock ≠ some k
structure BlB (D B bB bM b7 : Nat) (WR : World) : Prop where
 d : WR.heap.size = D
 b : bB < D
 m : bM < D
 s : b7 < D
 lo : B ≤ bB ∧ B ≤ bM ∧ B ≤ b7
 bs : bB ≠ b7
 ms : bM ≠ b7
section
variable {p : Pb} {D B bB bM b7 : Nat} {SC : Value → Array Value} {WR X : World} {l : List (Nat × List Rd)} {V E : Value}
theorem BlIn.big (h : BlIn p D B bB bM b7 SC WR l V E X) (hb : BlB D B bB bM b7 WR) : D ≤ X.heap.size := by have := h.wr.size; have := hb.d; omega
theorem BlIn.bel (h : BlIn p D B bB bM b7 SC WR l V E X) (hb : BlB D B bB bM b7 WR) : Below B WR X := h.wr.below (by have := hb.d; have := hb.lo; have := hb.b; omega) fun k hk hr => by
 have := hb.lo
 rcases hr with e | e | e <;> omega
theorem BlIn.same (h : BlIn p D B bB bM b7 SC WR l V E X) (hb : BlB D B bB bM b7 WR) {k : Nat} (hk : k < D) (h1 : k ≠ bB) (h2 : k ≠ bM) (h3 : k ≠ b7) : X.heap[k]? = WR.heap[k]? :=
 h.wr.block k (by have := hb.d; omega) fun hr => by rcases hr with e | e | e <;> contradiction
theorem BlIn.turn (h : BlIn p D B bB bM b7 SC WR l V E X) (hb : BlB D B bB bM b7 WR) {X' : World} {row : Option Nat} (hg : X.grownBy X' row) (hr : ∀ r, row = some r → D ≤ r ∧ ∃ o : Obj, X.heap[r]? = some o ∧ o.isCells = false) : BlIn p D B bB bM b7 SC WR l V E X' := by
 have hc : ∀ (k : Nat) (o : Obj), X.heap[k]? = some o → o.isCells = true → X'.heap[k]? = some o := fun k o hk ho => (grownBy_keeps_cells hg (fun r e => (hr r e).2) hk ho).trans hk
 obtain ⟨m, hm⟩ := h.bd.num
 refine ⟨h.wr.trans (Wrote.of_grown (R := fun k => D ≤ k) hg (fun k e _ => (hr k e).1)) (fun k hk e => by have := hb.d; omega), ⟨hc _ _ h.bd.hB rfl, ⟨m, hm.same (hg.block bM hm.lt fun e => by have := (hr bM e.symm).1; have := hb.m; omega)⟩, ?_, h.bd.ne, h.bd.bm, h.bd.lo⟩, hc _ _ h.sys rfl, h.out.turn yP hg.size hc, h.no⟩
 refine ⟨h.bd.own.1, ?_⟩
 rcases h.bd.own.2 with hn | ⟨g, cap, cur, hv', hb', hg', rest⟩
 · exact .inl hn
 · exact .inr ⟨g, cap, cur, hv', hb', hc g _ hg' rfl, rest⟩
theorem BlIn.outn (h : BlIn p D B bB bM b7 SC WR l V E X) (hb : BlB D B bB bM b7 WR) {w2 w3 : World} {V' : Value} (h2 : Below X.heap.size X w2) (ho : BdOn bB bM V w2 V' w3) :
  OwnX cXnC (fun k => D ≤ k ∧ V'.ownBlock ≠ some k) w3 D E (zu p l).2 ∧ ∀ k, V'.ownBlock = some k → D ≤ k ∧ E.ownBlock ≠ some k := by
 have hs := h2.size
 have hD := h.big hb
 have hel := h.out.lt
 have h1 : OwnX cXnC (fun k => (D ≤ k ∧ V.ownBlock ≠ some k) ∧ V'.ownBlock ≠ some k) w2 D E (zu p l).2 :=
  (h.out.mono (S' := fun k => (D ≤ k ∧ V.ownBlock ≠ some k) ∧ V'.ownBlock ≠ some k) yP fun k hk hs => ⟨hs, fun e => by
   rcases ho.2 k e with e | e
   · exact hs.2 e
   · omega⟩).below yP h2 (Nat.le_refl _)
 refine ⟨(h1.keep yP (ho.1.keep fun k _ hs hr => ?_) fun k hk => ho.1.block k (by have := (hel k hk).2; omega) fun hr => ?_).mono yP fun k _ hs => ⟨hs.1.1, hs.2⟩, fun k hk => ?_⟩
 · rcases hr with e | e | e
   · have := hb.b; have := hs.1.1; omega
   · have := hb.m; have := hs.1.1; omega
   · exact hs.1.2 e
 · have := (hel k hk).1
   rcases hr with e | e | e
   · have := hb.b; omega
   · have := hb.m; omega
   · exact (h.no k e).2 hk
 · rcases ho.2 k hk with e | e
   · exact h.no k e
   · exact ⟨by omega, fun e2 => by have := (hel k e2).2; omega⟩
theorem BlIn.lies (h : BlIn p D B bB bM b7 SC WR l V E X) (hb : BlB D B bB bM b7 WR) {w2 w3 W4 : World} {V' v : Value} {i : Nat} {word : List Rd} {views : List (List Int)} {A2 A3 : Option Addr} {c2 c3 : Nat} (h2 : Below X.heap.size X w2) (ho : BdOn bB bM V w2 V' w3) (h4 : Below w3.heap.size w3 W4)
  (hw : RAtS (fun k => X.heap.size ≤ k) w2 A2 word) (hv : LAtS (fun k => (w2.heap.size ≤ k ∧ V'.ownBlock ≠ some k) ∨ v.ownBlock = some k) w3 A3 views) (hvl : ∀ k, v.ownBlock = some k → w2.heap.size ≤ k) (hvn : ∀ k, V'.ownBlock = some k → v.ownBlock ≠ some k) (hcap : word.length ≤ c2) :
  cXnC.lies (fun k => (D ≤ k ∧ V'.ownBlock ≠ some k) ∧ E.ownBlock ≠ some k) W4 [.int .i64 i, .slice A2 word.length c2, .slice A3 views.length c3] ⟨i, word, views⟩ := by
 have hs := h2.size
 have hD := h.big hb
 have hel := h.out.lt
 have hvo := h.bd.own.lt
 refine ⟨A2, c2, A3, c3, rfl, ?_, ?_, hcap⟩
 · have h5 : RAtS (fun k => X.heap.size ≤ k ∧ k < w2.heap.size) w2 A2 word := hw.mono fun k hk hs => ⟨hs, hk⟩
   have h6 := h5.keep (ho.1.keep fun k _ hs hr => by
    rcases hr with e | e | e
    · have := hb.b; omega
    · have := hb.m; omega
    · have := (hvo k e).2; omega)
   have h7 : RAtS (fun k => (D ≤ k ∧ V'.ownBlock ≠ some k) ∧ E.ownBlock ≠ some k) w3 A2 word := h6.mono fun k _ hs => ⟨⟨by omega, fun e => by
    rcases ho.2 k e with e | e
    · have := (hvo k e).2; omega
    · omega⟩, fun e => by have := (hel k e).2; omega⟩
   exact h7.on h4
 · have h7 : LAtS (fun k => (D ≤ k ∧ V'.ownBlock ≠ some k) ∧ E.ownBlock ≠ some k) w3 A3 views := hv.mono fun k _ hs => by
    rcases hs with hs | hs
    · exact ⟨⟨by omega, hs.2⟩, fun e => by have := (hel k e).2; omega⟩
    · have := hvl k hs
      exact ⟨⟨by omega, fun e => hvn k e hs⟩, fun e => by have := (hel k e).2; omega⟩
   exact h7.on h4
theorem BlIn.next (h : BlIn p D B bB bM b7 SC WR l V E X) (hb : BlB D B bB bM b7 WR) {w2 w3 W4 w5 : World} {V' : Value} {x : Nat × List Rd} {cs : List Value} {css : List (List Value)} {g' cap : Nat} (h2 : Below X.heap.size X w2) (ho : BdOn bB bM V w2 V' w3) (h4 : Below w3.heap.size w3 W4)
  (hd : BdIn B bB bM p.t.n V' (zl (zu p l).1 p.t.n.toNat (yL p x.1) x.2 x.2.length).1 w3)
  (hsc : ∀ E' : Value, (SC E).setIfInBounds 9 E' = SC E')
  (hcl : css.length = (zu p l).2.length) (hcs : ∀ (i : Nat) (h1 : i < css.length) (h2 : i < (zu p l).2.length), cXnC.lies (fun k => (D ≤ k ∧ V'.ownBlock ≠ some k) ∧ E.ownBlock ≠ some k) W4 css[i] (zu p l).2[i])
  (hX : cXnC.lies (fun k => (D ≤ k ∧ V'.ownBlock ≠ some k) ∧ E.ownBlock ≠ some k) W4 cs ⟨x.1, x.2, (zl (zu p l).1 p.t.n.toNat (yL p x.1) x.2 x.2.length).2⟩)
  (hr : OwnR kXn w5 D (.slice (some ⟨g', 0, none⟩) ((zu p l).2.length + 1) cap) ((zu p l).2.length + 1) (css.flatten ++ cs)) (hg : W4.grownBy w5 E.ownBlock) (hat : E.ownBlock = some g' ∨ g' = W4.heap.size) :
  BlIn p D B bB bM b7 SC WR (l ++ [x]) V' (.slice (some ⟨g', 0, none⟩) ((zu p l).2.length + 1) cap) (w5.setCell ⟨b7, 9, none⟩ (.slice (some ⟨g', 0, none⟩) ((zu p l).2.length + 1) cap)) ∧
   KeepsFrom D X (w5.setCell ⟨b7, 9, none⟩ (.slice (some ⟨g', 0, none⟩) ((zu p l).2.length + 1) cap)) ∧
   Wrote (fun k => k = bB ∨ k = bM ∨ k = b7 ∨ D ≤ k) X (w5.setCell ⟨b7, 9, none⟩ (.slice (some ⟨g', 0, none⟩) ((zu p l).2.length + 1) cap)) := by
 have hs := h2.size
 have hD := h.big hb
 have hs3 := ho.1.size
 have hs4 := h4.size
 have hel := h.out.lt
 have hvo := h.bd.own.lt
 obtain ⟨_, hno⟩ := h.outn hb h2 ho
 have hgl := hr.lt g' rfl
 have hbl := hb.lo
 obtain ⟨e1, e2, e3⟩ : bB < D ∧ bM < D ∧ b7 < D := ⟨hb.b, hb.m, hb.s⟩
 have hEb : ∀ k, k < D → E.ownBlock ≠ some k := fun k hk e => by have := (hel k e).1; omega
 have hV7 : ∀ k, V'.ownBlock = some k → D ≤ k := fun k e => (hno k e).1
 have hW : Wrote (fun k => k = bB ∨ k = bM ∨ k = b7 ∨ V.ownBlock = some k ∨ E.ownBlock = some k) X (w5.setCell ⟨b7, 9, none⟩ (.slice (some ⟨g', 0, none⟩) ((zu p l).2.length + 1) cap)) := by
  refine ((((Wrote.of_below (R := fun k => k = bB ∨ k = bM ∨ k = b7 ∨ V.ownBlock = some k ∨ E.ownBlock = some k) h2).trans ho.1 fun k _ hr => ?_).trans (Wrote.of_below (R := fun _ => False) h4) fun _ _ h => h.elim).trans (Wrote.of_grown (R := fun k => E.ownBlock = some k) hg fun _ e _ => e) fun k _ e => ?_).trans (Wrote.of_grown (R := fun k => k = b7) (yc w5 b7 9 _) fun k e _ => by cases e; rfl) fun k _ e => ?_
  · rcases hr with e | e | e
    · exact .inl e
    · exact .inr (.inl e)
    · exact .inr (.inr (.inr (.inl e)))
  · exact .inr (.inr (.inr (.inr e)))
  · exact .inr (.inr (.inl e))
 have hsys : w5.heap[b7]? = some (.cells (SC E) 35 (0, 0)) := by
  refine (hg.block b7 (by omega) fun e => hEb b7 e3 e.symm).trans ((h4.block b7 (by omega)).trans ((ho.1.block b7 (by omega) fun hr => ?_).trans ((h2.block b7 (by omega)).trans h.sys)))
  rcases hr with e | e | e
  · exact hb.bs e.symm
  · exact hb.ms e.symm
  · have := (h.no b7 e).1; omega
 have hd5 := ((hd.on h4).grown hg (fun e => hEb bB e1 e) (fun e => hEb bM e2 e) (fun k hk e => (hno k hk).2 e)).set (g := b7) (fun e => hb.bs e.symm) (fun e => hb.ms e.symm) (fun e => by have := hV7 b7 e; omega) 9 (.slice (some ⟨g', 0, none⟩) ((zu p l).2.length + 1) cap)
 have hrun := qr p l x
 refine ⟨⟨?_, ?_, ?_, ?_, ?_⟩, ?_, hW.more fun k _ hr => ?_⟩
 · refine h.wr.trans hW fun k hk hr => ?_
   have := hb.d
   rcases hr with e | e | e | e | e
   · exact .inl e
   · exact .inr (.inl e)
   · exact .inr (.inr e)
   · have := (h.no k e).1; omega
   · have := (hel k e).1; omega
 · rw [hrun]; exact hd5
 · rw [heap_setCell_same w5 b7 9 _ _ _ hsys, hsc]
 · rw [hrun]
   have h8 := OwnX.app yP hcl hcs hX hr hg hat
   refine h8.kept yP (yc w5 b7 9 _) (.inr (fun e => ?_)) (fun k e => .inl fun hs => ?_)
   · have : g' = b7 := by simpa [Value.ownBlock] using e
     omega
   · cases e; have := hs.1; omega
 · intro k hk
   refine ⟨hV7 k hk, fun e => ?_⟩
   have : g' = k := by simpa [Value.ownBlock] using e
   subst this
   rcases hat with e | e
   · exact (hno g' hk).2 e
   · have := (hd.own.lt g' hk).2; omega
 · refine ⟨hW.size, fun k o hk ho2 hcf => (hW.block k (zd ho2) fun hr => ?_).trans ho2⟩
   rcases hr with e | e | e | e | e
   · omega
   · omega
   · omega
   · rcases h.bd.own.2 with ⟨hn, _⟩ | ⟨g, cap', cur, hv', _, hg', _⟩
     · rw [hn] at e; cases e
     · rw [hv'] at e; cases e; rw [hg'] at ho2; cases ho2; cases hcf
   · obtain ⟨css2, _, hr2, _⟩ := h.out
     rcases hr2.2 with ⟨hn, _⟩ | ⟨g, cap', cur, hv', _, hg', _⟩
     · rw [hn] at e; cases e
     · rw [hv'] at e; cases e; rw [hg'] at ho2; cases ho2; cases hcf
 · rcases hr with e | e | e | e | e
   · exact .inl e
   · exact .inr (.inl e)
   · exact .inr (.inr (.inl e))
   · exact .inr (.inr (.inr (h.no k e).1))
   · exact .inr (.inr (.inr (hel k e).1))
end
end
section
open Go.RowKit
theorem kC (w : World) (c1 c2 c3 : Array Value) (t1 t2 t3 : TypeId) : ∃ W0, ((w.alloc (.cells c1 t1)).alloc (.cells c2 t2)).alloc (.cells c3 t3) = W0 ∧ W0.heap[w.heap.size]? = some (.cells c1 t1 (0, 0)) ∧ W0.heap[w.heap.size + 1]? = some (.cells c2 t2 (0, 0)) ∧
  W0.heap[w.heap.size + 1 + 1]? = some (.cells c3 t3 (0, 0)) ∧ W0.heap.size = w.heap.size + 3 ∧ Below w.heap.size w W0 :=
 ⟨_, rfl, ye (ye (zh _ _) _) _, ye (by have := zh (w.alloc (.cells c1 t1)) (.cells c2 t2); rwa [World.size_alloc] at this) _,
  by have := zh ((w.alloc (.cells c1 t1)).alloc (.cells c2 t2)) (.cells c3 t3); rwa [World.size_alloc, World.size_alloc] at this, by simp, bel3 w _ _ _⟩
def PutCut (n : Int) (vs : List Vw) (v : Vw) (g : Nat) (w1 : World) (s : Value) (wx : World) : Prop :=
 s = .pointer (some ⟨g, 0, none⟩) ∧ ∃ A cap, wx.cell? ⟨g, 0, none⟩ = some (.int .i64 n) ∧ wx.cell? ⟨g, 1, none⟩ = some (.slice A (vs.length + 1) cap) ∧ OwnV wx (g + 1) (.slice A (vs.length + 1) cap) (vs ++ [v]) ∧ Below g w1 wx
set_option maxRecDepth 100000 in
theorem put_any (n : Int) (A : Option Addr) (cap : Nat) (vs : List Vw) (v : Vw) (w : World) (hT : TArg w A cap vs) (hl : vs.length < 100000) :
  Calls Tryz.prog 193 #[.agg #[.int .i64 n, .slice A vs.length cap], .agg v.cells] w (RetPut n A cap vs v w) := by
 have HT := zH hT
 have hfew := hT.few
 clear hT
 go_enter Tryz.func193, Tryz.ntmps193
 unfold Vw.cells
 go_wp2_with fail
 obtain ⟨W0, hW0, b0, b1, b2, hsz, hB0⟩ := kC w #[.int .i64 n, .slice A vs.length cap] v.cells #[.int .i64 0, .slice none 0 0] 32 224 32
 unfold Vw.cells at hW0
 rw [hW0]
 clear hW0
 have c0 : W0.heap[w.heap.size + 1]? = some (.cells v.cells 224 (0, 0)) := b1
 have hT0 := HT.out.keep hB0
 refine (index_any n A cap vs v W0 W0.heap.size (Nat.le_refl _) hT0.rows (by omega)).mono ?_
 rintro e w1 ⟨rfl, hb⟩
 have HV : Hid (w1.heap[w.heap.size + 1]? = some (.cells v.cells 224 (0, 0))) := (hb.block _ (by omega)).trans c0
 have d0 := (hb.block _ (by omega)).trans b0
 have d2 := (hb.block _ (by omega)).trans b2
 have hT1 := zH (hT0.keep hb)
 have B1 : Hid (Below w.heap.size w w1) := hB0.trans (hb.mono (by omega))
 have l0 : w.heap.size + 3 ≤ w1.heap.size := by have := hb.size; omega
 clear b0 b1 b2 c0 hT0 hB0 hb hsz
 have t0 := za d0 0 rfl
 have t1 := za d0 1 rfl
 have r0 := za d2 0 rfl
 have r1 := za d2 1 rfl
 have f0 := zb d2 0
 have f1 := zb d2 1
 by_cases hv : v ∈ vs
 · have hz := zH hv
   have h0 : 0 ≤ qH vs v := XD hv
   clear hv d0 d2
   go_wp2_with fail
   have hbs : Hid (Below w.heap.size w ((w1.setCell ⟨w.heap.size + 1 + 1, 0, none⟩ (Value.int .i64 n)).setCell ⟨w.heap.size + 1 + 1, 1, none⟩ (Value.slice A vs.length cap))) := (B1.out.setCell (by simp; omega) _).setCell (by simp; omega) _
   exact bodyPost_ret (v := .tuple #[.agg #[.int .i64 n, .slice A vs.length cap], .int .i64 (qH vs v)]) (by simp [results, Tryz.results193, go_sem, r0, r1]) rfl ⟨hbs.out, fun _ => rfl, fun h => absurd hz.out h⟩
 · have hz : Hid (v ∉ vs) := hv
   have h0 : qH vs v = -1 := by unfold qH; rw [if_neg hv]
   have h1 : qH vs v < 0 := by omega
   clear hv h0
   go_upto_region 5 with fail
   obtain ⟨W2, hW2, g0, hsz2, hB2⟩ := zi w1 #[.int .i64 n, .slice none 0 0] 32
   rw [hW2]
   clear hW2
   have hVX : W2.heap[w.heap.size + 1]? = some (.cells v.cells 224 (0, 0)) := (hB2.block _ (by omega)).trans HV.out
   have D0 : W2.heap[w.heap.size]? = some (.cells #[.int .i64 n, .slice A vs.length cap] 32 (0, 0)) := (hB2.block _ (by omega)).trans d0
   have D2 : W2.heap[w.heap.size + 1 + 1]? = some (.cells #[.int .i64 0, .slice none 0 0] 32 (0, 0)) := (hB2.block _ (by omega)).trans d2
   have x0 : W2.cell? ⟨w.heap.size + 1, 0, none⟩ = some (.int .i64 v.p) := za hVX 0 rfl
   have x1 : W2.cell? ⟨w.heap.size + 1, 1, none⟩ = some (.int .i64 v.r) := za hVX 1 rfl
   have x2 : W2.cell? ⟨w.heap.size + 1, 2, none⟩ = some (.int .i64 v.i) := za hVX 2 rfl
   have x3 : W2.cell? ⟨w.heap.size + 1, 3, none⟩ = some (.int .i64 v.h0) := za hVX 3 rfl
   have x4 : W2.cell? ⟨w.heap.size + 1, 4, none⟩ = some (.int .i64 v.h1) := za hVX 4 rfl
   have x5 : W2.cell? ⟨w.heap.size + 1, 5, none⟩ = some (.int .i64 v.h2) := za hVX 5 rfl
   have x6 : W2.cell? ⟨w.heap.size + 1, 6, none⟩ = some (.int .i64 v.h3) := za hVX 6 rfl
   have x7 : W2.cell? ⟨w.heap.size + 1, 7, none⟩ = some (.int .i64 v.h4) := za hVX 7 rfl
   have s1 : W2.cell? ⟨w.heap.size, 1, none⟩ = some (.slice A vs.length cap) := za D0 1 rfl
   have y1 : W2.cell? ⟨w1.heap.size, 1, none⟩ = some (.slice none 0 0) := za g0 1 rfl
   have y0 : W2.cell? ⟨w1.heap.size, 0, none⟩ = some (.int .i64 n) := za g0 0 rfl
   have BX := zH hB2
   have l3 : w.heap.size < W2.heap.size := by omega
   have z1 := zb g0 1
   have l2 : w1.heap.size < W2.heap.size := by omega
   have hT2 := zH (hT1.out.keep hB2)
   have B2 : Hid (Below w.heap.size w W2) := B1.out.trans (hB2.mono B1.out.size)
   have HD0 := zH d0
   have HD2 := zH d2
   clear d0 d2 t0 t1 r0 r1 f0 f1 hB2 hsz2
   go_cut [7] (fun s7 wx => PutCut n vs v w1.heap.size w1 s7 wx)
   case first =>
    go_region_law ((first
      | (refine Qe (by rfl) (.tmp 19) (.tmp 21) (by rfl) W2.heap.size (by rfl) A cap vs (by rfl) (by first | exact hT2.out.keep (Below.refl _ _).drew | exact hT2.out.keep (zI W2 _).drew) (by simp) ?_; intro A1 cap1 wA hownA hgrowA; have hG : W2.grownBy wA none := (by first | exact ⟨hgrowA.os, hgrowA.tape, hgrowA.output, hgrowA.size, hgrowA.block⟩ | exact yH (o := .cells v.cells 224) ⟨hgrowA.os, hgrowA.tape, hgrowA.output, hgrowA.size, hgrowA.block⟩); have e0 := zR hG x0 (by simp); have e1 := zR hG x1 (by simp); have e2 := zR hG x2 (by simp); have e3 := zR hG x3 (by simp); have e4 := zR hG x4 (by simp); have e5 := zR hG x5 (by simp); have e6 := zR hG x6 (by simp); have e7 := zR hG x7 (by simp); have e8 := zR hG y1 (by simp); have e9 := vd hG z1 l2 (by simp); have e10 : W2.heap.size ≤ wA.heap.size := hG.size)
      | (refine wO (by rfl) (.tmp 22) (.tmp 24) (by rfl) W2.heap.size _ vs v (by rfl) (hownA.alloc _) (by omega) wA.heap.size (by rfl) (zh wA _) (by first | omega | (simp; omega)) ?_; intro A3 cap3 wB hownB hgrowB; have hH : wA.grownBy wB (Value.slice A1 vs.length cap1).ownBlock := (by first | exact ⟨hgrowB.os, hgrowB.tape, hgrowB.output, hgrowB.size, hgrowB.block⟩ | exact yH (o := .cells v.cells 224) ⟨hgrowB.os, hgrowB.tape, hgrowB.output, hgrowB.size, hgrowB.block⟩); have h8 := zR hH e8 (hownA.ne (by omega)); have h9 := vd hH e9 (by omega) (hownA.ne (by omega)); have h10 : Below w1.heap.size w1 wB := (BX.out.grown hG (by omega) (by simp)).grown hH (by omega) (fun k hk => by have := (hownA.lt k hk).1; omega); have h11 := zR hH (zR hG y0 (by simp)) (hownA.ne (by omega)))
      | (refine wO (by rfl) (.tmp 22) (.tmp 24) (by rfl) W2.heap.size _ vs v (by rfl) (hownA) (by omega) W2.heap.size (by rfl) (QR hgrowA (zh W2 _) (by simp)) (by first | omega | (simp; omega)) ?_; intro A3 cap3 wB hownB hgrowB; have hH : wA.grownBy wB (Value.slice A1 vs.length cap1).ownBlock := (by first | exact ⟨hgrowB.os, hgrowB.tape, hgrowB.output, hgrowB.size, hgrowB.block⟩ | exact yH (o := .cells v.cells 224) ⟨hgrowB.os, hgrowB.tape, hgrowB.output, hgrowB.size, hgrowB.block⟩); have h8 := zR hH e8 (hownA.ne (by omega)); have h9 := vd hH e9 (by omega) (hownA.ne (by omega)); have h10 : Below w1.heap.size w1 wB := (BX.out.grown hG (by omega) (by simp)).grown hH (by omega) (fun k hk => by have := (hownA.lt k hk).1; omega); have h11 := zR hH (zR hG y0 (by simp)) (hownA.ne (by omega)))))
    all_goals
     go_wp2_with fail
     go_meet
     refine ⟨rfl, A3, cap3, by simp [go_sem, h11], by simp [go_sem, h8], ?_, h10.setCell (by simp) _⟩
     exact (OwnV.kept hownB (vc wB w1.heap.size 1 _) (Or.inr (hownB.ne l2))).low l2
   case rest =>
    obtain ⟨rfl, A3, cap3, c0, c1, hT3, hB3⟩ := hcut
    have D0 := (hB3.block _ (by omega)).trans HD0.out
    have D2 := (hB3.block _ (by omega)).trans HD2.out
    have t1 : wc.cell? ⟨w.heap.size, 1, none⟩ = some (.slice A vs.length cap) := za D0 1 rfl
    have r0 := za D2 0 rfl
    have r1 := za D2 1 rfl
    have f0 := zb D2 0
    have f1 := zb D2 1
    have HT3 := zH hT3
    have HB3 : Hid (Below w.heap.size w wc) := B1.out.trans (hB3.mono B1.out.size)
    clear D0 D2 g0 hVX x0 x1 x2 x3 x4 x5 x6 x7 s1 y0 y1 z1 hT3 hB3
    go_wp2_with fail
    go_region
    all_goals
     go_wp2_with fail
     have hbs : Hid (Below w.heap.size w (((wc.setCell ⟨w.heap.size + 1 + 1, 0, none⟩ (Value.int .i64 n)).setCell ⟨w.heap.size + 1 + 1, 1, none⟩ (Value.slice A3 (vs.length + 1) cap3)).drew)) := ((HB3.out.setCell (by simp; omega) _).setCell (by simp; omega) _).drew
     have hfin : OwnV ((wc.setCell ⟨w.heap.size + 1 + 1, 0, none⟩ (Value.int .i64 n)).setCell ⟨w.heap.size + 1 + 1, 1, none⟩ (Value.slice A3 (vs.length + 1) cap3)) (w1.heap.size + 1) (.slice A3 (vs.length + 1) cap3) (vs ++ [v]) :=
      (HT3.out.kept (vc wc (w.heap.size + 1 + 1) 0 _) (Or.inr (HT3.out.ne (by omega)))).kept (vc _ (w.heap.size + 1 + 1) 1 _) (Or.inr (HT3.out.ne (by omega)))
     exact bodyPost_ret (v := .tuple #[.agg #[.int .i64 n, .slice A3 (vs.length + 1) cap3], .int .i64 vs.length]) (by simp [results, Tryz.results193, go_sem, r0, r1]) rfl ⟨hbs.out, fun h => absurd h hz.out, fun _ => ⟨A3, cap3, rfl, (OwnV.drew hfin).low (by have := B1.out.size; omega)⟩⟩
end
section
open Go.RowKit Go.Shelf
attribute [local go_sem] Oper.semAt_some
theorem jv {w X : World} {g h B : Nat} {a0 a1 a2 a3 a4 a5 a6 a7 a8 a9 u0 : Value} (v0 v1 v2 v3 v4 v5 v6 v7 v8 v9 u : Value) (hg : X.heap[g]? = some (.cells #[a0, a1, a2, a3, a4, a5, a6, a7, a8, a9] 35 (0, 0))) (hh : X.heap[h]? = some (.cells #[u0] 39 (0, 0)))
  (hne : g ≠ h) (hB : Below B w X) (h1 : B ≤ g) (h2 : B ≤ h) :
  (((((((((((X.setCell ⟨g, 0, none⟩ v0).setCell ⟨g, 1, none⟩ v1).setCell ⟨g, 2, none⟩ v2).setCell ⟨g, 3, none⟩ v3).setCell ⟨g, 4, none⟩ v4).setCell ⟨g, 5, none⟩ v5).setCell ⟨g, 6, none⟩ v6).setCell ⟨g, 7, none⟩ v7).setCell ⟨g, 8, none⟩ v8).setCell ⟨g, 9, none⟩ v9).setCell ⟨h, 0, none⟩ u).heap[g]? = some (.cells #[v0, v1, v2, v3, v4, v5, v6, v7, v8, v9] 35 (0, 0)) ∧ (((((((((((X.setCell ⟨g, 0, none⟩ v0).setCell ⟨g, 1, none⟩ v1).setCell ⟨g, 2, none⟩ v2).setCell ⟨g, 3, none⟩ v3).setCell ⟨g, 4, none⟩ v4).setCell ⟨g, 5, none⟩ v5).setCell ⟨g, 6, none⟩ v6).setCell ⟨g, 7, none⟩ v7).setCell ⟨g, 8, none⟩ v8).setCell ⟨g, 9, none⟩ v9).setCell ⟨h, 0, none⟩ u).heap[h]? = some (.cells #[u] 39 (0, 0)) ∧ Below B w (((((((((((X.setCell ⟨g, 0, none⟩ v0).setCell ⟨g, 1, none⟩ v1).setCell ⟨g, 2, none⟩ v2).setCell ⟨g, 3, none⟩ v3).setCell ⟨g, 4, none⟩ v4).setCell ⟨g, 5, none⟩ v5).setCell ⟨g, 6, none⟩ v6).setCell ⟨g, 7, none⟩ v7).setCell ⟨g, 8, none⟩ v8).setCell ⟨g, 9, none⟩ v9).setCell ⟨h, 0, none⟩ u) ∧
   (((((((((((X.setCell ⟨g, 0, none⟩ v0).setCell ⟨g, 1, none⟩ v1).setCell ⟨g, 2, none⟩ v2).setCell ⟨g, 3, none⟩ v3).setCell ⟨g, 4, none⟩ v4).setCell ⟨g, 5, none⟩ v5).setCell ⟨g, 6, none⟩ v6).setCell ⟨g, 7, none⟩ v7).setCell ⟨g, 8, none⟩ v8).setCell ⟨g, 9, none⟩ v9).setCell ⟨h, 0, none⟩ u).heap.size = X.heap.size ∧ (∀ k, k ≠ g → k ≠ h → (((((((((((X.setCell ⟨g, 0, none⟩ v0).setCell ⟨g, 1, none⟩ v1).setCell ⟨g, 2, none⟩ v2).setCell ⟨g, 3, none⟩ v3).setCell ⟨g, 4, none⟩ v4).setCell ⟨g, 5, none⟩ v5).setCell ⟨g, 6, none⟩ v6).setCell ⟨g, 7, none⟩ v7).setCell ⟨g, 8, none⟩ v8).setCell ⟨g, 9, none⟩ v9).setCell ⟨h, 0, none⟩ u).heap[k]? = X.heap[k]?) := by
 have k0 : (X.setCell ⟨g, 0, none⟩ v0).heap[g]? = some (.cells #[v0, a1, a2, a3, a4, a5, a6, a7, a8, a9] 35 (0, 0)) := heap_setCell_same _ g 0 _ _ v0 hg
 have k1 : ((X.setCell ⟨g, 0, none⟩ v0).setCell ⟨g, 1, none⟩ v1).heap[g]? = some (.cells #[v0, v1, a2, a3, a4, a5, a6, a7, a8, a9] 35 (0, 0)) := heap_setCell_same _ g 1 _ _ v1 k0
 have k2 : (((X.setCell ⟨g, 0, none⟩ v0).setCell ⟨g, 1, none⟩ v1).setCell ⟨g, 2, none⟩ v2).heap[g]? = some (.cells #[v0, v1, v2, a3, a4, a5, a6, a7, a8, a9] 35 (0, 0)) := heap_setCell_same _ g 2 _ _ v2 k1
 have k3 : ((((X.setCell ⟨g, 0, none⟩ v0).setCell ⟨g, 1, none⟩ v1).setCell ⟨g, 2, none⟩ v2).setCell ⟨g, 3, none⟩ v3).heap[g]? = some (.cells #[v0, v1, v2, v3, a4, a5, a6, a7, a8, a9] 35 (0, 0)) := heap_setCell_same _ g 3 _ _ v3 k2
 have k4 : (((((X.setCell ⟨g, 0, none⟩ v0).setCell ⟨g, 1, none⟩ v1).setCell ⟨g, 2, none⟩ v2).setCell ⟨g, 3, none⟩ v3).setCell ⟨g, 4, none⟩ v4).heap[g]? = some (.cells #[v0, v1, v2, v3, v4, a5, a6, a7, a8, a9] 35 (0, 0)) := heap_setCell_same _ g 4 _ _ v4 k3
 have k5 : ((((((X.setCell ⟨g, 0, none⟩ v0).setCell ⟨g, 1, none⟩ v1).setCell ⟨g, 2, none⟩ v2).setCell ⟨g, 3, none⟩ v3).setCell ⟨g, 4, none⟩ v4).setCell ⟨g, 5, none⟩ v5).heap[g]? = some (.cells #[v0, v1, v2, v3, v4, v5, a6, a7, a8, a9] 35 (0, 0)) := heap_setCell_same _ g 5 _ _ v5 k4
 have k6 : (((((((X.setCell ⟨g, 0, none⟩ v0).setCell ⟨g, 1, none⟩ v1).setCell ⟨g, 2, none⟩ v2).setCell ⟨g, 3, none⟩ v3).setCell ⟨g, 4, none⟩ v4).setCell ⟨g, 5, none⟩ v5).setCell ⟨g, 6, none⟩ v6).heap[g]? = some (.cells #[v0, v1, v2, v3, v4, v5, v6, a7, a8, a9] 35 (0, 0)) := heap_setCell_same _ g 6 _ _ v6 k5
 have k7 : ((((((((X.setCell ⟨g, 0, none⟩ v0).setCell ⟨g, 1, none⟩ v1).setCell ⟨g, 2, none⟩ v2).setCell ⟨g, 3, none⟩ v3).setCell ⟨g, 4, none⟩ v4).setCell ⟨g, 5, none⟩ v5).setCell ⟨g, 6, none⟩ v6).setCell ⟨g, 7, none⟩ v7).heap[g]? = some (.cells #[v0, v1, v2, v3, v4, v5, v6, v7, a8, a9] 35 (0, 0)) := heap_setCell_same _ g 7 _ _ v7 k6
 have k8 : (((((((((X.setCell ⟨g, 0, none⟩ v0).setCell ⟨g, 1, none⟩ v1).setCell ⟨g, 2, none⟩ v2).setCell ⟨g, 3, none⟩ v3).setCell ⟨g, 4, none⟩ v4).setCell ⟨g, 5, none⟩ v5).setCell ⟨g, 6, none⟩ v6).setCell ⟨g, 7, none⟩ v7).setCell ⟨g, 8, none⟩ v8).heap[g]? = some (.cells #[v0, v1, v2, v3, v4, v5, v6, v7, v8, a9] 35 (0, 0)) := heap_setCell_same _ g 8 _ _ v8 k7
 have k9 : ((((((((((X.setCell ⟨g, 0, none⟩ v0).setCell ⟨g, 1, none⟩ v1).setCell ⟨g, 2, none⟩ v2).setCell ⟨g, 3, none⟩ v3).setCell ⟨g, 4, none⟩ v4).setCell ⟨g, 5, none⟩ v5).setCell ⟨g, 6, none⟩ v6).setCell ⟨g, 7, none⟩ v7).setCell ⟨g, 8, none⟩ v8).setCell ⟨g, 9, none⟩ v9).heap[g]? = some (.cells #[v0, v1, v2, v3, v4, v5, v6, v7, v8, v9] 35 (0, 0)) := heap_setCell_same _ g 9 _ _ v9 k8
 have l9 := (Below.heap_setCell _ ⟨g, 9, none⟩ v9 h (Ne.symm hne)).trans ((Below.heap_setCell _ ⟨g, 8, none⟩ v8 h (Ne.symm hne)).trans ((Below.heap_setCell _ ⟨g, 7, none⟩ v7 h (Ne.symm hne)).trans ((Below.heap_setCell _ ⟨g, 6, none⟩ v6 h (Ne.symm hne)).trans ((Below.heap_setCell _ ⟨g, 5, none⟩ v5 h (Ne.symm hne)).trans ((Below.heap_setCell _ ⟨g, 4, none⟩ v4 h (Ne.symm hne)).trans ((Below.heap_setCell _ ⟨g, 3, none⟩ v3 h (Ne.symm hne)).trans ((Below.heap_setCell _ ⟨g, 2, none⟩ v2 h (Ne.symm hne)).trans ((Below.heap_setCell _ ⟨g, 1, none⟩ v1 h (Ne.symm hne)).trans ((Below.heap_setCell _ ⟨g, 0, none⟩ v0 h (Ne.symm hne)).trans (hh))))))))))
 refine ⟨(Below.heap_setCell _ ⟨h, 0, none⟩ u g hne).trans k9, ?_, ?_, by simp, fun k n1 n2 => ?_⟩
 · rw [heap_setCell_same _ h 0 _ _ u l9]; rfl
 · refine Below.setCell (p := ⟨h, 0, none⟩) ?_ h2 _
   refine Below.setCell (p := ⟨g, 9, none⟩) ?_ h1 _
   refine Below.setCell (p := ⟨g, 8, none⟩) ?_ h1 _
   refine Below.setCell (p := ⟨g, 7, none⟩) ?_ h1 _
   refine Below.setCell (p := ⟨g, 6, none⟩) ?_ h1 _
   refine Below.setCell (p := ⟨g, 5, none⟩) ?_ h1 _
   refine Below.setCell (p := ⟨g, 4, none⟩) ?_ h1 _
   refine Below.setCell (p := ⟨g, 3, none⟩) ?_ h1 _
   refine Below.setCell (p := ⟨g, 2, none⟩) ?_ h1 _
   refine Below.setCell (p := ⟨g, 1, none⟩) ?_ h1 _
   refine Below.setCell (p := ⟨g, 0, none⟩) ?_ h1 _
   exact hB
 · refine (Below.heap_setCell _ ⟨h, 0, none⟩ u k n2).trans ?_
   refine (Below.heap_setCell _ ⟨g, 9, none⟩ v9 k n1).trans ?_
   refine (Below.heap_setCell _ ⟨g, 8, none⟩ v8 k n1).trans ?_
   refine (Below.heap_setCell _ ⟨g, 7, none⟩ v7 k n1).trans ?_
   refine (Below.heap_setCell _ ⟨g, 6, none⟩ v6 k n1).trans ?_
   refine (Below.heap_setCell _ ⟨g, 5, none⟩ v5 k n1).trans ?_
   refine (Below.heap_setCell _ ⟨g, 4, none⟩ v4 k n1).trans ?_
   refine (Below.heap_setCell _ ⟨g, 3, none⟩ v3 k n1).trans ?_
   refine (Below.heap_setCell _ ⟨g, 2, none⟩ v2 k n1).trans ?_
   refine (Below.heap_setCell _ ⟨g, 1, none⟩ v1 k n1).trans ?_
   exact Below.heap_setCell _ ⟨g, 0, none⟩ v0 k n1
theorem Yi (w : World) (o : Obj) : ∃ W0, w.alloc o = W0 ∧ W0.heap[w.heap.size]? = some o ∧ W0.heap.size = w.heap.size + 1 ∧ Below w.heap.size w W0 := ⟨_, rfl, zh _ _, by simp, zI w _⟩
theorem vJ {t : Tk} : ∀ {q : Option Cs} {l : List Cs}, kr t q l = 0 → ∀ c ∈ l, (c.inp.length : Int) = t.n
 | _, [], _, c, hc => by cases hc
 | q, d :: l, h, c, hc => by
  rw [kr] at h
  split at h
  · rename_i h1; exact absurd h h1
  · rename_i h1
    rcases List.mem_cons.1 hc with rfl | hc
    · have h2 : qm t q c = 0 := by simpa using h1
      unfold qm at h2
      split at h2
      · rename_i h3; exact absurd h2 h3
      · rename_i h3
        have h4 : zz c.inp t.n t.ins = 0 := by simpa using h3
        unfold zz at h4
        split at h4
        · cases h4
        · rename_i h5; simpa using h5
    · exact vJ h c hc
theorem YT {t : Tk} (h : yQ t = 0) : ∀ c ∈ t.cases, (c.inp.length : Int) = t.n := by
 unfold yQ at h
 split at h
 · cases h
 · split at h
   · cases h
   · exact vJ (by unfold xa at h; rwa [List.drop_zero] at h)
theorem RowX.turnC {α : Type} {C : Ct α} (ok : CtOk C) {S : Nat → Prop} {w w' : World} {g : Nat} {xs : List α} (h : RowX C S w g xs) (hs : w.heap.size ≤ w'.heap.size) (hc : ∀ (k : Nat) (o : Obj), w.heap[k]? = some o → o.isCells = true → w'.heap[k]? = some o) : RowX C S w' g xs := by
 obtain ⟨arr, h1, h2⟩ := h
 refine ⟨arr, hc _ _ h1 rfl, fun i hi => ?_⟩
 obtain ⟨cs, h3, h4⟩ := h2 i hi
 exact ⟨cs, ok.keepC h3 (KeepC.of_cells _ hs hc), h4⟩
theorem OwnV.of_same {w w' : World} {base : Nat} {v : Value} {vs : List Vw} (h : OwnV w base v vs) (hk : ∀ k, v.ownBlock = some k → w'.heap[k]? = w.heap[k]?) : OwnV w' base v vs := by
 refine ⟨h.1, ?_⟩
 rcases h.2 with hn | ⟨g, cap, cur, hv, hb, hg, rest⟩
 · exact .inl hn
 · exact .inr ⟨g, cap, cur, hv, hb, (hk g (by rw [hv]; rfl)).trans hg, rest⟩
def RetSys (r : Sy × Int) (w : World) (e : Ending) (w' : World) : Prop := ∃ A kc SV ks AV kv AX kx, e = .returned (.tuple #[.agg (r.1.vs_ A kc SV ks AV kv AX kx), .int .i64 r.2]) ∧ SyAt w' w'.heap.size A SV AV AX r.1 ∧ r.1.vs.length ≤ kv ∧ kv ≤ maxLen ∧ Below w.heap.size w w'
theorem RetSys.zero {w W : World} (n : Int) (h : Below w.heap.size w W) : RetSys (ql, n) w (.returned (.tuple #[.agg #[.int .i64 0, .int .i64 0, .int .i64 0, .slice none 0 0, .int .i64 0, .slice none 0 0, .int .i64 0, .int .i64 0, .slice none 0 0, .slice none 0 0], .int .i64 n])) W :=
 ⟨none, 0, none, 0, none, 0, none, 0, rfl, ⟨CAt.nil _ _ _, SAt.nil _ _ _, fun h => absurd h (by simp [ql]), XAt.nil _ _ _⟩, Nat.le_refl _, Nat.zero_le _, h⟩
def RetSysF (L0 B0 : Nat) (r : Sy × Int) (w : World) (e : Ending) (w' : World) : Prop := ∃ A kc SV ks AV kv AX kx, e = .returned (.tuple #[.agg (r.1.vs_ A kc SV ks AV kv AX kx), .int .i64 r.2]) ∧
 (∀ W' : World, w'.heap.size ≤ W'.heap.size → (∀ k, ((L0 ≤ k ∧ k < B0) ∨ w.heap.size ≤ k) → k < w'.heap.size → W'.heap[k]? = w'.heap[k]?) → SyAt W' W'.heap.size A SV AV AX r.1) ∧ r.1.vs.length ≤ kv ∧ kv ≤ maxLen ∧ Below w.heap.size w w'
theorem RetSysF.zero {L0 B0 : Nat} {w W : World} (n : Int) (h : Below w.heap.size w W) : RetSysF L0 B0 (ql, n) w (.returned (.tuple #[.agg #[.int .i64 0, .int .i64 0, .int .i64 0, .slice none 0 0, .int .i64 0, .slice none 0 0, .int .i64 0, .int .i64 0, .slice none 0 0, .slice none 0 0], .int .i64 n])) W :=
 ⟨none, 0, none, 0, none, 0, none, 0, rfl, fun W' _ _ => ⟨CAt.nil _ _ _, SAt.nil _ _ _, fun h => absurd h (by simp [ql]), XAt.nil _ _ _⟩, Nat.le_refl _, Nat.zero_le _, h⟩
theorem RetSysF.sys {L0 B0 : Nat} {r : Sy × Int} {w W : World} {e : Ending} (h : RetSysF L0 B0 r w e W) : RetSys r w e W := by
 obtain ⟨A, kc, SV, ks, AV, kv, AX, kx, he, h1, h2, h3, h4⟩ := h
 exact ⟨A, kc, SV, ks, AV, kv, AX, kx, he, h1 W (Nat.le_refl _) (fun _ _ _ => rfl), h2, h3, h4⟩
set_option maxRecDepth 100000 in
theorem Zf (p : Pb) (hf : xb p) (A : Option Addr) (kc : Nat) (SV : Option Addr) (ks : Nat) (w : World) (L0 B0 : Nat) (hB0 : B0 ≤ w.heap.size) (hA1 : CAt w B0 A p.t.cases) (hS1 : SAt w B0 SV p.a.sts) (hA0 : CAtL L0 B0 w A p.t.cases) (hS0 : SAtL L0 B0 w SV p.a.sts) :
  Calls Tryz.prog 79 #[.agg (p.vs A kc SV ks)] w (RetSysF L0 B0 (zQ p) w) := by
 have hA := hA1.more hB0
 have hS := hS1.more hB0
 have HA0 := zH hA0
 have HS0 := zH hS0
 clear hA0 hS0 hA1 hS1
 have HCN := zH (fun (W : World) (h1 : CAt W W.heap.size A p.t.cases) (h2 : SAt W W.heap.size SV p.a.sts) => QZ p hf.1 A kc SV ks W h1 h2)
 have HE1 := zH (@xv p)
 have HE2 := zH (@xC p)
 have HE3 := zH (@qw p)
 have HFX := zH hf
 obtain ⟨w1, hw1, d0, d1, d2, hsz, hBw⟩ := kC w (p.vs A kc SV ks) #[.int .i64 0, .int .i64 0, .int .i64 0, .slice none 0 0, .int .i64 0, .slice none 0 0, .int .i64 0, .int .i64 0, .slice none 0 0, .slice none 0 0] #[.int .i64 0] 29 35 39
 have HA := zH hA
 have HS := zH hS
 have HBW := zH hBw
 have HD0 := zH d0
 have HD1 := zH d1
 have HD2 := zH d2
 have HCO := HCN.out w1 ((hA.keep hBw).more hBw.size) ((hS.keep hBw).more hBw.size)
 have HCO := zH HCO
 unfold Pb.vs at hw1 d0 HCO ⊢
 have q0 := za d0 0 rfl
 have q1 := za d0 1 rfl
 have q2 := za d0 2 rfl
 have q3 := za d0 3 rfl
 have q4 := za d0 4 rfl
 have q5 := za d0 5 rfl
 have q6 := za d0 6 rfl
 have HW1 := zH hw1
 clear hw1 d0 d1 d2 hBw hA hS hf HCN
 refine yq Tryz.func79 rfl ?_
 simp only [Tryz.ntmps79, List.size_toArray, List.length_cons, List.length_nil, Nat.reduceAdd, Nat.reduceSub, Array.replicate_succ, Array.replicate_zero, List.push_toArray, List.append_toArray, List.nil_append, List.cons_append]
 go_wp2_with fail
 rw [HW1.out]
 go_wp2_with fail
 refine HCO.out.mono ?_
 rintro e w2 ⟨rfl, hb2⟩
 clear HCO HW1 q0 q1 q2 q3 q4 q5 q6
 have D0 := zH ((hb2.block _ (zd HD0.out)).trans HD0.out)
 have D1 := zH ((hb2.block _ (zd HD1.out)).trans HD1.out)
 have D2 := zH ((hb2.block _ (zd HD2.out)).trans HD2.out)
 have B2 := zH (HBW.out.trans (hb2.mono (by omega)))
 have hsz2 := hb2.size
 clear hb2
 by_cases hpe : zJ p = 0
 case neg =>
  have hce : vf p = (0, zJ p) := if_pos hpe
  rw [hce, HE1.out hpe]
  have e0 : (zJ p != 0) = true := by simpa using hpe
  obtain ⟨pe, hpe2⟩ : ∃ pe, zJ p = pe := ⟨_, rfl⟩
  rw [hpe2] at e0 ⊢
  have x0 : w2.cell? ⟨w.heap.size + 1, 0, none⟩ = some (.int .i64 0) := za D1.out 0 rfl
  have f0 := zb D1.out 0
  have x1 : w2.cell? ⟨w.heap.size + 1, 1, none⟩ = some (.int .i64 0) := za D1.out 1 rfl
  have f1 := zb D1.out 1
  have x2 : w2.cell? ⟨w.heap.size + 1, 2, none⟩ = some (.int .i64 0) := za D1.out 2 rfl
  have f2 := zb D1.out 2
  have x3 : w2.cell? ⟨w.heap.size + 1, 3, none⟩ = some (.slice none 0 0) := za D1.out 3 rfl
  have f3 := zb D1.out 3
  have x4 : w2.cell? ⟨w.heap.size + 1, 4, none⟩ = some (.int .i64 0) := za D1.out 4 rfl
  have f4 := zb D1.out 4
  have x5 : w2.cell? ⟨w.heap.size + 1, 5, none⟩ = some (.slice none 0 0) := za D1.out 5 rfl
  have f5 := zb D1.out 5
  have x6 : w2.cell? ⟨w.heap.size + 1, 6, none⟩ = some (.int .i64 0) := za D1.out 6 rfl
  have f6 := zb D1.out 6
  have x7 : w2.cell? ⟨w.heap.size + 1, 7, none⟩ = some (.int .i64 0) := za D1.out 7 rfl
  have f7 := zb D1.out 7
  have x8 : w2.cell? ⟨w.heap.size + 1, 8, none⟩ = some (.slice none 0 0) := za D1.out 8 rfl
  have f8 := zb D1.out 8
  have x9 : w2.cell? ⟨w.heap.size + 1, 9, none⟩ = some (.slice none 0 0) := za D1.out 9 rfl
  have f9 := zb D1.out 9
  have y0 : w2.cell? ⟨w.heap.size + 1 + 1, 0, none⟩ = some (.int .i64 0) := za D2.out 0 rfl
  have g0 := zb D2.out 0
  go_wp2_with fail
  obtain ⟨k1, k2, k3, _, _⟩ := jv (.int .i64 0) (.int .i64 0) (.int .i64 0) (.slice none 0 0) (.int .i64 0) (.slice none 0 0) (.int .i64 0) (.int .i64 0) (.slice none 0 0) (.slice none 0 0) (.int .i64 pe) D1.out D2.out (by omega) B2.out (by omega : w.heap.size ≤ w.heap.size + 1) (by omega : w.heap.size ≤ w.heap.size + 1 + 1)
  refine yN (B := w.heap.size) (Marks.nil _ _) ?_
  intro W hX
  have c0 : W.cell? ⟨w.heap.size + 1, 0, none⟩ = some (.int .i64 0) := hX.cell (za k1 0 rfl)
  have c1 : W.cell? ⟨w.heap.size + 1, 1, none⟩ = some (.int .i64 0) := hX.cell (za k1 1 rfl)
  have c2 : W.cell? ⟨w.heap.size + 1, 2, none⟩ = some (.int .i64 0) := hX.cell (za k1 2 rfl)
  have c3 : W.cell? ⟨w.heap.size + 1, 3, none⟩ = some (.slice none 0 0) := hX.cell (za k1 3 rfl)
  have c4 : W.cell? ⟨w.heap.size + 1, 4, none⟩ = some (.int .i64 0) := hX.cell (za k1 4 rfl)
  have c5 : W.cell? ⟨w.heap.size + 1, 5, none⟩ = some (.slice none 0 0) := hX.cell (za k1 5 rfl)
  have c6 : W.cell? ⟨w.heap.size + 1, 6, none⟩ = some (.int .i64 0) := hX.cell (za k1 6 rfl)
  have c7 : W.cell? ⟨w.heap.size + 1, 7, none⟩ = some (.int .i64 0) := hX.cell (za k1 7 rfl)
  have c8 : W.cell? ⟨w.heap.size + 1, 8, none⟩ = some (.slice none 0 0) := hX.cell (za k1 8 rfl)
  have c9 : W.cell? ⟨w.heap.size + 1, 9, none⟩ = some (.slice none 0 0) := hX.cell (za k1 9 rfl)
  have c10 : W.cell? ⟨w.heap.size + 1 + 1, 0, none⟩ = some (.int .i64 pe) := hX.cell (za k2 0 rfl)
  have hR := RetSysF.zero (L0 := L0) (B0 := B0) pe (k3.trans hX.below)
  rw [HE1.out hpe, hpe2]
  exact ⟨_, by simp [results, Tryz.results79, go_sem, c0, c1, c2, c3, c4, c5, c6, c7, c8, c9, c10], hR⟩
 case pos =>
 have hce : vf p = jE 1048576 (zP p) := if_neg (by simpa using hpe)
 rw [hce]
 by_cases hT : 4096 < zP p
 case pos =>
  have HB := zH (HE2.out hpe hT)
  by_cases hT2 : 1048576 < zP p
  case pos =>
   have hcu : jE 1048576 (zP p) = (0, 17) := if_pos hT2
   rw [hcu]
   clear HE1 HE2 HE3 hce hT hT2 hcu HFX hpe
   have x0 : w2.cell? ⟨w.heap.size + 1, 0, none⟩ = some (.int .i64 0) := za D1.out 0 rfl
   have f0 := zb D1.out 0
   have x1 : w2.cell? ⟨w.heap.size + 1, 1, none⟩ = some (.int .i64 0) := za D1.out 1 rfl
   have f1 := zb D1.out 1
   have x2 : w2.cell? ⟨w.heap.size + 1, 2, none⟩ = some (.int .i64 0) := za D1.out 2 rfl
   have f2 := zb D1.out 2
   have x3 : w2.cell? ⟨w.heap.size + 1, 3, none⟩ = some (.slice none 0 0) := za D1.out 3 rfl
   have f3 := zb D1.out 3
   have x4 : w2.cell? ⟨w.heap.size + 1, 4, none⟩ = some (.int .i64 0) := za D1.out 4 rfl
   have f4 := zb D1.out 4
   have x5 : w2.cell? ⟨w.heap.size + 1, 5, none⟩ = some (.slice none 0 0) := za D1.out 5 rfl
   have f5 := zb D1.out 5
   have x6 : w2.cell? ⟨w.heap.size + 1, 6, none⟩ = some (.int .i64 0) := za D1.out 6 rfl
   have f6 := zb D1.out 6
   have x7 : w2.cell? ⟨w.heap.size + 1, 7, none⟩ = some (.int .i64 0) := za D1.out 7 rfl
   have f7 := zb D1.out 7
   have x8 : w2.cell? ⟨w.heap.size + 1, 8, none⟩ = some (.slice none 0 0) := za D1.out 8 rfl
   have f8 := zb D1.out 8
   have x9 : w2.cell? ⟨w.heap.size + 1, 9, none⟩ = some (.slice none 0 0) := za D1.out 9 rfl
   have f9 := zb D1.out 9
   have y0 : w2.cell? ⟨w.heap.size + 1 + 1, 0, none⟩ = some (.int .i64 0) := za D2.out 0 rfl
   have g0 := zb D2.out 0
   go_wp2_with fail
   obtain ⟨k1, k2, k3, _, _⟩ := jv (.int .i64 0) (.int .i64 0) (.int .i64 0) (.slice none 0 0) (.int .i64 0) (.slice none 0 0) (.int .i64 0) (.int .i64 0) (.slice none 0 0) (.slice none 0 0) (.int .i64 17) D1.out D2.out (by omega) B2.out (by omega : w.heap.size ≤ w.heap.size + 1) (by omega : w.heap.size ≤ w.heap.size + 1 + 1)
   refine yN (B := w.heap.size) (Marks.nil _ _) ?_
   intro W hX
   have c0 : W.cell? ⟨w.heap.size + 1, 0, none⟩ = some (.int .i64 0) := hX.cell (za k1 0 rfl)
   have c1 : W.cell? ⟨w.heap.size + 1, 1, none⟩ = some (.int .i64 0) := hX.cell (za k1 1 rfl)
   have c2 : W.cell? ⟨w.heap.size + 1, 2, none⟩ = some (.int .i64 0) := hX.cell (za k1 2 rfl)
   have c3 : W.cell? ⟨w.heap.size + 1, 3, none⟩ = some (.slice none 0 0) := hX.cell (za k1 3 rfl)
   have c4 : W.cell? ⟨w.heap.size + 1, 4, none⟩ = some (.int .i64 0) := hX.cell (za k1 4 rfl)
   have c5 : W.cell? ⟨w.heap.size + 1, 5, none⟩ = some (.slice none 0 0) := hX.cell (za k1 5 rfl)
   have c6 : W.cell? ⟨w.heap.size + 1, 6, none⟩ = some (.int .i64 0) := hX.cell (za k1 6 rfl)
   have c7 : W.cell? ⟨w.heap.size + 1, 7, none⟩ = some (.int .i64 0) := hX.cell (za k1 7 rfl)
   have c8 : W.cell? ⟨w.heap.size + 1, 8, none⟩ = some (.slice none 0 0) := hX.cell (za k1 8 rfl)
   have c9 : W.cell? ⟨w.heap.size + 1, 9, none⟩ = some (.slice none 0 0) := hX.cell (za k1 9 rfl)
   have c10 : W.cell? ⟨w.heap.size + 1 + 1, 0, none⟩ = some (.int .i64 17) := hX.cell (za k2 0 rfl)
   have hR := RetSysF.zero (L0 := L0) (B0 := B0) 17 (k3.trans hX.below)
   rw [HB.out]
   exact ⟨_, by simp [results, Tryz.results79, go_sem, c0, c1, c2, c3, c4, c5, c6, c7, c8, c9, c10], hR⟩
  case neg =>
   have hcu : jE 1048576 (zP p) = ((zP p : Int), 0) := if_neg hT2
   rw [hcu]
   obtain ⟨T, hTT⟩ : ∃ T, zP p = T := ⟨_, rfl⟩
   rw [hTT] at hT hT2 ⊢
   have hT3 : (4096 : Int) < (T : Int) := by omega
   clear HE1 HE2 HE3 hce hcu HFX hpe hTT
   have x0 : w2.cell? ⟨w.heap.size + 1, 0, none⟩ = some (.int .i64 0) := za D1.out 0 rfl
   have f0 := zb D1.out 0
   have x1 : w2.cell? ⟨w.heap.size + 1, 1, none⟩ = some (.int .i64 0) := za D1.out 1 rfl
   have f1 := zb D1.out 1
   have x2 : w2.cell? ⟨w.heap.size + 1, 2, none⟩ = some (.int .i64 0) := za D1.out 2 rfl
   have f2 := zb D1.out 2
   have x3 : w2.cell? ⟨w.heap.size + 1, 3, none⟩ = some (.slice none 0 0) := za D1.out 3 rfl
   have f3 := zb D1.out 3
   have x4 : w2.cell? ⟨w.heap.size + 1, 4, none⟩ = some (.int .i64 0) := za D1.out 4 rfl
   have f4 := zb D1.out 4
   have x5 : w2.cell? ⟨w.heap.size + 1, 5, none⟩ = some (.slice none 0 0) := za D1.out 5 rfl
   have f5 := zb D1.out 5
   have x6 : w2.cell? ⟨w.heap.size + 1, 6, none⟩ = some (.int .i64 0) := za D1.out 6 rfl
   have f6 := zb D1.out 6
   have x7 : w2.cell? ⟨w.heap.size + 1, 7, none⟩ = some (.int .i64 0) := za D1.out 7 rfl
   have f7 := zb D1.out 7
   have x8 : w2.cell? ⟨w.heap.size + 1, 8, none⟩ = some (.slice none 0 0) := za D1.out 8 rfl
   have f8 := zb D1.out 8
   have x9 : w2.cell? ⟨w.heap.size + 1, 9, none⟩ = some (.slice none 0 0) := za D1.out 9 rfl
   have f9 := zb D1.out 9
   have y0 : w2.cell? ⟨w.heap.size + 1 + 1, 0, none⟩ = some (.int .i64 0) := za D2.out 0 rfl
   have g0 := zb D2.out 0
   go_wp2_with fail
   obtain ⟨k1, k2, k3, _, _⟩ := jv (.int .i64 0) (.int .i64 0) (.int .i64 0) (.slice none 0 0) (.int .i64 0) (.slice none 0 0) (.int .i64 0) (.int .i64 0) (.slice none 0 0) (.slice none 0 0) (.int .i64 17) D1.out D2.out (by omega) B2.out (by omega : w.heap.size ≤ w.heap.size + 1) (by omega : w.heap.size ≤ w.heap.size + 1 + 1)
   refine yN (B := w.heap.size) (Marks.nil _ _) ?_
   intro W hX
   have c0 : W.cell? ⟨w.heap.size + 1, 0, none⟩ = some (.int .i64 0) := hX.cell (za k1 0 rfl)
   have c1 : W.cell? ⟨w.heap.size + 1, 1, none⟩ = some (.int .i64 0) := hX.cell (za k1 1 rfl)
   have c2 : W.cell? ⟨w.heap.size + 1, 2, none⟩ = some (.int .i64 0) := hX.cell (za k1 2 rfl)
   have c3 : W.cell? ⟨w.heap.size + 1, 3, none⟩ = some (.slice none 0 0) := hX.cell (za k1 3 rfl)
   have c4 : W.cell? ⟨w.heap.size + 1, 4, none⟩ = some (.int .i64 0) := hX.cell (za k1 4 rfl)
   have c5 : W.cell? ⟨w.heap.size + 1, 5, none⟩ = some (.slice none 0 0) := hX.cell (za k1 5 rfl)
   have c6 : W.cell? ⟨w.heap.size + 1, 6, none⟩ = some (.int .i64 0) := hX.cell (za k1 6 rfl)
   have c7 : W.cell? ⟨w.heap.size + 1, 7, none⟩ = some (.int .i64 0) := hX.cell (za k1 7 rfl)
   have c8 : W.cell? ⟨w.heap.size + 1, 8, none⟩ = some (.slice none 0 0) := hX.cell (za k1 8 rfl)
   have c9 : W.cell? ⟨w.heap.size + 1, 9, none⟩ = some (.slice none 0 0) := hX.cell (za k1 9 rfl)
   have c10 : W.cell? ⟨w.heap.size + 1 + 1, 0, none⟩ = some (.int .i64 17) := hX.cell (za k2 0 rfl)
   have hR := RetSysF.zero (L0 := L0) (B0 := B0) 17 (k3.trans hX.below)
   rw [HB.out]
   exact ⟨_, by simp [results, Tryz.results79, go_sem, c0, c1, c2, c3, c4, c5, c6, c7, c8, c9, c10], hR⟩
 case neg =>
 have hcu : jE 1048576 (zP p) = ((zP p : Int), 0) := if_neg (by omega)
 rw [hcu]
 have HB := zH (HE3.out hpe (by omega))
 have h60 : zP p ≤ 60 := by have := HFX.out.2 hpe; omega
 obtain ⟨hpt, hpa, hpn, hpk0, hpk6⟩ := zO hpe
 obtain ⟨K, hK⟩ := Int.eq_ofNat_of_zero_le hpk0
 obtain ⟨hcs1, hn1, hn5⟩ := yB hpt
 have hK6 : K ≤ 6 := by omega
 have hexT : zP p = zN p.a K 0 * p.t.cases.length := by unfold zP; rw [hK]; rfl
 have hcnt : zN p.a K 0 ≤ 60 := by
  have := Nat.le_mul_of_pos_right (zN p.a K 0) hcs1
  omega
 have hbel := B2.out
 have HWO := zH (JS p.a HFX.out.1.2 hpa K (by omega) (by omega) SV ks w2 ((HS.out.keep hbel).more hbel.size))
 have HKE := zH hK
 obtain ⟨T, hTT⟩ : ∃ T, zP p = T := ⟨_, rfl⟩
 rw [hTT] at h60 hexT ⊢
 have HTT := zH hTT
 have HEX := zH hexT
 have hT3 : ¬ (4096 : Int) < (T : Int) := by omega
 have q4 := za D0.out 4 rfl
 have q5 := za D0.out 5 rfl
 have q6 : w2.cell? ⟨w.heap.size, 6, none⟩ = some (.int .i64 (K : Int)) := by rw [← hK]; exact za D0.out 6 rfl
 obtain ⟨N, hN⟩ := Int.eq_ofNat_of_zero_le (show 0 ≤ p.t.n by omega)
 have HNN := zH hN
 have HPA := zH hpa
 have HPN := zH hpn
 have HTI := zH (YT hpt)
 clear HE1 HE2 HE3 hce hcu hT hTT hexT hK hpe hpt hpa hpn hpk0 hpk6 hbel hN
 go_wp2_with fail
 refine HWO.out.mono ?_
 rintro e w3 ⟨AW, cw, rfl, hW3, hb3⟩
 clear q4 q5 q6 HWO
 have hsz3 := hb3.size
 have D03 := zH ((hb3.block _ (zd D0.out)).trans D0.out)
 have D13 := zH ((hb3.block _ (zd D1.out)).trans D1.out)
 have D23 := zH ((hb3.block _ (zd D2.out)).trans D2.out)
 have B3 := zH (B2.out.trans (hb3.mono (by omega)))
 have HW3 := zH hW3
 have hs1 := (yR HFX.out.1.2 HPA.out).2.1
 have HCP := zH (Q1 p HFX.out.1 hcs1 hs1 A kc SV ks w3 L0 B0 (Nat.le_trans hB0 B3.out.size) (HA0.out.keep (B3.out.mono hB0)) (HS0.out.keep (B3.out.mono hB0)))
 unfold Pb.vs at HCP
 have q0 := za D03.out 0 rfl
 have q1 := za D03.out 1 rfl
 have q2 := za D03.out 2 rfl
 have q3 := za D03.out 3 rfl
 have q4 := za D03.out 4 rfl
 have q5 := za D03.out 5 rfl
 have q6 := za D03.out 6 rfl
 clear hb3 hW3 D0 D1 D2 B2
 go_wp2_with fail
 refine HCP.out.mono ?_
 rintro e w4 ⟨g4, kc4, gm4, ks4, rfl, hA4, hS4, hg4, hgm4, hb4⟩
 obtain ⟨A4, hA4e⟩ : ∃ A4 : Option Addr, A4 = some ⟨g4, 0, none⟩ := ⟨_, rfl⟩
 obtain ⟨SV4, hS4e⟩ : ∃ S4 : Option Addr, S4 = some ⟨gm4, 0, none⟩ := ⟨_, rfl⟩
 rw [← hA4e, ← hS4e]
 have HA4e := zH hA4e
 have HS4e := zH hS4e
 clear hA4e hS4e
 have hsz4 := hb4.size
 have D04 := zH ((hb4.block _ (zd D03.out)).trans D03.out)
 have D14 := zH ((hb4.block _ (zd D13.out)).trans D13.out)
 have D24 := zH ((hb4.block _ (zd D23.out)).trans D23.out)
 have B4 := zH (B3.out.trans (hb4.mono (by omega)))
 have HA4 := zH hA4
 have HS4 := zH hS4
 have HW4 := zH ((HW3.out.keep hb4).more hb4.size)
 unfold Pb.vs
 have p0 : w4.cell? ⟨w.heap.size, 0, none⟩ = some (.int .i64 p.t.n) := za D04.out 0 rfl
 have p1 : w4.cell? ⟨w.heap.size, 1, none⟩ = some (.int .i64 p.t.ins) := za D04.out 1 rfl
 have p2 : w4.cell? ⟨w.heap.size, 2, none⟩ = some (.int .i64 p.t.outs) := za D04.out 2 rfl
 have p3 : w4.cell? ⟨w.heap.size, 3, none⟩ = some (.slice A p.t.cases.length kc) := za D04.out 3 rfl
 have p4 : w4.cell? ⟨w.heap.size, 4, none⟩ = some (.int .i64 p.a.n) := za D04.out 4 rfl
 have p5 : w4.cell? ⟨w.heap.size, 5, none⟩ = some (.slice SV p.a.sts.length ks) := za D04.out 5 rfl
 have p6 : w4.cell? ⟨w.heap.size, 6, none⟩ = some (.int .i64 p.k) := za D04.out 6 rfl
 have hw4 : w.heap.size < w4.heap.size := by omega
 clear hA4 hS4 hb4 q0 q1 q2 q3 q4 q5 q6 HCP D03 D13 D23 HW3
 have hmm := @run_makeMap Tryz.prog
 have hwa : w.heap.size < w4.heap.size + 1 := by omega
 have hwb : w.heap.size < w4.heap.size + 1 + 1 := by omega
 have hwc : w.heap.size < w4.heap.size + 1 + 1 + 1 := by omega
 have hwd : w.heap.size < w4.heap.size + 1 + 1 + 1 + 1 := by omega
 go_wp2_with fail
 obtain ⟨W5, hW5, x5, hs5, hB5⟩ := Yi w4 (.cells #[.int .i64 p.t.n, .int .i64 p.t.ins, .int .i64 p.t.outs, .slice A4 p.t.cases.length kc4, .int .i64 p.a.n, .slice SV4 p.a.sts.length ks4, .int .i64 p.k, .int .i64 0, .slice none 0 0, .slice none 0 0] 35)
 rw [hW5]
 obtain ⟨W6, hW6, x6, hs6, hB6⟩ := Yi W5 (.map #[] 0)
 rw [hW6]
 obtain ⟨W7, hW7, x7, hs7, hB7⟩ := Yi W6 (.cells #[.int .i64 p.t.n, .slice none 0 0, .map (some (w4.heap.size + 1))] 216)
 rw [hW7]
 obtain ⟨W8, hW8, x8, hs8, hB8⟩ := Yi W7 (.cells #[.pointer (some ⟨w4.heap.size + 1 + 1, 0, none⟩)] 213)
 rw [hW8]
 have hm0 : MapOf (fun v : Vw => .agg v.cells) W6 W5.heap.size 0 (vz []) := by rw [← hW6, numF_nil]; exact MapOf.made W5
 have hB48 : Below w4.heap.size w4 W8 := hB5.trans ((hB6.mono (by omega)).trans ((hB7.mono (by omega)).trans (hB8.mono (by omega))))
 have D08 := zH ((hB48.block _ (by omega)).trans D04.out)
 clear hW5 hW6 hW7 hW8 hmm p0 p1 p2 p3 p4 p5 p6 hwa hwb hwc hwd
 have hex := execs_any p A kc SV ks AW (zy p.a K 0).length cw W8
 unfold Pb.vs at hex
 refine hex.mono ?_
 rintro e W9 ⟨rfl, hW9⟩
 have hs9 : W9.heap.size = w4.heap.size + 6 := by rw [← hW9]; simp; omega
 have hB89 : Below W8.heap.size W8 W9 := by rw [← hW9]; exact vg W8 _ _
 have hB48 : Below w4.heap.size w4 W8 := hB5.trans ((hB6.mono (by omega)).trans ((hB7.mono (by omega)).trans (hB8.mono (by omega))))
 have hB49 : Below w4.heap.size w4 W9 := hB48.trans (hB89.mono (by omega))
 have hp9 : W9.heap[W8.heap.size]? = some (.cells (p.vs A kc SV ks) 29 (0, 0)) := by rw [← hW9]; exact ye (zh W8 _) _
 have hq9 : W9.heap[W8.heap.size + 1]? = some (.cells #[.slice AW (zy p.a K 0).length cw] 209 (0, 0)) := by
  rw [← hW9]
  have := zh (W8.alloc (.cells (p.vs A kc SV ks) 29)) (.cells #[.slice AW (zy p.a K 0).length cw] 209)
  rwa [World.size_alloc] at this
 have y5 := (hB89.block _ (by omega)).trans ((hB8.block _ (by omega)).trans ((hB7.block _ (by omega)).trans ((hB6.block _ (by omega)).trans x5)))
 have y7 := (hB89.block _ (by omega)).trans ((hB8.block _ (by omega)).trans x7)
 have y8 := (hB89.block _ (by omega)).trans x8
 have ym := ((hm0.same (hB7.block _ (by omega))).same (hB8.block _ (by omega))).same (hB89.block _ (by omega))
 rw [hs5] at ym
 rw [hs6, hs5] at y7
 rw [hs7, hs6, hs5] at y8
 have HY8 := zH y8
 have HP9 := zH hp9
 have h8e : W8.heap.size = w4.heap.size + 1 + 1 + 1 + 1 := by omega
 -- the words' slices
 obtain ⟨sl, hsl⟩ : ∃ sl : Nat → Value, sl = fun j => match AW with | some ad => (w4.cell? ⟨ad.block, ad.off + j, none⟩).getD undef | none => undef := ⟨_, rfl⟩
 have HSL : Hid (∀ (j : Nat) (hj : j < (zy p.a K 0).length), ∃ A' c, sl j = .slice A' (zy p.a K 0)[j].length c ∧ RAt w4 w4.heap.size A' (zy p.a K 0)[j]) := fun j hj => by
  obtain ⟨b, off, A', c, e, _, hc, hr⟩ := HW4.out.at_ j hj
  subst e
  refine ⟨A', c, ?_, hr⟩
  rw [hsl]
  show (w4.cell? ⟨b, off + j, none⟩).getD undef = _
  rw [hc]; rfl
 have hSl : SlAt w4 w4.heap.size AW (zy p.a K 0).length sl := fun j hj => by
  obtain ⟨b, off, A', c, e, hb, hc, hr⟩ := HW4.out.at_ j hj
  subst e
  refine ⟨b, off, rfl, hb, ?_⟩
  rw [hsl]
  show _ = some ((w4.cell? ⟨b, off + j, none⟩).getD undef)
  rw [hc]; rfl
 have hwl : (zy p.a K 0).length ≤ 60 := by rw [yo]; exact hcnt
 have HIT := zH (XO (p.vs A kc SV ks) p.t.cases.length HFX.out.1.1.1 A kc rfl AW (zy p.a K 0).length cw (by omega) sl w4.heap.size W8.heap.size (W8.heap.size + 1) W9 hp9 hq9 (hSl.same fun k hk => hB49.block k hk) hB49.size)
 obtain ⟨SC, hSC⟩ : ∃ SC : Value → Array Value, SC = fun E => #[.int .i64 p.t.n, .int .i64 p.t.ins, .int .i64 p.t.outs, .slice A4 p.t.cases.length kc4, .int .i64 p.a.n, .slice SV4 p.a.sts.length ks4, .int .i64 p.k, .int .i64 0, .slice none 0 0, E] := ⟨_, rfl⟩
 have H0 : Hid (BlIn p W9.heap.size w4.heap.size (w4.heap.size + 1 + 1) (w4.heap.size + 1) w4.heap.size SC W9 [] (.slice none 0 0) (.slice none 0 0) W9) :=
  ⟨Wrote.refl _ _, ⟨y7, ⟨0, ym⟩, OwnV.nil _ _, fun k e => (by cases e), by omega, by omega, by omega⟩, by rw [hSC]; exact y5, OwnX.nil _ _ _ _, fun k e => (by cases e)⟩
 have HBB : Hid (BlB W9.heap.size w4.heap.size (w4.heap.size + 1 + 1) (w4.heap.size + 1) w4.heap.size W9) := ⟨rfl, by omega, by omega, by omega, ⟨by omega, by omega, by omega⟩, by omega, by omega⟩
 have HSC := zH hSC
 have HB49 := zH hB49
 have HQ9 := zH hq9
 clear hex hW9 hB89 hB48 hB49 hp9 hq9 y5 y7 y8 ym hsl hSl hSC hm0 x5 x6 x7 x8 hB5 hB6 hB7 hB8
 rw [h8e]
 rw [h8e] at HIT HP9 HQ9
 go_wp2_with fail
 refine YO rfl (enters_of Tryz.func172 (by kernel_rfl) rfl) HIT.out (by rintro k (h | rfl | rfl) <;> omega) (fun _ => rfl)
  (fun (pre : List { x : Nat × Nat // x ∈ zg (zy p.a K 0).length 0 p.t.cases.length }) (X : World) => ∃ V E, BlIn p W9.heap.size w4.heap.size (w4.heap.size + 1 + 1) (w4.heap.size + 1) w4.heap.size SC W9 (jC (zy p.a K 0) (pre.map (·.1))) V E X)
  (fun _ _ _ => False) ?hI (fun _ _ _ _ _ h _ _ => h) ⟨_, _, H0.out⟩ ?a1 ?assign ?body ?done ?stop
 case hI =>
  rintro s X X' row ⟨V, E, h⟩ hg hr
  exact ⟨V, E, h.turn HBB.out hg hr⟩
 case assign =>
  intro l x X K' hK
  gi_wp2
  exact hK
 case body =>
  rintro l pre x X ⟨V, E, hI⟩ hlt
  obtain ⟨hx0, hx1, hx2⟩ := qK _ _ _ x.2
  have hb49 := HB49.out
  have hbX := hI.bel HBB.out
  have hbw : Below w.heap.size w X := B4.out.trans ((hb49.trans hbX).mono (by omega))
  have hM : x.1.1 < p.t.cases.length := by omega
  obtain ⟨bc, oc, A0, c0, A1, c1, A2, c2, eA, hbc, i0, _, _, I0, _, _⟩ := (HA.out.keep hbw).row x.1.1 hM
  subst eA
  obtain ⟨AL, cl_, esl, hRL⟩ := HSL.out x.1.2 hx2
  have hwm := List.getElem_mem (l := zy p.a K 0) hx2
  have hgd : (zy p.a K 0).getD x.1.2 [] = (zy p.a K 0)[x.1.2] := by rw [List.getD_eq_getElem?_getD, List.getElem?_eq_getElem hx2]; rfl
  have hinp : yL p x.1.1 = p.t.cases[x.1.1].inp := by unfold yL; rw [List.getD_eq_getElem?_getD, List.getElem?_eq_getElem hM]; rfl
  obtain ⟨word, hword⟩ : ∃ word, (zy p.a K 0)[x.1.2] = word := ⟨_, rfl⟩
  rw [hword] at esl hRL hwm hgd
  have hwk := yV p.a K 0 word hwm
  have HWM := zH (kB p.a K 0 word hwm)
  obtain ⟨AV, kv, rfl⟩ := hI.bd.own.lit
  obtain ⟨AE, ke, rfl, _, _, _⟩ := hI.out.form yP
  have HII := zH hI
  have hll : (jC (zy p.a K 0) (pre.map (·.1))).length = pre.length := by simp [jC]
  have hfew := wS p (by omega) (jC (zy p.a K 0) (pre.map (·.1))) (fun y hy => by
   obtain ⟨z, hz, rfl⟩ := List.mem_map.1 hy
   obtain ⟨z2, hz2, rfl⟩ := List.mem_map.1 hz
   have h2 := (qK _ _ _ z2.2).2.2
   have e2 : (zy p.a K 0).getD z2.1.2 [] = (zy p.a K 0)[z2.1.2] := by rw [List.getD_eq_getElem?_getD, List.getElem?_eq_getElem h2]; rfl
   show ((zy p.a K 0).getD z2.1.2 []).length ≤ 6
   rw [e2, yV p.a K 0 _ (List.getElem_mem h2)]
   exact hK6)
  rw [hll] at hfew
  have hpl : pre.length < 60 := by
   have h6 : (zg (zy p.a K 0).length 0 p.t.cases.length).length ≤ 60 := by
    rw [jb, yo, Nat.mul_comm]
    have := HEX.out
    omega
   omega
  obtain ⟨PL, hPL⟩ : ∃ PL, jC (zy p.a K 0) (pre.map (·.1)) = PL := ⟨_, rfl⟩
  have HPL0 := zH hPL
  rw [hPL] at hI HII hfew hll
  have hD9 := hI.big HBB.out
  have e7 : X.cell? ⟨w4.heap.size, 9, none⟩ = some (.slice AE (zu p PL).2.length ke) := za hI.sys 9 (by rw [HSC.out]; rfl)
  have f7 := zb hI.sys 9
  have e8 : X.cell? ⟨w4.heap.size + 1 + 1 + 1, 0, none⟩ = some (.pointer (some ⟨w4.heap.size + 1 + 1, 0, none⟩)) := za ((hI.same HBB.out (by omega) (by omega) (by omega) (by omega)).trans HY8.out) 0 rfl
  have e3 : X.cell? ⟨w.heap.size, 3, none⟩ = some (.slice (some ⟨bc, oc, none⟩) p.t.cases.length kc) := za ((hbX.block _ (by omega)).trans ((hb49.block _ (by omega)).trans D04.out)) 3 rfl
  have hI0 : ((x.1.1 : Nat) : Int) < (p.t.cases.length : Int) := by omega
  have hI1 : (0 : Int) ≤ ((x.1.1 : Nat) : Int) := by omega
  have HKP : Hid (∀ W, Below X.heap.size X W → W.cell? ⟨w4.heap.size, 9, none⟩ = some (.slice AE (zu p PL).2.length ke) ∧ W.cell? ⟨w4.heap.size + 1 + 1 + 1, 0, none⟩ = some (.pointer (some ⟨w4.heap.size + 1 + 1, 0, none⟩)) ∧ W.cell? ⟨w.heap.size, 3, none⟩ = some (.slice (some ⟨bc, oc, none⟩) p.t.cases.length kc) ∧ W.cell? ⟨bc, oc + x.1.1 * 3, none⟩ = some (.slice A0 p.t.cases[x.1.1].inp.length c0)) := fun W hW =>
   ⟨(hW.cell (p := ⟨w4.heap.size, 9, none⟩) (by show w4.heap.size < _; omega)).trans e7, (hW.cell (p := ⟨w4.heap.size + 1 + 1 + 1, 0, none⟩) (by show w4.heap.size + 1 + 1 + 1 < _; omega)).trans e8, (hW.cell (p := ⟨w.heap.size, 3, none⟩) (by show w.heap.size < _; omega)).trans e3, (hW.cell (p := ⟨bc, _, none⟩) (by show bc < _; omega)).trans i0⟩
  have HFEW := zH hfew
  have HWK := zH hwk
  have HGD := zH hgd
  have HINP := zH hinp
  have HI0 := zH I0
  have HRL := zH hRL
  have HBX := zH hbX
  clear hI hbX hbw hgd hinp hwk hfew hll hword hwm I0 hRL hPL
  try dsimp only
  rw [esl]
  gi_wp2_with fail
  refine yY [(0, true), (1, true), (2, true), (3, true), (5, true), (6, true), (7, true), (8, true), (9, true), (10, true), (11, true), (12, true), (13, true), (4, false), (14, false), (15, false), (16, false), (17, false), (18, false), (19, false)]
   (fun W => W.cell? ⟨w4.heap.size, 9, none⟩ = some (.slice AE (zu p PL).2.length ke) ∧ W.cell? ⟨w4.heap.size + 1 + 1 + 1, 0, none⟩ = some (.pointer (some ⟨w4.heap.size + 1 + 1, 0, none⟩)) ∧ W.cell? ⟨w.heap.size, 3, none⟩ = some (.slice (some ⟨bc, oc, none⟩) p.t.cases.length kc) ∧ W.cell? ⟨bc, oc + x.1.1 * 3, none⟩ = some (.slice A0 p.t.cases[x.1.1].inp.length c0))
   (by kernel_rfl) (by kernel_rfl) (by kernel_rfl) (by rintro ⟨_, _, h⟩; exact h) (HKP.out _ (Below.refl _ _).drew) ?_
  clear e7 e8 e3 i0
  repeat
   apply zA rfl
   · rintro K' hK' W ⟨y0, y1, y2, y3⟩
     go_simp
     exact hK'
  have hRX : RAt X w4.heap.size AL word := HRL.out.keep (HB49.out.trans HBX.out)
  -- the word's copy
  refine zC rfl ?_
  intro K' hK'
  go_simp
  refine (ZV AL word.length cl_ (yt word) X.drew (xh word) (gc (w := X.drew) (hRX.more (by show w4.heap.size ≤ X.heap.size; omega))) (j7 word) (by have := HWK.out; omega)).mono ?_
  rintro e w5 ⟨v5, rfl, ho5, hb5⟩
  have hb5 : Below X.heap.size X w5 := XZ hb5
  have ho5 : OwnR kRd w5 X.heap.size v5 word.length (yt word) := ho5
  obtain ⟨A5, c5, rfl, hcap5, _, hl5⟩ := jZ ho5
  have HCP5 := zH hcap5
  clear hcap5
  refine hK' _ _ (HKP.out _ hb5) ?_
  clear hK' K' ho5
  -- the views
  refine zC rfl ?_
  intro K' hK'
  go_simp
  have hbd5 := HII.out.bd.on hb5
  rw [HNN.out] at hbd5
  have hs5 := hb5.size
  have hin : (p.t.cases[x.1.1].inp).length = N := by have := HTI.out _ (List.getElem_mem hM); have := HNN.out; omega
  have hIX : IAt w5 w4.heap.size A0 p.t.cases[x.1.1].inp := (HI0.out.keep (hb5.mono (by omega : w.heap.size ≤ X.heap.size))).more (by omega)
  have HPL := zH (play_any w4.heap.size (w4.heap.size + 1 + 1) (w4.heap.size + 1) N (by have := HNN.out; omega) (by have := HNN.out; omega) (.slice AV (zu p PL).1.length kv) (zu p PL).1 (by have := HFEW.out; omega) p.t.cases[x.1.1].inp hin word (by have := HWK.out; omega) (fun r hr => by
   obtain ⟨m, hm, rfl⟩ := HWM.out r hr
   obtain ⟨z1, z2, _⟩ := xk (yR HFX.out.1.2 HPA.out).1 m hm
   exact ⟨z1, by rw [z2, ← HPN.out, HNN.out]⟩) A0 AL c0 cl_ w5 (by omega) hbd5 hIX (hRX.keep (hb5.mono (by omega))))
  refine HPL.out.mono ?_
  rintro e w6 ⟨v6, V6, rfl, hd6, ho6, hx6, hn6⟩
  obtain ⟨AV6, kv6, rfl⟩ := hd6.own.lit
  obtain ⟨VV, hVV⟩ : ∃ VV, (zl (zu p PL).1 N p.t.cases[x.1.1].inp word word.length).1 = VV := ⟨_, rfl⟩
  have HVV := zH hVV
  have hVVl : VV.length ≤ 4000 := by
   have h2 := kd (zu p PL).1 N p.t.cases[x.1.1].inp word word.length
   have h4 : (word.length + 1) * N ≤ 7 * 5 := Nat.mul_le_mul (by have := HWK.out; omega) (by have := HNN.out; omega)
   have h5 := HFEW.out
   rw [hVV] at h2
   omega
  rw [hVV] at hd6 ho6 hx6 hn6
  clear hVV
  clear HPL hbd5 hRX hIX hin
  obtain ⟨A6, c6, rfl, _, _, hl6⟩ := Z0 hx6
  have hv6 := fun k hk => (hx6.lt k hk).1
  have HB5 := zH hb5
  have HL5 := zH hl5
  have HD6 := zH hd6
  have HO6 := zH ho6
  have HL6 := zH hl6
  have HN6 := zH hn6
  have HV6 := zH hv6
  have hs6b := ho6.1.size
  have HK6 : Hid (∀ (k o : Nat) (u : Value), k ≠ w4.heap.size + 1 + 1 → k ≠ w4.heap.size + 1 → k < W9.heap.size → w5.cell? ⟨k, o, none⟩ = some u → w6.cell? ⟨k, o, none⟩ = some u) := fun k o u h1 h2 h3 hc =>
   (World.cell?_of_block (ho6.1.block k (by omega) fun hr => by
    rcases hr with e | e | e
    · exact h1 e
    · exact h2 e
    · have := (HII.out.no k e).1; omega)).trans hc
  have k5 := HKP.out _ hb5
  have k6 : w6.cell? ⟨w4.heap.size, 9, none⟩ = some (.slice AE (zu p PL).2.length ke) ∧ w6.cell? ⟨w4.heap.size + 1 + 1 + 1, 0, none⟩ = some (.pointer (some ⟨w4.heap.size + 1 + 1, 0, none⟩)) ∧ w6.cell? ⟨w.heap.size, 3, none⟩ = some (.slice (some ⟨bc, oc, none⟩) p.t.cases.length kc) ∧ w6.cell? ⟨bc, oc + x.1.1 * 3, none⟩ = some (.slice A0 p.t.cases[x.1.1].inp.length c0) :=
   ⟨HK6.out _ _ _ (by omega) (by omega) (by omega) k5.1, HK6.out _ _ _ (by omega) (by omega) (by omega) k5.2.1, HK6.out _ _ _ (by omega) (by omega) (by omega) k5.2.2.1, HK6.out _ _ _ (by omega) (by omega) (by omega) k5.2.2.2⟩
  refine hK' _ _ k6 ?_
  clear hK' K' hb5 hl5 hd6 ho6 hx6 hl6 hn6 hv6 k5
  have HK7 := zH k6
  obtain ⟨VS, hVS⟩ : ∃ VS, (zl (zu p PL).1 N p.t.cases[x.1.1].inp word word.length).2 = VS := ⟨_, rfl⟩
  have HVS := zH hVS
  rw [hVS] at HL6 HV6 HN6 ⊢
  clear hVS k6
  -- the execution
  refine zC rfl ?_
  intro K' hK'
  go_simp
  refine hK' _ _ HK7.out ?_
  clear hK' K'
  refine zC rfl ?_
  intro K' hK'
  go_simp
  obtain ⟨W7e, hW7e, d7, hs7e, hB7e⟩ := zi w6 #[.int .i64 x.1.1, .slice A5 word.length c5, .slice A6 VS.length c6] 94
  rw [hW7e]
  clear hW7e
  have k7 : W7e.cell? ⟨w4.heap.size, 9, none⟩ = some (.slice AE (zu p PL).2.length ke) ∧ W7e.cell? ⟨w4.heap.size + 1 + 1 + 1, 0, none⟩ = some (.pointer (some ⟨w4.heap.size + 1 + 1, 0, none⟩)) ∧ W7e.cell? ⟨w.heap.size, 3, none⟩ = some (.slice (some ⟨bc, oc, none⟩) p.t.cases.length kc) ∧ W7e.cell? ⟨bc, oc + x.1.1 * 3, none⟩ = some (.slice A0 p.t.cases[x.1.1].inp.length c0) :=
   ⟨(hB7e.cell (p := ⟨w4.heap.size, 9, none⟩) (by show w4.heap.size < _; omega)).trans HK7.out.1, (hB7e.cell (p := ⟨w4.heap.size + 1 + 1 + 1, 0, none⟩) (by show w4.heap.size + 1 + 1 + 1 < _; omega)).trans HK7.out.2.1, (hB7e.cell (p := ⟨w.heap.size, 3, none⟩) (by show w.heap.size < _; omega)).trans HK7.out.2.2.1, (hB7e.cell (p := ⟨bc, _, none⟩) (by show bc < _; omega)).trans HK7.out.2.2.2⟩
  refine hK' _ _ k7 ?_
  clear hK' K'
  refine zC rfl ?_
  intro K' hK'
  rw [if_pos (by rfl)]
  have hou := HII.out.outn HBB.out HB5.out HO6.out
  have hrl := xE p PL
  have hll : PL.length = pre.length := by rw [← HPL0.out]; simp [jC]
  obtain ⟨css, hcl, hcr, hcs⟩ := hou.1.below yP hB7e (Nat.le_refl _)
  refine kA kXn_ok (.tmp 50) (.tmp 65) (by rfl) W9.heap.size (.slice AE (zu p PL).2.length ke) (zu p PL).2.length css.flatten (by rfl) hcr w6.heap.size #[.int .i64 x.1.1, .slice A5 word.length c5, .slice A6 VS.length c6] (by rfl) d7 rfl (by simp [Value.oneCell']) (by omega) (by omega) _ rfl ?_
  intro g' cap w8 hr hg hat hlt8
  clear hrl hll
  have hX := HII.out.lies (i := x.1.1) (c2 := c5) (c3 := c6) HBB.out HB5.out HO6.out hB7e HL5.out HL6.out HV6.out HN6.out HCP5.out
  have hPW : zl (zu p PL).1 p.t.n.toNat (yL p x.1.1) word word.length = zl (zu p PL).1 N p.t.cases[x.1.1].inp word word.length := by
   rw [HINP.out, show p.t.n.toNat = N by have := HNN.out; omega]
  have hd7 : BdIn w4.heap.size (w4.heap.size + 1 + 1) (w4.heap.size + 1) p.t.n (.slice AV6 VV.length kv6) (zl (zu p PL).1 p.t.n.toNat (yL p x.1.1) word word.length).1 w6 := by
   rw [hPW, HVV.out, HNN.out]; exact HD6.out
  have hX7 : cXnC.lies (fun k => (W9.heap.size ≤ k ∧ (Value.slice AV6 VV.length kv6).ownBlock ≠ some k) ∧ (Value.slice AE (zu p PL).2.length ke).ownBlock ≠ some k) W7e [.int .i64 x.1.1, .slice A5 word.length c5, .slice A6 VS.length c6] ⟨x.1.1, word, (zl (zu p PL).1 p.t.n.toNat (yL p x.1.1) word word.length).2⟩ := by rw [hPW, HVS.out]; exact hX
  have HNX := HII.out.next (x := (x.1.1, word)) HBB.out HB5.out HO6.out hB7e hd7 (fun E' => by rw [HSC.out]; rfl) hcl hcs hX7 hr hg hat
  have HNX := zH HNX
  have hEl := HII.out.out.lt
  have k8 : ∀ (k o : Nat) (u : Value), k < W9.heap.size → W7e.cell? ⟨k, o, none⟩ = some u → w8.cell? ⟨k, o, none⟩ = some u := fun k o u h3 hc =>
   (World.cell?_of_block (hg.block k (by omega) fun e => by have := (hEl k e.symm).1; omega)).trans hc
  have hs8 := hg.size
  have HP8 := zH (⟨k8 _ _ _ (by omega) k7.1, k8 _ _ _ (by omega) k7.2.1, k8 _ _ _ (by omega) k7.2.2.1, k8 _ _ _ (by omega) k7.2.2.2⟩ : w8.cell? ⟨w4.heap.size, 9, none⟩ = some (.slice AE (zu p PL).2.length ke) ∧ w8.cell? ⟨w4.heap.size + 1 + 1 + 1, 0, none⟩ = some (.pointer (some ⟨w4.heap.size + 1 + 1, 0, none⟩)) ∧ w8.cell? ⟨w.heap.size, 3, none⟩ = some (.slice (some ⟨bc, oc, none⟩) p.t.cases.length kc) ∧ w8.cell? ⟨bc, oc + x.1.1 * 3, none⟩ = some (.slice A0 p.t.cases[x.1.1].inp.length c0))
  have f8 : w8.frozen? ⟨w4.heap.size, 9, none⟩ = false := by
   have z := HNX.out.1.sys
   have z2 := zb z 9
   rwa [World.frozen?_setCell] at z2
  refine hK' _ _ HP8.out ?_
  clear hK' K' hr hg hat hX hX7 hcl hcr hcs hou k7 k8 hd7 hPW
  refine zC rfl ?_
  intro K' hK'
  go_simp
  refine hK' _ _ HP8.out ?_
  clear hK' K'
  have e9 := HP8.out.1
  refine yW rfl (by kernel_rfl) ?_
  intro K' hK'
  go_simp
  refine hK' (fun _ => True) _ _ trivial ?_
  refine zG ?_
  clear hK' K' e9 f8
  try dsimp only
  obtain ⟨WF, hWF⟩ : ∃ WF, w8.setCell ⟨w4.heap.size, 9, none⟩ (.slice (some ⟨g', 0, none⟩) ((zu p PL).2.length + 1) cap) = WF := ⟨_, rfl⟩
  rw [hWF] at HNX ⊢
  clear hWF
  have hNX := HNX.out.1
  have a8 : WF.cell? ⟨w4.heap.size + 1 + 1 + 1, 0, none⟩ = some (.pointer (some ⟨w4.heap.size + 1 + 1, 0, none⟩)) := za ((hNX.same HBB.out (by omega) (by omega) (by omega) (by omega)).trans HY8.out) 0 rfl
  have b8 : WF.cell? ⟨w4.heap.size + 1 + 1, 1, none⟩ = some (.slice AV6 VV.length kv6) := za hNX.bd.hB 1 rfl
  have hng : ¬ (8192 : Int) < (VV.length : Int) := by omega
  clear hNX
  gi_wp2_with fail
  have hNX := HNX.out
  rw [hs9] at hNX
  refine ⟨hNX.2.1, hNX.2.2.keep fun k hk hs hr => ?_, ⟨.slice AV6 VV.length kv6, .slice (some ⟨g', 0, none⟩) ((zu p PL).2.length + 1) cap, ?_⟩⟩
  · have := hb49.size
    rcases hs with hs | hs | hs <;> rcases hr with e | e | e | e <;> omega
  · rw [List.map_append, List.map_singleton, prsW_snoc, HPL0.out, HGD.out]
    exact hNX.1
 case done =>
  rintro D ys X hD hys ⟨V, E, hI⟩ hDk
  rw [hys, ZE p K HKE.out] at hI
  obtain ⟨AV, kv, rfl⟩ := hI.bd.own.lit
  obtain ⟨AE, ke, rfl, hke1, hke2, _⟩ := hI.out.form yP
  have HII := zH hI
  have hb49 := HB49.out
  have hbX := hI.bel HBB.out
  have hD9 := hI.big HBB.out
  have HDk := zH hDk
  have hDX : D < X.heap.size := zd hDk
  have e8 : X.cell? ⟨w4.heap.size + 1 + 1 + 1, 0, none⟩ = some (.pointer (some ⟨w4.heap.size + 1 + 1, 0, none⟩)) := za ((hI.same HBB.out (by omega) (by omega) (by omega) (by omega)).trans HY8.out) 0 rfl
  have hsy := hI.sys
  rw [HSC.out] at hsy
  have t7 : X.cell? ⟨w4.heap.size, 7, none⟩ = some (.int .i64 0) := za hsy 7 rfl
  have t8 : X.cell? ⟨w4.heap.size, 8, none⟩ = some (.slice none 0 0) := za hsy 8 rfl
  have u7 := zb hsy 7
  have u8 := zb hsy 8
  have HSY := zH hsy
  have HBX := zH hbX
  have hbd := hI.bd.hB
  have N1X := (hbX.block (w.heap.size + 1) (by omega)).trans ((hb49.block _ (by omega)).trans D14.out)
  have N2X := (hbX.block (w.heap.size + 1 + 1) (by omega)).trans ((hb49.block _ (by omega)).trans D24.out)
  have HN1 := zH N1X
  have HN2 := zH N2X
  clear hI hbX hsy hDk hys H0 HIT N1X N2X
  go_wp2_with fail
  refine zr [(0, true), (1, true), (2, true), (3, true), (4, true), (5, true), (6, true), (7, true), (8, false), (9, false), (10, false)]
   (fun W => W.cell? ⟨w4.heap.size + 1 + 1 + 1, 0, none⟩ = some (.pointer (some ⟨w4.heap.size + 1 + 1, 0, none⟩)) ∧ W.heap[w4.heap.size + 1 + 1]? = some (.cells #[.int .i64 p.t.n, .slice AV (zu p (zn p)).1.length kv, .map (some (w4.heap.size + 1))] 216 (0, 0)))
   (by kernel_rfl) (by kernel_rfl) ⟨e8, hbd⟩ ?_
  clear e8 hbd
  repeat
   apply zA rfl
   · rintro K' hK' W ⟨y0, y1⟩
     have z0 : W.cell? ⟨w4.heap.size + 1 + 1, 0, none⟩ = some (.int .i64 p.t.n) := za y1 0 rfl
     have z1 : W.cell? ⟨w4.heap.size + 1 + 1, 1, none⟩ = some (.slice AV (zu p (zn p)).1.length kv) := za y1 1 rfl
     clear y1
     go_simp
     exact hK'
  have e8 : X.cell? ⟨w4.heap.size + 1 + 1 + 1, 0, none⟩ = some (.pointer (some ⟨w4.heap.size + 1 + 1, 0, none⟩)) := za ((HII.out.same HBB.out (by omega) (by omega) (by omega) (by omega)).trans HY8.out) 0 rfl
  refine zC rfl ?_
  intro K' hK'
  go_simp
  refine hK' _ _ ⟨e8, HII.out.bd.hB⟩ ?_
  clear hK' K'
  refine zC rfl ?_
  intro K' hK'
  go_simp
  refine hK' _ _ ⟨e8, HII.out.bd.hB⟩ ?_
  clear hK' K'
  refine yW rfl (by kernel_rfl) ?_
  intro K' hK'
  go_simp
  refine hK' (fun _ => True) _ _ trivial ?_
  refine zG ?_
  clear hK' K' e8 t7 t8 u7 u8
  obtain ⟨W7, hW7⟩ : ∃ W7, ((X.setCell ⟨w4.heap.size, 7, none⟩ (.int .i64 p.t.n)).setCell ⟨w4.heap.size, 8, none⟩ (.slice AV (zu p (zn p)).1.length kv)).drew = W7 := ⟨_, rfl⟩
  have hs7 : W7.heap[w4.heap.size]? = some (.cells #[.int .i64 p.t.n, .int .i64 p.t.ins, .int .i64 p.t.outs, .slice A4 p.t.cases.length kc4, .int .i64 p.a.n, .slice SV4 p.a.sts.length ks4, .int .i64 p.k, .int .i64 p.t.n, .slice AV (zu p (zn p)).1.length kv, .slice AE (zu p (zn p)).2.length ke] 35 (0, 0)) := by
   rw [← hW7]
   have q1 : (X.setCell ⟨w4.heap.size, 7, none⟩ (.int .i64 p.t.n)).heap[w4.heap.size]? = some (.cells #[.int .i64 p.t.n, .int .i64 p.t.ins, .int .i64 p.t.outs, .slice A4 p.t.cases.length kc4, .int .i64 p.a.n, .slice SV4 p.a.sts.length ks4, .int .i64 p.k, .int .i64 p.t.n, .slice none 0 0, .slice AE (zu p (zn p)).2.length ke] 35 (0, 0)) := heap_setCell_same X w4.heap.size 7 _ _ _ HSY.out
   exact heap_setCell_same _ w4.heap.size 8 _ _ _ q1
  have ho7 : ∀ k, k ≠ w4.heap.size → W7.heap[k]? = X.heap[k]? := fun k hk => by
   rw [← hW7]
   exact (Below.heap_setCell _ ⟨w4.heap.size, 8, none⟩ _ k hk).trans (Below.heap_setCell _ ⟨w4.heap.size, 7, none⟩ _ k hk)
  have hb7 : Below w.heap.size w W7 := by
   rw [← hW7]
   exact (((B4.out.trans ((hb49.trans HBX.out).mono (by omega))).setCell (p := ⟨w4.heap.size, 7, none⟩) (by show w.heap.size ≤ w4.heap.size; omega) _).setCell (p := ⟨w4.heap.size, 8, none⟩) (by show w.heap.size ≤ w4.heap.size; omega) _).drew
  have hz7 : W7.heap.size = X.heap.size := by rw [← hW7]; show (World.setCell _ _ _).heap.size = _; simp
  have N17 := (ho7 (w.heap.size + 1) (by omega)).trans HN1.out
  have N27 := (ho7 (w.heap.size + 1 + 1) (by omega)).trans HN2.out
  have s0 : W7.cell? ⟨w4.heap.size, 0, none⟩ = some (.int .i64 p.t.n) := za hs7 0 rfl
  have s1 : W7.cell? ⟨w4.heap.size, 1, none⟩ = some (.int .i64 p.t.ins) := za hs7 1 rfl
  have s2 : W7.cell? ⟨w4.heap.size, 2, none⟩ = some (.int .i64 p.t.outs) := za hs7 2 rfl
  have s3 : W7.cell? ⟨w4.heap.size, 3, none⟩ = some (.slice A4 p.t.cases.length kc4) := za hs7 3 rfl
  have s4 : W7.cell? ⟨w4.heap.size, 4, none⟩ = some (.int .i64 p.a.n) := za hs7 4 rfl
  have s5 : W7.cell? ⟨w4.heap.size, 5, none⟩ = some (.slice SV4 p.a.sts.length ks4) := za hs7 5 rfl
  have s6 : W7.cell? ⟨w4.heap.size, 6, none⟩ = some (.int .i64 p.k) := za hs7 6 rfl
  have s7 : W7.cell? ⟨w4.heap.size, 7, none⟩ = some (.int .i64 p.t.n) := za hs7 7 rfl
  have s8 : W7.cell? ⟨w4.heap.size, 8, none⟩ = some (.slice AV (zu p (zn p)).1.length kv) := za hs7 8 rfl
  have s9 : W7.cell? ⟨w4.heap.size, 9, none⟩ = some (.slice AE (zu p (zn p)).2.length ke) := za hs7 9 rfl
  have n0 : W7.cell? ⟨w.heap.size + 1, 0, none⟩ = some (.int .i64 0) := za N17 0 rfl
  have m0 := zb N17 0
  have n1 : W7.cell? ⟨w.heap.size + 1, 1, none⟩ = some (.int .i64 0) := za N17 1 rfl
  have m1 := zb N17 1
  have n2 : W7.cell? ⟨w.heap.size + 1, 2, none⟩ = some (.int .i64 0) := za N17 2 rfl
  have m2 := zb N17 2
  have n3 : W7.cell? ⟨w.heap.size + 1, 3, none⟩ = some (.slice none 0 0) := za N17 3 rfl
  have m3 := zb N17 3
  have n4 : W7.cell? ⟨w.heap.size + 1, 4, none⟩ = some (.int .i64 0) := za N17 4 rfl
  have m4 := zb N17 4
  have n5 : W7.cell? ⟨w.heap.size + 1, 5, none⟩ = some (.slice none 0 0) := za N17 5 rfl
  have m5 := zb N17 5
  have n6 : W7.cell? ⟨w.heap.size + 1, 6, none⟩ = some (.int .i64 0) := za N17 6 rfl
  have m6 := zb N17 6
  have n7 : W7.cell? ⟨w.heap.size + 1, 7, none⟩ = some (.int .i64 0) := za N17 7 rfl
  have m7 := zb N17 7
  have n8 : W7.cell? ⟨w.heap.size + 1, 8, none⟩ = some (.slice none 0 0) := za N17 8 rfl
  have m8 := zb N17 8
  have n9 : W7.cell? ⟨w.heap.size + 1, 9, none⟩ = some (.slice none 0 0) := za N17 9 rfl
  have m9 := zb N17 9
  have n10 : W7.cell? ⟨w.heap.size + 1 + 1, 0, none⟩ = some (.int .i64 0) := za N27 0 rfl
  have m10 := zb N27 0
  have HO7 := zH ho7
  have HB7 := zH hb7
  have HN17 := zH N17
  have HN27 := zH N27
  rw [hW7]
  clear hW7 ho7 hb7 N17 N27 hs7
  go_wp2_with fail
  obtain ⟨k1, k2, k3, k4, k5⟩ := jv (.int .i64 p.t.n) (.int .i64 p.t.ins) (.int .i64 p.t.outs) (.slice A4 p.t.cases.length kc4) (.int .i64 p.a.n) (.slice SV4 p.a.sts.length ks4) (.int .i64 p.k) (.int .i64 p.t.n) (.slice AV (zu p (zn p)).1.length kv) (.slice AE (zu p (zn p)).2.length ke) (.int .i64 0) HN17.out HN27.out (by omega) HB7.out (by omega : w.heap.size ≤ w.heap.size + 1) (by omega : w.heap.size ≤ w.heap.size + 1 + 1)
  obtain ⟨WF, hWF⟩ : ∃ WF, (((((((((((W7.setCell ⟨w.heap.size + 1, 0, none⟩ (.int .i64 p.t.n)).setCell ⟨w.heap.size + 1, 1, none⟩ (.int .i64 p.t.ins)).setCell ⟨w.heap.size + 1, 2, none⟩ (.int .i64 p.t.outs)).setCell ⟨w.heap.size + 1, 3, none⟩ (.slice A4 p.t.cases.length kc4)).setCell ⟨w.heap.size + 1, 4, none⟩ (.int .i64 p.a.n)).setCell ⟨w.heap.size + 1, 5, none⟩ (.slice SV4 p.a.sts.length ks4)).setCell ⟨w.heap.size + 1, 6, none⟩ (.int .i64 p.k)).setCell ⟨w.heap.size + 1, 7, none⟩ (.int .i64 p.t.n)).setCell ⟨w.heap.size + 1, 8, none⟩ (.slice AV (zu p (zn p)).1.length kv)).setCell ⟨w.heap.size + 1, 9, none⟩ (.slice AE (zu p (zn p)).2.length ke)).setCell ⟨w.heap.size + 1 + 1, 0, none⟩ (.int .i64 0)) = WF := ⟨_, rfl⟩
  rw [hWF] at k1 k2 k3 k4 k5 ⊢
  clear hWF
  have hall : ∀ k, k ≠ w4.heap.size → k ≠ w.heap.size + 1 → k ≠ w.heap.size + 1 + 1 → WF.heap[k]? = X.heap[k]? := fun k a b c => (k5 k b c).trans (HO7.out k a)
  have hsf : WF.heap.size = X.heap.size := k4.trans hz7
  have hDf : WF.heap[D]? = some (.deferred (some [])) := (hall D (by omega) (by omega) (by omega)).trans HDk.out
  have hlow : ∀ k, k < w4.heap.size → k ≠ w.heap.size + 1 → k ≠ w.heap.size + 1 + 1 → WF.heap[k]? = w4.heap[k]? := fun k a b c =>
   (hall k (by omega) b c).trans ((HBX.out.block k a).trans (hb49.block k a))
  have hsz49 : w4.heap.size ≤ WF.heap.size := by omega
  have RA : RowX cCs (fun b => ((L0 ≤ b ∧ b < B0) ∨ w3.heap.size ≤ b) ∧ b < w4.heap.size) WF g4 p.t.cases := (HA4.out.mono xu fun b hb hs => ⟨hs, hb⟩).keep xu ⟨hsz49, fun k hk _ => hlow k hk.1.2 (by have := hk.1.1; omega) (by have := hk.1.1; omega)⟩ (hlow g4 HA4.out.lt (by omega) (by omega))
  have RS : RowX cMl (fun b => ((L0 ≤ b ∧ b < B0) ∨ w3.heap.size ≤ b) ∧ b < w4.heap.size) WF gm4 p.a.sts := (HS4.out.mono qF fun b hb hs => ⟨hs, hb⟩).keep qF ⟨hsz49, fun k hk _ => hlow k hk.1.2 (by have := hk.1.1; omega) (by have := hk.1.1; omega)⟩ (hlow gm4 HS4.out.lt (by omega) (by omega))
  have RV : OwnV WF w4.heap.size (.slice AV (zu p (zn p)).1.length kv) (zu p (zn p)).1 := HII.out.bd.own.of_same fun k hk => by
   have := (HII.out.no k hk).1
   exact hall k (by omega) (by omega) (by omega)
  have RX : OwnX cXnC (fun k => W9.heap.size ≤ k ∧ (Value.slice AV (zu p (zn p)).1.length kv).ownBlock ≠ some k) WF W9.heap.size (.slice AE (zu p (zn p)).2.length ke) (zu p (zn p)).2 :=
   HII.out.out.keep yP ⟨by omega, fun k hk _ => hall k (by have := hk.1; omega) (by have := hk.1; omega) (by have := hk.1; omega)⟩ fun k hk => by
    have := (HII.out.out.lt k hk).1
    exact hall k (by omega) (by omega) (by omega)
  have hpl : (zn p).length ≤ 60 := by
   have h1 := congrArg List.length (ZE p K HKE.out)
   rw [jC, List.length_map, jb, yo] at h1
   have := HEX.out
   rw [← h1, Nat.mul_comm]; omega
  have hfew := wS p (by have := HNN.out; omega) (zn p) (fun y hy => by
   unfold zn at hy
   obtain ⟨d, _, hy⟩ := List.mem_flatMap.1 hy
   obtain ⟨w', hw', rfl⟩ := List.mem_map.1 hy
   show w'.length ≤ 6
   rw [yV p.a _ 0 w' hw', HKE.out]
   exact hK6)
  refine yN (B := W9.heap.size) (ji (by omega) hDf) ?_
  intro W hX
  have c0 : W.cell? ⟨w.heap.size + 1, 0, none⟩ = some (.int .i64 p.t.n) := hX.cell (za k1 0 rfl)
  have c1 : W.cell? ⟨w.heap.size + 1, 1, none⟩ = some (.int .i64 p.t.ins) := hX.cell (za k1 1 rfl)
  have c2 : W.cell? ⟨w.heap.size + 1, 2, none⟩ = some (.int .i64 p.t.outs) := hX.cell (za k1 2 rfl)
  have c3 : W.cell? ⟨w.heap.size + 1, 3, none⟩ = some (.slice A4 p.t.cases.length kc4) := hX.cell (za k1 3 rfl)
  have c4 : W.cell? ⟨w.heap.size + 1, 4, none⟩ = some (.int .i64 p.a.n) := hX.cell (za k1 4 rfl)
  have c5 : W.cell? ⟨w.heap.size + 1, 5, none⟩ = some (.slice SV4 p.a.sts.length ks4) := hX.cell (za k1 5 rfl)
  have c6 : W.cell? ⟨w.heap.size + 1, 6, none⟩ = some (.int .i64 p.k) := hX.cell (za k1 6 rfl)
  have c7 : W.cell? ⟨w.heap.size + 1, 7, none⟩ = some (.int .i64 p.t.n) := hX.cell (za k1 7 rfl)
  have c8 : W.cell? ⟨w.heap.size + 1, 8, none⟩ = some (.slice AV (zu p (zn p)).1.length kv) := hX.cell (za k1 8 rfl)
  have c9 : W.cell? ⟨w.heap.size + 1, 9, none⟩ = some (.slice AE (zu p (zn p)).2.length ke) := hX.cell (za k1 9 rfl)
  have c10 : W.cell? ⟨w.heap.size + 1 + 1, 0, none⟩ = some (.int .i64 0) := hX.cell (za k2 0 rfl)
  have hXs := hX.below.size
  obtain ⟨AV', kv', eV, hTV⟩ := (show OwnV W w4.heap.size _ _ from hX.own RV).form (by omega)
  cases eV
  obtain ⟨AE', ke', eE, _, _, hXA, _⟩ := ZZ (RX.turn yP hXs hX.same)
  cases eE
  refine ⟨.tuple #[.agg #[.int .i64 p.t.n, .int .i64 p.t.ins, .int .i64 p.t.outs, .slice A4 p.t.cases.length kc4, .int .i64 p.a.n, .slice SV4 p.a.sts.length ks4, .int .i64 p.k, .int .i64 p.t.n, .slice AV (zu p (zn p)).1.length kv, .slice AE (zu p (zn p)).2.length ke], .int .i64 0], by simp [results, Tryz.results79, go_sem, c0, c1, c2, c3, c4, c5, c6, c7, c8, c9, c10], ?_⟩
  rw [HB.out]
  refine ⟨A4, kc4, SV4, ks4, AV, kv, AE, ke, rfl, fun W' hzW hsm => ⟨?_, ?_, ?_, ?_⟩, hTV.lec, hTV.lem, k3.trans (hX.below.mono (by omega))⟩
  · rw [HA4e.out]
    have R := RA.turnC xu hXs hX.same
    have hg4 := HA4.out.lt
    exact (R.keep xu ⟨hzW, fun k hk hl => hsm k (by have := hk.1.1; omega) hl⟩ (hsm g4 (by omega) (by omega))).cat
  · rw [HS4e.out]
    have R := RS.turnC qF hXs hX.same
    have hg4 := HS4.out.lt
    exact (R.keep qF ⟨hzW, fun k hk hl => hsm k (by have := hk.1.1; omega) hl⟩ (hsm gm4 (by omega) (by omega))).sat
  · have RV2 := (show OwnV W w4.heap.size _ _ from hX.own RV)
    obtain ⟨AV', kv', eV, hTV⟩ := (RV2.of_same (w' := W') fun k hk => hsm k (.inr (by have := (OwnV.lt RV2 k hk).1; omega)) (OwnV.lt RV2 k hk).2).form (by omega)
    cases eV
    exact hTV.rows
  · have RX2 := RX.turn yP hXs hX.same
    obtain ⟨AE', ke', eE, _, _, hXA, _⟩ := ZZ (RX2.keep (w' := W') yP ⟨hzW, fun k hk hl => hsm k (.inr (by have := hk.1; omega)) hl⟩ fun k hk => hsm k (.inr (by have := (RX2.lt k hk).1; omega)) (RX2.lt k hk).2)
    cases eE
    exact hXA
 case stop =>
  intro D c pre W _ _ h
  exact h.elim
theorem Zg (p : Pb) (hf : xb p) (A : Option Addr) (kc : Nat) (SV : Option Addr) (ks : Nat) (w : World) (B0 : Nat) (hB0 : B0 ≤ w.heap.size) (hA0 : CAt w B0 A p.t.cases) (hS0 : SAt w B0 SV p.a.sts) :
  Calls Tryz.prog 79 #[.agg (p.vs A kc SV ks)] w (RetSysF 0 B0 (zQ p) w) :=
 Zf p hf A kc SV ks w 0 B0 hB0 hA0 hS0 (CAtL.of hA0 hB0) (SAtL.of hS0 hB0)
theorem build_any (p : Pb) (hf : xb p) (A : Option Addr) (kc : Nat) (SV : Option Addr) (ks : Nat) (w : World) (hA : CAt w w.heap.size A p.t.cases) (hS : SAt w w.heap.size SV p.a.sts) :
  Calls Tryz.prog 79 #[.agg (p.vs A kc SV ks)] w (RetSys (zQ p) w) :=
 (Zg p hf A kc SV ks w w.heap.size (Nat.le_refl _) hA hS).mono fun _ _ h => h.sys
end
section
open Go.RowKit
attribute [local go_sem] Oper.semAt_some
def hq (f : Nat → Int) (k j : Nat) : Int := if j < k then f j else 0
def vq (p r i : Int) (f : Nat → Int) (k : Nat) : Array Value := #[.int .i64 p, .int .i64 r, .int .i64 i, .int .i64 (hq f k 0), .int .i64 (hq f k 1), .int .i64 (hq f k 2), .int .i64 (hq f k 3), .int .i64 (hq f k 4)]
theorem X8 (p r i : Int) (f : Nat → Int) (k : Nat) (hk : k < 5) : (vq p r i f k).setIfInBounds (3 + k) (.int .i64 (f k)) = vq p r i f (k + 1) := by
 match k, hk with
 | 0, _ => rfl
 | 1, _ => rfl
 | 2, _ => rfl
 | 3, _ => rfl
 | 4, _ => rfl
theorem vq_set2 (p r i : Int) (f : Nat → Int) (k : Nat) (hk : k < 5) (u : Value) : ((vq p r i f k).setIfInBounds (3 + k) u).setIfInBounds (3 + k) (.int .i64 (f k)) = vq p r i f (k + 1) := by
 match k, hk with
 | 0, _ => rfl
 | 1, _ => rfl
 | 2, _ => rfl
 | 3, _ => rfl
 | 4, _ => rfl
theorem vq_at (p r i : Int) (f : Nat → Int) (k : Nat) (hk : k < 5) : (vq p r i f k)[3 + k]? = some (.int .i64 0) := by
 match k, hk with
 | 0, _ => rfl
 | 1, _ => rfl
 | 2, _ => rfl
 | 3, _ => rfl
 | 4, _ => rfl
set_option maxRecDepth 100000 in
theorem first_any (p : Nat) (i : Int) (w : World) : Calls Tryz.prog 191 #[.int .i64 (p : Int), .int .i64 i] w fun e w' => e = .returned (.agg (yD p i).cells) ∧ Below w.heap.size w w' := by
 obtain ⟨w1, hw1, d0, d1, hs1, hB⟩ := yj w (#[.int .i64 0, .int .i64 0, .int .i64 0, .int .i64 0, .int .i64 0, .int .i64 0, .int .i64 0, .int .i64 0]) (vq p 0 i (fun _ => -1) 0) 224 224
 have HW1 := zH hw1
 go_enter Tryz.func191, Tryz.ntmps191
 go_wp2_with fail
 rw [show ((w.alloc (.cells #[.int .i64 0, .int .i64 0, .int .i64 0, .int .i64 0, .int .i64 0, .int .i64 0, .int .i64 0, .int .i64 0] 224)).alloc (.cells #[.int .i64 p, .int .i64 0, .int .i64 i, .int .i64 0, .int .i64 0, .int .i64 0, .int .i64 0, .int .i64 0] 224)) = w1 from HW1.out]
 have H0 := zH d0
 have H1 := zH d1
 have HB := zH hB
 clear hw1 d0 d1 hB
 go_loopw [6] (fun j wr => ∃ k : Nat, k ≤ 5 ∧ j = .int .i64 (k : Int) ∧ Hid (wr.heap[w.heap.size]? = some (.cells #[.int .i64 0, .int .i64 0, .int .i64 0, .int .i64 0, .int .i64 0, .int .i64 0, .int .i64 0, .int .i64 0] 224 (0, 0))) ∧ Hid (wr.heap[w.heap.size + 1]? = some (.cells (vq p 0 i (fun _ => -1) k) 224 (0, 0))) ∧ Hid (Below w.heap.size w wr)) (fun j _ => 5 - (intOf j).toNat)
 case atStart => exact ⟨0, by omega, rfl, H0.out, H1.out, HB.out⟩
 case round =>
  clear H0 H1
  obtain ⟨k, hk, rfl, H0, H1, HBr⟩ := hrel
  by_cases hk5 : k < 5
  case neg =>
   obtain rfl : k = 5 := by omega
   have x0 : wr.cell? ⟨w.heap.size + 1, 0, none⟩ = some (.int .i64 p) := za H1.out 0 rfl
   have x1 : wr.cell? ⟨w.heap.size + 1, 1, none⟩ = some (.int .i64 0) := za H1.out 1 rfl
   have x2 : wr.cell? ⟨w.heap.size + 1, 2, none⟩ = some (.int .i64 i) := za H1.out 2 rfl
   have x3 : wr.cell? ⟨w.heap.size + 1, 3, none⟩ = some (.int .i64 (-1)) := za H1.out 3 rfl
   have x4 : wr.cell? ⟨w.heap.size + 1, 4, none⟩ = some (.int .i64 (-1)) := za H1.out 4 rfl
   have x5 : wr.cell? ⟨w.heap.size + 1, 5, none⟩ = some (.int .i64 (-1)) := za H1.out 5 rfl
   have x6 : wr.cell? ⟨w.heap.size + 1, 6, none⟩ = some (.int .i64 (-1)) := za H1.out 6 rfl
   have x7 : wr.cell? ⟨w.heap.size + 1, 7, none⟩ = some (.int .i64 (-1)) := za H1.out 7 rfl
   have y0 : wr.cell? ⟨w.heap.size, 0, none⟩ = some (.int .i64 0) := za H0.out 0 rfl
   have y1 : wr.cell? ⟨w.heap.size, 1, none⟩ = some (.int .i64 0) := za H0.out 1 rfl
   have y2 : wr.cell? ⟨w.heap.size, 2, none⟩ = some (.int .i64 0) := za H0.out 2 rfl
   have y3 : wr.cell? ⟨w.heap.size, 3, none⟩ = some (.int .i64 0) := za H0.out 3 rfl
   have y4 : wr.cell? ⟨w.heap.size, 4, none⟩ = some (.int .i64 0) := za H0.out 4 rfl
   have y5 : wr.cell? ⟨w.heap.size, 5, none⟩ = some (.int .i64 0) := za H0.out 5 rfl
   have y6 : wr.cell? ⟨w.heap.size, 6, none⟩ = some (.int .i64 0) := za H0.out 6 rfl
   have y7 : wr.cell? ⟨w.heap.size, 7, none⟩ = some (.int .i64 0) := za H0.out 7 rfl
   have f0 := zb H0.out 0
   have f1 := zb H0.out 1
   have f2 := zb H0.out 2
   have f3 := zb H0.out 3
   have f4 := zb H0.out 4
   have f5 := zb H0.out 5
   have f6 := zb H0.out 6
   have f7 := zb H0.out 7
   go_wp2_with fail
   refine bodyPost_ret (v := .agg #[.int .i64 p, .int .i64 0, .int .i64 i, .int .i64 (-1), .int .i64 (-1), .int .i64 (-1), .int .i64 (-1), .int .i64 (-1)]) (by simp [results, Tryz.results191, go_sem, y0, y1, y2, y3, y4, y5, y6, y7]) rfl ⟨rfl, ?_⟩
   exact (((((((HBr.out.setCell (Nat.le_refl _) _).setCell (Nat.le_refl _) _).setCell (Nat.le_refl _) _).setCell (Nat.le_refl _) _).setCell (Nat.le_refl _) _).setCell (Nat.le_refl _) _).setCell (Nat.le_refl _) _).setCell (Nat.le_refl _) _
  case pos =>
   have x0 := za H1.out (3 + k) (vq_at _ _ _ _ k hk5)
   have f0 := zb H1.out (3 + k)
   have hk0 : (0 : Int) ≤ (k : Int) := by omega
   have hk1 : (k : Int) < 5 := by omega
   go_wp2_with fail
   go_roundw
   case rel => exact ⟨k + 1, by omega, by go_num, (Below.heap_setCell wr _ _ w.heap.size (by show w.heap.size ≠ w.heap.size + 1; omega)).trans H0.out, by show _ = _; rw [heap_setCell_same wr _ (3 + k) _ _ _ H1.out, X8 _ _ _ (fun _ => -1) k hk5], HBr.out.setCell (by show w.heap.size ≤ w.heap.size + 1; omega) _⟩
   case measure => simp [intOf]; omega
set_option maxRecDepth 100000 in
theorem seen_any (r : Rd) (K p : Nat) (hp : p < 5) (hs : 0 ≤ r.h p ∧ r.h p < 32) (A : Option Addr) (ca : Nat) (row : List Int) (hn : r.n = (row.length : Int)) (_h5 : row.length ≤ 5) (w : World) (hI : IAt w w.heap.size A row) :
  Calls Tryz.prog 192 #[.agg r.gcells, .int .i64 (K : Int), .int .i64 (p : Int), .slice A row.length ca] w fun e w' => e = .returned (.agg (xO r K p row).cells) ∧ Below w.heap.size w w' := by
 obtain ⟨s, hsr⟩ : ∃ s : Nat, r.h p = (s : Int) := ⟨(r.h p).toNat, by omega⟩
 have hs32 : s < 32 := by omega
 have HH := zH (fun q hq w => wl s q hs32 hq w)
 have HSR := zH hsr
 have HN := zH hn
 clear hn hsr hs
 obtain ⟨w1, hw1, g0, d0, d1, hs1, hB⟩ := kC w r.gcells #[.int .i64 0, .int .i64 0, .int .i64 0, .int .i64 0, .int .i64 0, .int .i64 0, .int .i64 0, .int .i64 0] (vq p K 0 (zT r p row) 0) 97 224 224
 have HW1 := zH hw1
 go_enter Tryz.func192, Tryz.ntmps192
 unfold Rd.gcells
 go_wp2_with fail
 rw [show (((w.alloc (.cells #[.int .i64 r.n, .int .i64 r.h0, .int .i64 r.h1, .int .i64 r.h2, .int .i64 r.h3, .int .i64 r.h4] 97)).alloc (.cells #[.int .i64 0, .int .i64 0, .int .i64 0, .int .i64 0, .int .i64 0, .int .i64 0, .int .i64 0, .int .i64 0] 224)).alloc (.cells #[.int .i64 p, .int .i64 K, .int .i64 0, .int .i64 0, .int .i64 0, .int .i64 0, .int .i64 0, .int .i64 0] 224)) = w1 from HW1.out]
 have HG := zH g0
 have H0 := zH d0
 have H1 := zH d1
 have HB := zH hB
 have HI := zH hI
 clear hw1 d0 d1 hB g0 hI
 go_loopw [10] (fun j wr => ∃ k : Nat, k ≤ 5 ∧ j = .int .i64 (k : Int) ∧ Hid (wr.heap[w.heap.size]? = some (.cells r.gcells 97 (0, 0))) ∧ Hid (wr.heap[w.heap.size + 1]? = some (.cells #[.int .i64 0, .int .i64 0, .int .i64 0, .int .i64 0, .int .i64 0, .int .i64 0, .int .i64 0, .int .i64 0] 224 (0, 0))) ∧ Hid (wr.heap[w.heap.size + 1 + 1]? = some (.cells (vq p K 0 (zT r p row) k) 224 (0, 0))) ∧ Hid (Below w.heap.size w wr)) (fun j _ => 5 - (intOf j).toNat)
 case atStart => exact ⟨0, by omega, rfl, HG.out, H0.out, H1.out, HB.out⟩
 case round =>
  clear HG H0 H1
  obtain ⟨k, hk, rfl, HG, H0, H1, HBr⟩ := hrel
  by_cases hk5 : k < 5
  case neg =>
   obtain rfl : k = 5 := by omega
   have x0 : wr.cell? ⟨w.heap.size + 1 + 1, 0, none⟩ = some (.int .i64 p) := za H1.out 0 rfl
   have x1 : wr.cell? ⟨w.heap.size + 1 + 1, 1, none⟩ = some (.int .i64 K) := za H1.out 1 rfl
   have x2 : wr.cell? ⟨w.heap.size + 1 + 1, 2, none⟩ = some (.int .i64 0) := za H1.out 2 rfl
   have x3 : wr.cell? ⟨w.heap.size + 1 + 1, 3, none⟩ = some (.int .i64 (zT r p row 0)) := za H1.out 3 rfl
   have x4 : wr.cell? ⟨w.heap.size + 1 + 1, 4, none⟩ = some (.int .i64 (zT r p row 1)) := za H1.out 4 rfl
   have x5 : wr.cell? ⟨w.heap.size + 1 + 1, 5, none⟩ = some (.int .i64 (zT r p row 2)) := za H1.out 5 rfl
   have x6 : wr.cell? ⟨w.heap.size + 1 + 1, 6, none⟩ = some (.int .i64 (zT r p row 3)) := za H1.out 6 rfl
   have x7 : wr.cell? ⟨w.heap.size + 1 + 1, 7, none⟩ = some (.int .i64 (zT r p row 4)) := za H1.out 7 rfl
   have y0 : wr.cell? ⟨w.heap.size + 1, 0, none⟩ = some (.int .i64 0) := za H0.out 0 rfl
   have y1 : wr.cell? ⟨w.heap.size + 1, 1, none⟩ = some (.int .i64 0) := za H0.out 1 rfl
   have y2 : wr.cell? ⟨w.heap.size + 1, 2, none⟩ = some (.int .i64 0) := za H0.out 2 rfl
   have y3 : wr.cell? ⟨w.heap.size + 1, 3, none⟩ = some (.int .i64 0) := za H0.out 3 rfl
   have y4 : wr.cell? ⟨w.heap.size + 1, 4, none⟩ = some (.int .i64 0) := za H0.out 4 rfl
   have y5 : wr.cell? ⟨w.heap.size + 1, 5, none⟩ = some (.int .i64 0) := za H0.out 5 rfl
   have y6 : wr.cell? ⟨w.heap.size + 1, 6, none⟩ = some (.int .i64 0) := za H0.out 6 rfl
   have y7 : wr.cell? ⟨w.heap.size + 1, 7, none⟩ = some (.int .i64 0) := za H0.out 7 rfl
   have f0 := zb H0.out 0
   have f1 := zb H0.out 1
   have f2 := zb H0.out 2
   have f3 := zb H0.out 3
   have f4 := zb H0.out 4
   have f5 := zb H0.out 5
   have f6 := zb H0.out 6
   have f7 := zb H0.out 7
   go_wp2_with fail
   refine bodyPost_ret (v := .agg (xO r K p row).cells) (by unfold xO Vw.cells; simp [results, Tryz.results192, go_sem, y0, y1, y2, y3, y4, y5, y6, y7]) rfl ⟨rfl, ?_⟩
   exact ((((((((HBr.out.setCell (by show w.heap.size ≤ w.heap.size + 1; omega) _).setCell (by show w.heap.size ≤ w.heap.size + 1; omega) _).setCell (by show w.heap.size ≤ w.heap.size + 1; omega) _).setCell (by show w.heap.size ≤ w.heap.size + 1; omega) _).setCell (by show w.heap.size ≤ w.heap.size + 1; omega) _).setCell (by show w.heap.size ≤ w.heap.size + 1; omega) _).setCell (by show w.heap.size ≤ w.heap.size + 1; omega) _).setCell (by show w.heap.size ≤ w.heap.size + 1; omega) _)
  case pos =>
   have x0 := za H1.out (3 + k) (vq_at _ _ _ _ k hk5)
   have f0 := zb H1.out (3 + k)
   have g0 : wr.cell? ⟨w.heap.size, 0, none⟩ = some (.int .i64 (row.length : Int)) := by rw [← HN.out]; exact za HG.out 0 rfl
   have gp : wr.cell? ⟨w.heap.size, 1 + p, none⟩ = some (.int .i64 (s : Int)) := by
    rw [← HSR.out]
    match p, hp with
    | 0, _ => exact za HG.out 1 rfl
    | 1, _ => exact za HG.out 2 rfl
    | 2, _ => exact za HG.out 3 rfl
    | 3, _ => exact za HG.out 4 rfl
    | 4, _ => exact za HG.out 5 rfl
   have hk0 : (0 : Int) ≤ (k : Int) := by omega
   have hk1 : (k : Int) < 5 := by omega
   have hp0 : (0 : Int) ≤ (p : Int) := by omega
   have hp1 : (p : Int) < 5 := by omega
   have hlk : w.heap.size + 1 + 1 < wr.heap.size := by
    by_cases h : w.heap.size + 1 + 1 < wr.heap.size
    · exact h
    · have := H1.out; rw [Array.getElem?_eq_none (by omega)] at this; cases this
   have HS : Hid ((wr.setCell ⟨w.heap.size + 1 + 1, 3 + k, none⟩ (.int .i64 (-1))).heap[w.heap.size + 1 + 1]? = some (.cells ((vq p K 0 (zT r p row) k).setIfInBounds (3 + k) (.int .i64 (-1))) 224 (0, 0))) := heap_setCell_same wr _ (3 + k) _ _ _ H1.out
   by_cases hq : k < row.length
   case neg =>
    have hE : Hid (zT r p row k = -1) := by unfold zT; exact if_neg (fun h => hq h.1)
    have hq1 : ¬ ((k : Int) < (row.length : Int)) := by omega
    go_wp2_with fail
    go_roundw
    case rel => exact ⟨k + 1, by omega, by go_num, ((Below.heap_setCell wr _ _ w.heap.size (by show w.heap.size ≠ w.heap.size + 1 + 1; omega)).trans HG.out), ((Below.heap_setCell wr _ _ (w.heap.size + 1) (by show w.heap.size + 1 ≠ w.heap.size + 1 + 1; omega)).trans H0.out), (HS.out.trans (by have e := X8 p K 0 (zT r p row) k hk5; rw [hE.out] at e; rw [e])), (HBr.out.setCell (by show w.heap.size ≤ w.heap.size + 1 + 1; omega) _)⟩
    case measure => simp [intOf]; omega
   case pos =>
    have hq1 : ((k : Int) < (row.length : Int)) := by omega
    by_cases hb : s.testBit k = true
    case neg =>
     have hE : Hid (zT r p row k = -1) := by unfold zT; exact if_neg (fun h => hb (by have h2 := h.2; rw [HSR.out] at h2; exact h2))
     have hbf : s.testBit k = false := by simpa using hb
     go_wp2_with (go_at_call 127; refine (HH.out k hk5 _).mono ?_; rintro e w' ⟨rfl, hw'⟩; obtain rfl := hw'.symm)
     go_roundw
     case rel => exact ⟨k + 1, by omega, by go_num, ((Below.heap_setCell wr _ _ w.heap.size (by show w.heap.size ≠ w.heap.size + 1 + 1; omega)).trans HG.out), ((Below.heap_setCell wr _ _ (w.heap.size + 1) (by show w.heap.size + 1 ≠ w.heap.size + 1 + 1; omega)).trans H0.out), (HS.out.trans (by have e := X8 p K 0 (zT r p row) k hk5; rw [hE.out] at e; rw [e])), (HBr.out.setCell (by show w.heap.size ≤ w.heap.size + 1 + 1; omega) _)⟩
     case measure => simp [intOf]; omega
    case pos =>
     have hE : Hid (zT r p row k = row[k]) := by
      unfold zT; rw [if_pos ⟨hq, by rw [HSR.out]; exact hb⟩, List.getD_eq_getElem?_getD, List.getElem?_eq_getElem hq]; rfl
     have HX := zH ((HI.out.keep HBr.out).at_ k hq)
     obtain ⟨ba, off, rfl, hlt, hc⟩ := HX.out
     have f1 := zb HS.out (3 + k)
     have hnb : ba ≠ w.heap.size + 1 + 1 := by omega
     go_wp2_with (go_at_call 127; refine (HH.out k hk5 _).mono ?_; rintro e w' ⟨rfl, hw'⟩; obtain rfl := hw'.symm)
     go_roundw
     case rel => exact ⟨k + 1, by omega, by go_num, ((Below.heap_setCell _ _ _ w.heap.size (by show w.heap.size ≠ w.heap.size + 1 + 1; omega)).trans ((Below.heap_setCell wr _ _ w.heap.size (by show w.heap.size ≠ w.heap.size + 1 + 1; omega)).trans HG.out)), ((Below.heap_setCell _ _ _ (w.heap.size + 1) (by show w.heap.size + 1 ≠ w.heap.size + 1 + 1; omega)).trans ((Below.heap_setCell wr _ _ (w.heap.size + 1) (by show w.heap.size + 1 ≠ w.heap.size + 1 + 1; omega)).trans H0.out)), (by show _ = _; rw [heap_setCell_same _ _ (3 + k) _ _ _ HS.out, ← hE.out, vq_set2 _ _ _ (zT r p row) k hk5]), ((HBr.out.setCell (by show w.heap.size ≤ w.heap.size + 1 + 1; omega) _).setCell (by show w.heap.size ≤ w.heap.size + 1 + 1; omega) _)⟩
     case measure => simp [intOf]; omega
end
section
open Go.RowKit Go.Shelf
structure Bt (D bs : Nat) (SC : Value → Value → Array Value) (WR : World) (vs : List Vw) (xs : List Exn) (V E : Value) (X : World) : Prop where
 wr : Wrote (fun k => k = bs) WR X
 wd : WR.heap.size ≤ D
 big : D ≤ X.heap.size
 bsl : bs < D
 sys : X.heap[bs]? = some (.cells (SC V E) 35 (0, 0))
 tb : OwnV X D V vs
 out : OwnX cXn (fun k => bs < k) X D E xs
 no : ∀ k, V.ownBlock = some k → E.ownBlock ≠ some k
structure Bq (D bs bx : Nat) (SC : Value → Value → Array Value) (WR : World) (c : Int) (wv : Value) (vs : List Vw) (xs : List Exn) (views : List (List Int)) (row : List Int) (V E Y L : Value) (X : World) : Prop where
 wr : Wrote (fun k => k = bs) WR X
 wd : WR.heap.size ≤ D
 big : D ≤ X.heap.size
 bsl : bs < D
 sys : X.heap[bs]? = some (.cells (SC V E) 35 (0, 0))
 x : X.heap[bx]? = some (.cells #[.int .i64 c, wv, Y] 94 (0, 0))
 hx : D ≤ bx
 tb : OwnV X D V vs
 out : OwnX cXn (fun k => bs < k ∧ k ≠ bx ∧ Y.ownBlock ≠ some k ∧ L.ownBlock ≠ some k) X D E xs
 vw : OwnX cIs (fun k => D ≤ k ∧ k ≠ bx ∧ E.ownBlock ≠ some k ∧ L.ownBlock ≠ some k) X D Y views
 row : OwnR kIn X D L row.length (row.map (Value.int .i64))
 nV : ∀ k, V.ownBlock = some k → k ≠ bx ∧ E.ownBlock ≠ some k ∧ Y.ownBlock ≠ some k ∧ L.ownBlock ≠ some k
 nE : ∀ k, E.ownBlock = some k → k ≠ bx ∧ Y.ownBlock ≠ some k ∧ L.ownBlock ≠ some k
 nY : ∀ k, Y.ownBlock = some k → k ≠ bx ∧ L.ownBlock ≠ some k
 nL : ∀ k, L.ownBlock = some k → k ≠ bx
section
variable {D bs bx : Nat} {SC : Value → Value → Array Value} {WR X : World} {c : Int} {wv : Value} {vs : List Vw} {xs : List Exn} {views : List (List Int)} {row : List Int} {V E Y L : Value}
theorem OwnV.lt' {w : World} {base : Nat} {v : Value} {vs : List Vw} (h : OwnV w base v vs) : ∀ k, v.ownBlock = some k → base ≤ k ∧ k < w.heap.size := World.ownsRow.lt h
theorem Bq.bxl (h : Bq D bs bx SC WR c wv vs xs views row V E Y L X) : bx < X.heap.size := (Array.getElem?_eq_some_iff.1 h.x).1
theorem Bt.on (h : Bt D bs SC WR vs xs V E X) {X' : World} (hb : Below X.heap.size X X') : Bt D bs SC WR vs xs V E X' :=
 ⟨h.wr.trans (Wrote.of_below (R := fun _ => False) hb) (fun _ _ h => h.elim), h.wd, by have := hb.size; have := h.big; omega, h.bsl, (hb.block _ (by have := h.bsl; have := h.big; omega)).trans h.sys,
  h.tb.of_same fun k hk => hb.block k (h.tb.lt' k hk).2, h.out.below yO hb (Nat.le_refl _), h.no⟩
theorem Bq.on (h : Bq D bs bx SC WR c wv vs xs views row V E Y L X) {X' : World} (hb : Below X.heap.size X X') : Bq D bs bx SC WR c wv vs xs views row V E Y L X' :=
 ⟨h.wr.trans (Wrote.of_below (R := fun _ => False) hb) (fun _ _ h => h.elim), h.wd, by have := hb.size; have := h.big; omega, h.bsl, (hb.block _ (by have := h.bsl; have := h.big; omega)).trans h.sys,
  (hb.block _ h.bxl).trans h.x, h.hx, h.tb.of_same fun k hk => hb.block k (h.tb.lt' k hk).2, h.out.below yO hb (Nat.le_refl _), h.vw.below yv hb (Nat.le_refl _), h.row.below hb (Nat.le_refl _), h.nV, h.nE, h.nY, h.nL⟩
theorem Bt.start (h : Bt D bs SC WR vs xs V E X) {X' : World} (hb : Below X.heap.size X X') (hx : X'.heap[X.heap.size]? = some (.cells #[.int .i64 c, wv, .slice none 0 0] 94 (0, 0))) :
  Bq D bs X.heap.size SC WR c wv vs xs [] [] V E (.slice none 0 0) (.slice none 0 0) X' := by
 have h' := h.on hb
 refine ⟨h'.wr, h'.wd, h'.big, h'.bsl, h'.sys, hx, h.big, h'.tb, ?_, OwnX.nil _ _ _ _, OwnR.nil _ _ _, fun k hk => ?_, fun k hk => ?_, fun k hk => ?_, fun k hk => ?_⟩
 · refine OwnX.below yO (OwnX.mono yO h.out fun k hk hs => ⟨hs, by omega, ?_, ?_⟩) hb (Nat.le_refl _)
   · simp [Value.ownBlock]
   · simp [Value.ownBlock]
 · have := (h.tb.lt' k hk).2
   exact ⟨by omega, h.no k hk, by simp [Value.ownBlock], by simp [Value.ownBlock]⟩
 · have := (h.out.lt k hk).2
   exact ⟨by omega, by simp [Value.ownBlock], by simp [Value.ownBlock]⟩
 · simp [Value.ownBlock] at hk
 · simp [Value.ownBlock] at hk
theorem Bq.put (h : Bq D bs bx SC WR c wv vs xs views row V E Y L X) {W : World} (hb : Below X.heap.size X W) {V' u : Value} {vs' : List Vw} (hT : OwnV W D V' vs') (hV : ∀ k, V'.ownBlock = some k → V.ownBlock = some k ∨ X.heap.size ≤ k)
  (h7 : (SC V E).setIfInBounds 7 u = SC V E) (h8 : (SC V E).setIfInBounds 8 V' = SC V' E) :
  Bq D bs bx SC WR c wv vs' xs views row V' E Y L ((W.setCell ⟨bs, 7, none⟩ u).setCell ⟨bs, 8, none⟩ V') := by
 have h1 := h.on hb
 have hbs := h.bsl
 have hbx := h.hx
 obtain ⟨W', hW'⟩ : ∃ W', (W.setCell ⟨bs, 7, none⟩ u).setCell ⟨bs, 8, none⟩ V' = W' := ⟨_, rfl⟩
 have hk : ∀ k, k ≠ bs → W'.heap[k]? = W.heap[k]? := fun k hk => by
  rw [← hW']
  exact (Below.heap_setCell _ ⟨bs, 8, none⟩ _ k hk).trans (Below.heap_setCell _ ⟨bs, 7, none⟩ _ k hk)
 have hz : W'.heap.size = W.heap.size := by rw [← hW']; simp
 have hs : W'.heap[bs]? = some (.cells (SC V' E) 35 (0, 0)) := by
  rw [← hW']
  have q := heap_setCell_same W bs 7 _ _ u h1.sys
  rw [h7] at q
  have q2 := heap_setCell_same _ bs 8 _ _ V' q
  rwa [h8] at q2
 have hw : Wrote (fun k => k = bs) W W' := by
  rw [← hW']
  exact ⟨rfl, rfl, rfl, by simp, fun k _ hk => (Below.heap_setCell _ ⟨bs, 8, none⟩ _ k hk).trans (Below.heap_setCell _ ⟨bs, 7, none⟩ _ k hk)⟩
 rw [hW']
 refine ⟨h1.wr.trans hw (fun k _ e => e), h.wd, by have := h1.big; omega, h.bsl, hs, (hk _ (by omega)).trans h1.x, h.hx, hT.of_same fun k e => hk k (by have := (hT.lt' k e).1; omega), ?_, ?_, ?_, fun k e => ?_, h.nE, h.nY, h.nL⟩
 · exact h1.out.keep yO ⟨by omega, fun k hs _ => hk k (by have := hs.1; omega)⟩ fun k e => hk k (by have := (h1.out.lt k e).1; omega)
 · exact h1.vw.keep yv ⟨by omega, fun k hs _ => hk k (by have := hs.1; omega)⟩ fun k e => hk k (by have := (h1.vw.lt k e).1; omega)
 · refine h1.row.kept (row := some bs) ⟨hw.os, hw.tape, hw.output, hw.size, fun k _ hn => hk k (fun e => hn (by rw [e]))⟩ (Or.inr (h1.row.ne (by omega)))
 · rcases hV k e with e | e
   · exact h.nV k e
   · have hbl := h.bxl
     exact ⟨by omega, fun e2 => by have := (h.out.lt k e2).2; omega, fun e2 => by have := (h.vw.lt k e2).2; omega, fun e2 => by have := (h.row.lt k e2).2; omega⟩
theorem Zu (W : World) (b o : Nat) (u : Value) : Wrote (fun k => k = b) W (W.setCell ⟨b, o, none⟩ u) := ⟨rfl, rfl, rfl, by simp, fun k _ hn => Below.heap_setCell W ⟨b, o, none⟩ u k hn⟩
theorem OwnX.aside {α : Type} {C : Ct α} (ok : CtOk C) {S : Nat → Prop} {W w5 : World} {v L : Value} {xs : List α} {g' n cap : Nat} (h : OwnX C S W D v xs) (hS : ∀ k, S k → L.ownBlock ≠ some k) (hg : W.grownBy w5 L.ownBlock) (hne : ∀ k, v.ownBlock = some k → L.ownBlock ≠ some k)
  (hat : L.ownBlock = some g' ∨ g' = W.heap.size) : OwnX C (fun k => S k ∧ (Value.slice (some ⟨g', 0, none⟩) n cap).ownBlock ≠ some k) w5 D v xs := by
 have h1 : OwnX C (fun k => S k ∧ (Value.slice (some ⟨g', 0, none⟩) n cap).ownBlock ≠ some k) W D v xs := OwnX.mono ok h fun k hk hs => ⟨hs, fun e => by
  have e2 : g' = k := by simpa [Value.ownBlock] using e
  rcases hat with e3 | e3
  · exact hS k hs (by rw [e3, e2])
  · omega⟩
 refine h1.kept ok hg ?_ fun k hk => .inl fun hs => hS k hs.1 hk
 cases hv : v.ownBlock with
 | none => exact .inl rfl
 | some k => exact .inr fun e => hne k hv e.symm
theorem OwnV.aside {W w5 : World} {v L : Value} {vs : List Vw} (h : OwnV W D v vs) (hg : W.grownBy w5 L.ownBlock) (hne : ∀ k, v.ownBlock = some k → L.ownBlock ≠ some k) : OwnV w5 D v vs :=
 h.of_same fun k hk => hg.block k (h.lt' k hk).2 fun e => hne k hk e.symm
theorem qb {L : Value} {W : World} {g' n cap : Nat} {P : Nat → Prop} (hat : L.ownBlock = some g' ∨ g' = W.heap.size) (h1 : ∀ k, L.ownBlock = some k → P k) (h2 : P W.heap.size) : ∀ k, (Value.slice (some ⟨g', 0, none⟩) n cap).ownBlock = some k → P k := fun k e => by
 have e2 : g' = k := by simpa [Value.ownBlock] using e
 subst e2
 rcases hat with e3 | e3
 · exact h1 g' e3
 · rw [e3]; exact h2
theorem Bq.push (h : Bq D bs bx SC WR c wv vs xs views row V E Y L X) {W w5 : World} (hb : Below X.heap.size X W) {i : Int} {g' cap : Nat}
  (hr : OwnR kIn w5 D (.slice (some ⟨g', 0, none⟩) (row.length + 1) cap) (row.length + 1) (row.map (Value.int .i64) ++ [.int .i64 i])) (hg : W.grownBy w5 L.ownBlock) (hat : L.ownBlock = some g' ∨ g' = W.heap.size) :
  Bq D bs bx SC WR c wv vs xs views (row ++ [i]) V E Y (.slice (some ⟨g', 0, none⟩) (row.length + 1) cap) w5 := by
 have h1 := h.on hb
 have hll := h1.row.lt
 have hbs := h.bsl
 have hbx := h.hx
 have hbig := h1.big
 have hVl := h1.tb.lt'
 have hEl := h1.out.lt
 have hYl := h1.vw.lt
 have hbl := h1.bxl
 have hgz := hg.size
 refine ⟨h1.wr.trans (Wrote.of_grown (R := fun k => D ≤ k) hg (fun k e _ => (hll k e).1)) (fun k hk e => by have := h.wd; omega), h.wd, by omega, h.bsl, ?_, ?_, h.hx, h1.tb.aside hg fun k e => (h.nV k e).2.2.2, ?_, ?_, by simpa using hr, fun k e => ?_, fun k e => ?_, fun k e => ?_, ?_⟩
 · exact (hg.block bs (by omega) fun e => by have := (hll bs e.symm).1; omega).trans h1.sys
 · exact (hg.block bx hbl fun e => h.nL bx e.symm rfl).trans h1.x
 · exact OwnX.mono yO (h1.out.aside yO (n := row.length + 1) (cap := cap) (fun k hs => hs.2.2.2) hg (fun k e => (h.nE k e).2.2) hat) fun k _ hs => ⟨hs.1.1, hs.1.2.1, hs.1.2.2.1, hs.2⟩
 · exact OwnX.mono yv (h1.vw.aside yv (n := row.length + 1) (cap := cap) (fun k hs => hs.2.2.2) hg (fun k e => (h.nY k e).2) hat) fun k _ hs => ⟨hs.1.1, hs.1.2.1, hs.1.2.2.1, hs.2⟩
 · exact ⟨(h.nV k e).1, (h.nV k e).2.1, (h.nV k e).2.2.1, fun e2 => qb (P := fun j => V.ownBlock ≠ some j) hat (fun j ej ev => (h.nV j ev).2.2.2 ej) (fun ev => by have := (hVl _ ev).2; omega) k e2 e⟩
 · exact ⟨(h.nE k e).1, (h.nE k e).2.1, fun e2 => qb (P := fun j => E.ownBlock ≠ some j) hat (fun j ej ev => (h.nE j ev).2.2 ej) (fun ev => by have := (hEl _ ev).2; omega) k e2 e⟩
 · exact ⟨(h.nY k e).1, fun e2 => qb (P := fun j => Y.ownBlock ≠ some j) hat (fun j ej ev => (h.nY j ev).2 ej) (fun ev => by have := (hYl _ ev).2; omega) k e2 e⟩
 · exact qb hat h.nL (by omega)
theorem Bq.close (h : Bq D bs bx SC WR c wv vs xs views row V E Y L X) {W w5 : World} (hb : Below X.heap.size X W) {g' cap : Nat} {css : List (List Value)} (hcl : css.length = views.length)
  (hcs : ∀ (i : Nat) (h1 : i < css.length) (h2 : i < views.length), cIs.lies (fun k => (D ≤ k ∧ k ≠ bx ∧ E.ownBlock ≠ some k ∧ L.ownBlock ≠ some k) ∧ Y.ownBlock ≠ some k) W css[i] views[i])
  (hr : OwnR kIs w5 D (.slice (some ⟨g', 0, none⟩) (views.length + 1) cap) (views.length + 1) (css.flatten ++ [L])) (hg : W.grownBy w5 Y.ownBlock) (hat : Y.ownBlock = some g' ∨ g' = W.heap.size) :
  Bq D bs bx SC WR c wv vs xs (views ++ [row]) [] V E (.slice (some ⟨g', 0, none⟩) (views.length + 1) cap) (.slice none 0 0) (w5.setCell ⟨bx, 2, none⟩ (.slice (some ⟨g', 0, none⟩) (views.length + 1) cap)) := by
 have h1 := h.on hb
 have hll := h1.vw.lt
 have hbs := h.bsl
 have hbx := h.hx
 have hbig := h1.big
 have hVl := h1.tb.lt'
 have hEl := h1.out.lt
 have hRl := h1.row.lt
 have hbl := h1.bxl
 have hgz := hg.size
 obtain ⟨A, cL, eL, _, _, hLc⟩ := h1.row.form
 have hX : cIs.lies (fun k => (D ≤ k ∧ k ≠ bx ∧ E.ownBlock ≠ some k) ∧ Y.ownBlock ≠ some k) W [L] row := by
  refine ⟨A, cL, by rw [eL], fun h0 => ?_⟩
  obtain ⟨g, hA, hgo, hgl, hc⟩ := hLc h0
  refine ⟨g, 0, hA, ⟨⟨(hRl g hgo).1, h.nL g hgo, fun e => (h.nE g e).2.2 hgo⟩, fun e => (h.nY g e).2 hgo⟩, hgl, fun i hi => ?_⟩
  rw [Nat.zero_add]
  exact hc i _ (by simp [hi])
 have hv := OwnX.app yv (S := fun k => D ≤ k ∧ k ≠ bx ∧ E.ownBlock ≠ some k) hcl (fun i i1 i2 => yv.mono (hcs i i1 i2) fun k _ hs => ⟨⟨hs.1.1, hs.1.2.1, hs.1.2.2.1⟩, hs.2⟩) hX hr hg hat
 have hout := h1.out.aside yO (n := views.length + 1) (cap := cap) (fun k hs => hs.2.2.1) hg (fun k e => (h.nE k e).2.1) hat
 have hgx : w5.heap[bx]? = some (.cells #[.int .i64 c, wv, Y] 94 (0, 0)) := (hg.block bx hbl fun e => (h.nY bx e.symm).1 rfl).trans h1.x
 have hgs : w5.heap[bs]? = some (.cells (SC V E) 35 (0, 0)) := (hg.block bs (by omega) fun e => by have := (hll bs e.symm).1; omega).trans h1.sys
 have hk : ∀ k, k ≠ bx → (w5.setCell ⟨bx, 2, none⟩ (.slice (some ⟨g', 0, none⟩) (views.length + 1) cap)).heap[k]? = w5.heap[k]? := fun k hk => Below.heap_setCell w5 ⟨bx, 2, none⟩ _ k hk
 have hw : Wrote (fun k => D ≤ k) W (w5.setCell ⟨bx, 2, none⟩ (.slice (some ⟨g', 0, none⟩) (views.length + 1) cap)) :=
  (Wrote.of_grown (R := fun k => D ≤ k) hg (fun k e _ => (hll k e).1)).trans (Zu w5 bx 2 _) (fun k _ e => by omega)
 refine ⟨h1.wr.trans hw (fun k hk e => by have := h.wd; omega), h.wd, by simp; omega, h.bsl, (hk bs (by omega)).trans hgs, ?_, h.hx, ?_, ?_, ?_, OwnR.nil _ _ _, fun k e => ?_, fun k e => ?_, fun k e => ?_, fun k e => ?_⟩
 · rw [heap_setCell_same w5 bx 2 _ _ _ hgx]; rfl
 · exact (h1.tb.aside hg fun k e => (h.nV k e).2.2.1).of_same fun k e => hk k (h.nV k e).1
 · exact OwnX.mono yO (hout.keep yO ⟨by simp, fun k hs _ => hk k hs.1.2.1⟩ fun k e => hk k (h.nE k e).1) fun k _ hs => ⟨hs.1.1, hs.1.2.1, hs.2, by simp [Value.ownBlock]⟩
 · refine OwnX.mono yv (hv.keep yv ⟨by simp, fun k hs _ => hk k hs.2.1⟩ fun k e => hk k ?_) fun k _ hs => ⟨hs.1, hs.2.1, hs.2.2, by simp [Value.ownBlock]⟩
   exact qb (P := fun j => j ≠ bx) hat (fun j e => (h.nY j e).1) (by omega) k e
 · exact ⟨(h.nV k e).1, (h.nV k e).2.1, fun e2 => qb (P := fun j => V.ownBlock ≠ some j) hat (fun j ej ev => (h.nV j ev).2.2.1 ej) (fun ev => by have := (hVl _ ev).2; omega) k e2 e, by simp [Value.ownBlock]⟩
 · exact ⟨(h.nE k e).1, fun e2 => qb (P := fun j => E.ownBlock ≠ some j) hat (fun j ej ev => (h.nE j ev).2.1 ej) (fun ev => by have := (hEl _ ev).2; omega) k e2 e, by simp [Value.ownBlock]⟩
 · exact ⟨qb (P := fun j => j ≠ bx) hat (fun j e => (h.nY j e).1) (by omega) k e, by simp [Value.ownBlock]⟩
 · simp [Value.ownBlock] at e
theorem Bq.done (h : Bq D bs bx SC WR c wv vs xs views [] V E Y (.slice none 0 0) X) {W w5 : World} (hb : Below X.heap.size X W) {g' cap A2 c2 A3 c3 : _} {css : List (List Value)} {word : List Rd} (hcl : css.length = xs.length)
  (hcs : ∀ (i : Nat) (h1 : i < css.length) (h2 : i < xs.length), cXn.lies (fun k => (bs < k ∧ k ≠ bx ∧ Y.ownBlock ≠ some k ∧ (Value.slice none 0 0).ownBlock ≠ some k) ∧ E.ownBlock ≠ some k) W css[i] xs[i])
  (hwv : wv = .slice A2 word.length c2) (hYv : Y = .slice A3 views.length c3) (hw : RAtS (fun k => bs < k ∧ k < D) WR A2 word)
  (hr : OwnR kXn w5 D (.slice (some ⟨g', 0, none⟩) (xs.length + 1) cap) (xs.length + 1) (css.flatten ++ [.int .i64 c, wv, Y])) (hg : W.grownBy w5 E.ownBlock) (hat : E.ownBlock = some g' ∨ g' = W.heap.size)
  (h9 : (SC V E).setIfInBounds 9 (.slice (some ⟨g', 0, none⟩) (xs.length + 1) cap) = SC V (.slice (some ⟨g', 0, none⟩) (xs.length + 1) cap)) :
  Bt D bs SC WR vs (xs ++ [⟨c, word, views⟩]) V (.slice (some ⟨g', 0, none⟩) (xs.length + 1) cap) (w5.setCell ⟨bs, 9, none⟩ (.slice (some ⟨g', 0, none⟩) (xs.length + 1) cap)) := by
 have h1 := h.on hb
 have hll := h1.out.lt
 have hbs := h.bsl
 have hbx := h.hx
 have hbig := h1.big
 have hVl := h1.tb.lt'
 have hYl := h1.vw.lt
 have hgz := hg.size
 obtain ⟨A3', c3', e3, _, _, hL⟩ := Z0 h1.vw
 rw [hYv] at e3
 cases e3
 have hX : cXn.lies (fun k => bs < k ∧ E.ownBlock ≠ some k) W [.int .i64 c, wv, Y] ⟨c, word, views⟩ := by
  refine ⟨A2, c2, A3, c3, by rw [hwv, hYv], ?_, ?_⟩
  · exact (hw.keep ⟨h1.wr.size, fun k hk hl => h1.wr.block k hl (fun e => by have := hk.1; omega)⟩).mono fun k _ hs => ⟨hs.1, fun e => by have := (hll k e).1; have := hs.2; omega⟩
  · refine hL.mono fun k _ hs => ?_
    rcases hs with hs | hs
    · exact ⟨by have := hs.1; omega, hs.2.2.1⟩
    · exact ⟨by have := (hYl k hs).1; omega, fun e => (h.nE k e).2.1 hs⟩
 have hv := OwnX.app yO (S := fun k => bs < k) hcl (fun i i1 i2 => yO.mono (hcs i i1 i2) fun k _ hs => ⟨hs.1.1, hs.2⟩) hX hr hg hat
 have hgs : w5.heap[bs]? = some (.cells (SC V E) 35 (0, 0)) := (hg.block bs (by omega) fun e => by have := (hll bs e.symm).1; omega).trans h1.sys
 have hk : ∀ k, k ≠ bs → (w5.setCell ⟨bs, 9, none⟩ (.slice (some ⟨g', 0, none⟩) (xs.length + 1) cap)).heap[k]? = w5.heap[k]? := fun k hk => Below.heap_setCell w5 ⟨bs, 9, none⟩ _ k hk
 have hwr : Wrote (fun k => k = bs ∨ D ≤ k) W (w5.setCell ⟨bs, 9, none⟩ (.slice (some ⟨g', 0, none⟩) (xs.length + 1) cap)) :=
  (Wrote.of_grown (R := fun k => k = bs ∨ D ≤ k) hg (fun k e _ => .inr (hll k e).1)).trans (Zu w5 bs 9 _) (fun k _ e => .inl e)
 refine ⟨h1.wr.trans hwr (fun k hk e => by have := h.wd; omega), h.wd, by simp; omega, h.bsl, ?_, ?_, ?_, fun k e => ?_⟩
 · rw [heap_setCell_same w5 bs 9 _ _ _ hgs, h9]
 · exact (h1.tb.aside hg fun k e => (h.nV k e).2.1).of_same fun k e => hk k (by have := (hVl k e).1; omega)
 · refine hv.keep yO ⟨by simp, fun k hs _ => hk k (by omega)⟩ fun k e => hk k ?_
   exact qb (P := fun j => j ≠ bs) hat (fun j e => by have := (hll j e).1; omega) (by omega) k e
 · exact fun e2 => qb (P := fun j => V.ownBlock ≠ some j) hat (fun j ej ev => (h.nV j ev).2.1 ej) (fun ev => by have := (hVl _ ev).2; omega) k e2 e
end
end
end Go.Proofs.YtdkmpccfnnpnbaaGreat
