/- Parts PtsA Box PtsB PtsN Sees PtsC CmnA CmnG CmnP ExF39 Ex39 CmnR CmnB RepN Tail. -/
import Derived.Test.YtdkmpccfnnpnbaaGreatProg
import Derived.Test.YtdkmpccfnnpnbaaGreatKd
import Derived.Test.YtdkmpccfnnpnbaaGreatKb
import Derived.Test.YtdkmpccfnnpnbaaGreatKc
import Derived.Test.YtdkmpccfnnpnbaaGreatKe
import Derived.Laws.EntriesVeiled
import Derived.Test.YtdkmpccfnnpnbaaGreatKa
import Derived.Carry
import Derived.Laws.CopyOwn
import Derived.Deep.RegionLaw
import Derived.Deep.QuietTactic
import Derived.BigQuiet
import Derived.StillTactics
import Derived.IntWalk
import Derived.Deep.DeepCutAuto
import Derived.Maps.RangeWalk

namespace Go.Proofs.YtdkmpccfnnpnbaaGreat
set_option maxHeartbeats 4000000
section
open Go.RowKit Go.Shelf
attribute [local go_sem] Oper.semAt_some
theorem Jo (n : Nat) (hn : 0 < n) : ∀ m i, zg n i m = (List.range (m * n)).map fun t => (i + t / n, t % n)
 | 0, i => by simp [zg]
 | m + 1, i => by
  rw [zg, Jo n hn m (i + 1), Nat.succ_mul, Nat.add_comm (m * n) n, List.range_add, List.map_append, List.map_map]
  congr 1
  · refine List.map_congr_left fun t ht => ?_
    have := List.mem_range.1 ht
    rw [Nat.div_eq_of_lt this, Nat.mod_eq_of_lt this, Nat.add_zero]
  · refine List.map_congr_left fun t _ => ?_
    simp only [Function.comp]
    rw [Nat.add_div_left _ hn, Nat.add_mod_left]
    congr 1
    omega
theorem Jn (n m : Nat) (hn : 0 < n) : (zg n 0 m).length = m * n := by rw [Jo n hn]; simp
set_option maxRecDepth 100000 in
theorem all_any (s : Sy) (A SV AV AX : Option Addr) (kc ks kv kx : Nat) (w : World) : Calls Tryz.prog 93 #[.agg (s.vs_ A kc SV ks AV kv AX kx)] w fun e w' =>
  e = .returned (.func (.func 147) #[] #[.pointer (some ⟨w.heap.size, 0, none⟩)]) ∧ w.alloc (.cells (s.vs_ A kc SV ks AV kv AX kx) 35) = w' := by
 unfold Sy.vs_
 go_enter Tryz.func93, Tryz.ntmps93
 go_wp2
 go_ret
 exact ⟨rfl, rfl⟩
structure PtC (C : Array Value) (K M : Nat) (AX : Option Addr) (kx : Nat) : Prop where
 c6 : C[6]? = some (.int .i64 (K : Int))
 c9 : C[9]? = some (.slice AX M kx)
set_option maxRecDepth 100000 in
theorem all1_iter (C : Array Value) (K M : Nat) (hK : K ≤ 100) (hM : M ≤ 100) (AX : Option Addr) (kx : Nat) (hC : PtC C K M AX kx) (bs : Nat) (w : World) (hb : w.heap[bs]? = some (.cells C 35 (0, 0))) :
  Ja Tryz.prog 147 #[.pointer (some ⟨bs, 0, none⟩)] (fun x : Nat × Nat => #[.agg #[.int .i64 x.1, .int .i64 x.2]]) (fun k => k = bs) (zg (K + 1) 0 M) w := fun n hn l J Jx W hW hJ hJx hY h0 => by
 have hbp : bs < w.heap.size := (Array.getElem?_eq_some_iff.1 hb).1
 have hp0 := (hW.block bs hbp).trans hb
 have HY := zH hY
 have c9 := za hp0 9 hC.c9
 have HC6 := zH hC.c6
 have H0 := zH h0
 have HP0 := zH hp0
 have hpW : bs < W.heap.size := Nat.lt_of_lt_of_le hbp hW.size
 clear hY hJ hJx h0 hp0 hb hW hbp hC
 refine callsIn_of_wp Tryz.func147 rfl trivial ?_ rfl
 simp only [Tryz.ntmps147, List.size_toArray, List.length_cons, List.length_nil, Nat.reduceAdd, Nat.reduceSub, Array.replicate_succ, Array.replicate_zero, List.push_toArray, List.append_toArray, List.nil_append, List.cons_append]
 gi_wp2
 gi_loopw [8] (fun q wr => ∃ s : Nat, s ≤ M ∧ q = .int .i64 (s : Int) ∧ ∃ pre : List { x : Nat × Nat // x ∈ zg (K + 1) 0 M }, Hid (pre.map (·.1) ++ zg (K + 1) s (M - s) = zg (K + 1) 0 M) ∧ Hid (J pre wr) ∧ Hid (wr.heap[bs]? = some (.cells C 35 (0, 0))) ∧ W.heap.size ≤ wr.heap.size) (fun q _ => M - (intOf q).toNat)
 case atStart => exact ⟨0, by omega, rfl, [], by simp [Hid], H0, HP0, Nat.le_refl _⟩
 case round =>
  obtain ⟨s, hs, rfl, pre, hpr, hJ0, hPr, hsz⟩ := hrel
  clear c9 HP0 H0
  by_cases hlt : s < M
  · have hdr : zg (K + 1) s (M - s) = yy (K + 1) s 0 ++ zg (K + 1) (s + 1) (M - (s + 1)) := by
     rw [show M - s = (M - (s + 1)) + 1 by omega, zg]
     unfold yy
     rw [List.drop_zero]
    have HP : Hid (pre.map (·.1) ++ (yy (K + 1) s 0 ++ zg (K + 1) (s + 1) (M - (s + 1))) = zg (K + 1) 0 M) := by rw [← hdr]; exact hpr.out
    have q6 := za hPr.out 6 HC6.out
    have hw1 : IntKind.i64.wrap ((K : Int) + 1) = (K : Int) + 1 := by rw [IntKind.wrap_i64]; omega
    clear hdr hpr
    gi_wp2_with fail
    gi_loopw [15] (fun q wr => ∃ j : Nat, j ≤ K + 1 ∧ q = .int .i64 (j : Int) ∧ ∃ pre : List { x : Nat × Nat // x ∈ zg (K + 1) 0 M }, Hid (pre.map (·.1) ++ (yy (K + 1) s j ++ zg (K + 1) (s + 1) (M - (s + 1))) = zg (K + 1) 0 M) ∧ Hid (J pre wr) ∧ Hid (wr.heap[bs]? = some (.cells C 35 (0, 0))) ∧ W.heap.size ≤ wr.heap.size) (fun q _ => K + 1 - (intOf q).toNat)
    case atStart => exact ⟨0, by omega, rfl, pre, HP, hJ0, hPr, hsz⟩
    case round =>
     clear HP q6 hJ0 hPr hsz
     obtain ⟨j, hj, rfl, pre, hpr, hJ0, hPr, hsz⟩ := hrel
     by_cases hjl : j < K + 1
     · have hp2 : pre.map (·.1) ++ ((s, j) :: (yy (K + 1) s (j + 1) ++ zg (K + 1) (s + 1) (M - (s + 1)))) = zg (K + 1) 0 M := by
        have := hpr.out
        rw [vx hjl, List.cons_append] at this
        exact this
       have hmem : (s, j) ∈ zg (K + 1) 0 M := by rw [← hp2]; simp
       have hlen : pre.length < (zg (K + 1) 0 M).length := by
        have := congrArg List.length hp2
        simp only [List.length_append, List.length_map, List.length_cons] at this
        omega
       obtain ⟨fn, tmps, assign, body, hy, hR⟩ := HY.out pre ⟨(s, j), hmem⟩ _ hJ0.out hlen
       dsimp only at hy
       have HP2 : Hid ((pre ++ [(⟨(s, j), hmem⟩ : { x : Nat × Nat // x ∈ zg (K + 1) 0 M })]).map (·.1) ++ (yy (K + 1) s (j + 1) ++ zg (K + 1) (s + 1) (M - (s + 1))) = zg (K + 1) 0 M) := by
        rw [List.map_append, List.append_assoc]
        exact hp2
       have HR := zH hR
       have hjI : (j : Int) < (K : Int) + 1 := by omega
       clear hp2 hpr hR
       gi_wp2_with fail
       refine HR.out.mono ?_
       rintro e W3 (⟨rfl, hJ3, hk3⟩ | ⟨rfl, hJx3⟩)
       · have hs1 : wr.heap.size ≤ W3.heap.size := hk3.size
         have P3 := zH ((hk3.same bs rfl (by omega)).trans hPr.out)
         have J3 := zH hJ3
         have hsz3 : W.heap.size ≤ W3.heap.size := by omega
         clear hk3 hJ3 hs1
         gi_wp2_with fail
         go_roundw
         case rel => exact ⟨j + 1, by omega, by go_num, _, HP2, J3, P3, hsz3⟩
         case measure => simp [intOf]; omega
       · gi_wp2_with fail
         refine bodyPost_ret (results_none rfl _ _ _) rfl ?_
         refine ⟨⟨_, rfl⟩, .inr ⟨_, ?_, hJx3⟩⟩
         exact ⟨_, HP2.out⟩
     · obtain rfl : j = K + 1 := by omega
       have HP : Hid (pre.map (·.1) ++ zg (K + 1) (s + 1) (M - (s + 1)) = zg (K + 1) 0 M) := by have := hpr.out; rwa [uH, List.nil_append] at this
       have hjI : ¬ (((K + 1 : Nat) : Int) < (K : Int) + 1) := by omega
       clear hpr
       gi_wp2_with fail
       go_roundw
       case rel => exact ⟨s + 1, by omega, by go_num, pre, HP, hJ0, hPr, hsz⟩
       case measure => simp [intOf]; omega
  · obtain rfl : M = s := by omega
    have HP : Hid (pre.map (·.1) = zg (K + 1) 0 M) := by have := hpr.out; rwa [Nat.sub_self, zg, List.append_nil] at this
    clear hpr
    gi_wp2_with fail
    go_end0
    exact ⟨⟨_, rfl⟩, .inl ⟨pre, HP.out, hJ0.out⟩⟩
end
section
open Go.RowKit Go.Shelf
theorem Xi {w : World} {base : Nat} {v : Value} {xs : List Int} (h : Own w base v xs) {k : Nat} {cs : Array Value} {t : TypeId} (hk : w.heap[k]? = some (.cells cs t (0, 0))) (ht : t ≠ 3) : v.ownBlock ≠ some k := by
 intro e
 rcases h.2 with ⟨rfl, _⟩ | ⟨g, cap, cur, rfl, _, hg, _⟩
 · cases e
 · simp only [Value.ownBlock, Option.some.injEq] at e
   subst e
   rw [hk] at hg
   cases hg
   exact ht rfl
theorem ZF {w : World} {base : Nat} {v : Value} {xs : List Int} (h : Own w base v xs) : ∀ r, v.ownBlock = some r → base ≤ r ∧ ∀ o, w.heap[r]? = some o → o.isCells = true := by
 intro r hr
 refine ⟨(h.lt r hr).1, fun o ho => ?_⟩
 rcases h.2 with ⟨rfl, _⟩ | ⟨g, cap, cur, rfl, _, hg, _⟩
 · cases hr
 · simp only [Value.ownBlock, Option.some.injEq] at hr
   subst hr
   rw [hg] at ho
   cases ho
   rfl
end
section
open Go.RowKit Go.Shelf
attribute [local go_sem] Oper.semAt_some
theorem Ya {α : Type} : ∀ {l m : List α}, l.Nodup → (∀ x ∈ l, x ∈ m) → l.length ≤ m.length
 | [], _, _, _ => by simp
 | a :: l, m, hn, h => by
  classical
  obtain ⟨h1, h2⟩ := List.nodup_cons.1 hn
  have ha : a ∈ m := h a (by simp)
  have := Ya (l := l) (m := m.erase a) h2 (fun x hx => by
   have hne : x ≠ a := by rintro rfl; exact h1 hx
   exact (List.mem_erase_of_ne hne).2 (h x (by simp [hx])))
  rw [List.length_erase_of_mem ha] at this
  have hpos : 0 < m.length := List.length_pos_of_mem ha
  simp only [List.length_cons]
  omega
theorem MapOf.count {κ : Type} {enc : κ → Value} (inj : ∀ a b, enc a = enc b → a = b) {w : World} {b n : Nat} {f : κ → Option Value} {l : List κ} (h : MapOf enc w b n f) (hn : l.Nodup) (hf : ∀ k, (∃ v, f k = some v) ↔ k ∈ l) :
  ∃ es clock, w.heap[b]? = some (.map es clock) ∧ es.size = l.length := by
 obtain ⟨es, clock, hb, _, hp, h1, h2⟩ := h
 refine ⟨es, clock, hb, ?_⟩
 have e1 : (es.toList.map (·.key)).Nodup := List.pairwise_map.2 hp
 have e2 : (l.map enc).Nodup := List.pairwise_map.2 (hn.imp fun hab e => hab (inj _ _ e))
 have g1 := Ya e1 (m := l.map enc) (fun x hx => by
  obtain ⟨e, he, rfl⟩ := List.mem_map.1 hx
  obtain ⟨k, hk, hv⟩ := h1 e he
  exact List.mem_map.2 ⟨k, (hf k).1 ⟨_, hv⟩, hk.symm⟩)
 have g2 := Ya e2 (m := es.toList.map (·.key)) (fun x hx => by
  obtain ⟨k, hk, rfl⟩ := List.mem_map.1 hx
  obtain ⟨v, hv⟩ := (hf k).2 hk
  obtain ⟨e, he, hek, _⟩ := h2 k v hv
  exact List.mem_map.2 ⟨e, he, hek⟩)
 simp at g1 g2
 omega
def vZ (l : List Int) : Int → Option Value := fun k => if k ∈ l then some (.int .i64 (l.idxOf k : Int)) else none
theorem numG_nil : vZ [] = fun _ => none := by funext k; simp [vZ]
theorem numG_put {l : List Int} {k : Int} (h : k ∉ l) : qe (vZ l) k (.int .i64 (l.length : Int)) = vZ (l ++ [k]) := by
 funext x
 unfold qe vZ
 by_cases e : x = k
 · subst e
   rw [if_pos rfl, if_pos (by simp), List.idxOf_append, if_neg h]
   simp
 · rw [if_neg e]
   by_cases hx : x ∈ l
   · rw [if_pos hx, if_pos (by simp [hx]), List.idxOf_append, if_pos hx]
   · rw [if_neg hx, if_neg (by simp [hx, e])]
theorem uJ {α : Type} [DecidableEq α] : ∀ (l acc : List α), acc.Nodup → (l.foldl xD acc).Nodup
 | [], _, h => h
 | k :: l, acc, h => by
  rw [List.foldl_cons]
  refine uJ l _ ?_
  unfold xD
  split
  · exact h
  · rename_i hk
    exact List.nodup_append.2 ⟨h, by simp, fun a ha b hb => by rw [List.mem_singleton] at hb; subst hb; rintro rfl; exact hk ha⟩
theorem Xj {α : Type} [DecidableEq α] (l : List α) : (yF l).Nodup := uJ l [] List.nodup_nil
theorem Qv {w : World} {b n : Nat} {us : List Int} (h : MapOf (Value.int .i64) w b n (vZ us)) (hu : us.Nodup) : ∃ es clock, w.heap[b]? = some (.map es clock) ∧ es.size = us.length :=
 h.count (fun a b e => by injection e) hu (fun k => by
  unfold vZ
  by_cases hk : k ∈ us
  · simp [hk]
  · simp [hk])
theorem Own.same {w w' : World} {base : Nat} {v : Value} {xs : List Int} (h : Own w base v xs) (hs : ∀ k, base ≤ k → k < w.heap.size → w'.heap[k]? = w.heap[k]?) : Own w' base v xs := by
 refine ⟨h.1, ?_⟩
 rcases h.2 with hn | ⟨g, cap, cur, hv, hb, hg, rest⟩
 · exact .inl hn
 · exact .inr ⟨g, cap, cur, hv, hb, (hs g hb (zd hg)).trans hg, rest⟩
structure NbIn (B : Nat) (S : Array Value) (F : Value) (R : Nat → Prop) (us ls : List Int) (w W : World) : Prop where
 wrote : Wrote R w W
 b0 : W.heap[B]? = some (.cells S 35 (0, 0))
 b1 : W.heap[B + 1]? = some (.cells #[F] 154 (0, 0))
 b3 : W.heap[B + 1 + 1 + 1]? = some (.cells #[.map (some (B + 1 + 1))] 115 (0, 0))
 b5 : W.heap[B + 1 + 1 + 1 + 1 + 1]? = some (.cells S 35 (0, 0))
 hm : ∃ m, MapOf (Value.int .i64) W (B + 1 + 1) m (vZ us)
 box : ∃ P c, W.heap[B + 1 + 1 + 1 + 1]? = some (.cells #[.slice P ls.length c] 38 (0, 0)) ∧ Own W (B + 6) (.slice P ls.length c) ls
 sz : B + 6 ≤ W.heap.size
section
variable {B : Nat} {S : Array Value} {F : Value} {R : Nat → Prop} {us ls : List Int} {w W W' : World}
theorem NbIn.turn {row : Option Nat} (h : NbIn B S F R us ls w W) (hw : w.heap.size ≤ B) (hg : W.grownBy W' row) (hr : ∀ r, row = some r → B + 6 ≤ r ∧ ∃ o : Obj, W.heap[r]? = some o ∧ o.isCells = false) : NbIn B S F R us ls w W' := by
 obtain ⟨P, c, hb, ho⟩ := h.box
 obtain ⟨m, hm⟩ := h.hm
 have hsz := h.sz
 have old : ∀ k, k < B + 6 → W'.heap[k]? = W.heap[k]? := fun k hk => hg.block k (by omega) (fun e => by have := (hr k e.symm).1; omega)
 refine ⟨h.wrote.trans (Wrote.of_grown (R := fun k => w.heap.size ≤ k) hg (fun k e hk => by have := (hr k e).1; omega)) (fun k h1 h2 => by omega), (old B (by omega)).trans h.b0, (old _ (by omega)).trans h.b1, (old _ (by omega)).trans h.b3, (old _ (by omega)).trans h.b5, ⟨m, hm.same (old _ (by omega))⟩, ⟨P, c, (old _ (by omega)).trans hb, ho.kept hg ?_⟩, Nat.le_trans hsz hg.size⟩
 rcases e : (Value.slice P ls.length c).ownBlock with _ | g
 · exact .inl rfl
 · refine .inr fun e2 => ?_
   obtain ⟨o, h1, h2⟩ := (hr g e2.symm).2
   have := (ZF ho g e).2 o h1
   rw [this] at h2; cases h2
theorem NbIn.call (h : NbIn B S F R us ls w W) (hw : Wrote R W W') (hR : ∀ k, R k → k < B) : NbIn B S F R us ls w W' := by
 obtain ⟨P, c, hb, ho⟩ := h.box
 obtain ⟨m, hm⟩ := h.hm
 have hsz := h.sz
 have old : ∀ k, B ≤ k → k < W.heap.size → W'.heap[k]? = W.heap[k]? := fun k hk hl => hw.block k hl (fun e => by have := hR k e; omega)
 exact ⟨h.wrote.trans hw (fun _ _ h => h), (old B (by omega) (by omega)).trans h.b0, (old _ (by omega) (by omega)).trans h.b1, (old _ (by omega) (by omega)).trans h.b3, (old _ (by omega) (by omega)).trans h.b5, ⟨m, hm.same (old _ (by omega) (by omega))⟩, ⟨P, c, (old _ (by omega) (by omega)).trans hb, ho.same fun k hk hl => old k (by omega) hl⟩, Nat.le_trans hsz hw.size⟩
theorem NbIn.put {us' : List Int} {m : Nat} (h : NbIn B S F R us ls w W) (hw : w.heap.size ≤ B) (hg : W.grownBy W' (some (B + 1 + 1))) (hm : MapOf (Value.int .i64) W' (B + 1 + 1) m (vZ us')) : NbIn B S F R us' ls w W' := by
 obtain ⟨P, c, hb, ho⟩ := h.box
 have hsz := h.sz
 have old : ∀ k, k < W.heap.size → k ≠ B + 1 + 1 → W'.heap[k]? = W.heap[k]? := fun k hk hl => hg.block k hk (fun e => hl (by cases e; rfl))
 exact ⟨h.wrote.trans (Wrote.of_grown (R := fun k => w.heap.size ≤ k) hg (fun k e hk => by cases e; omega)) (fun k h1 h2 => by omega), (old B (by omega) (by omega)).trans h.b0, (old _ (by omega) (by omega)).trans h.b1, (old _ (by omega) (by omega)).trans h.b3, (old _ (by omega) (by omega)).trans h.b5, ⟨m, hm⟩, ⟨P, c, (old _ (by omega) (by omega)).trans hb, ho.same fun k hk hl => old k hl (by omega)⟩, Nat.le_trans hsz hg.size⟩
theorem NbIn.push {P P2 : Option Addr} {c c2 : Nat} {u : Int} {W1 : World} (h : NbIn B S F R us ls w W) (hw : w.heap.size ≤ B) (hb : W.heap[B + 1 + 1 + 1 + 1]? = some (.cells #[.slice P ls.length c] 38 (0, 0))) (ho : Own W (B + 6) (.slice P ls.length c) ls)
  (ho1 : Own W1 (B + 6) (.slice P2 (ls.length + 1) c2) (ls ++ [u])) (hg : W.grownBy W1 (Value.slice P ls.length c).ownBlock) :
  NbIn B S F R us (ls ++ [u]) w (W1.setCell ⟨B + 1 + 1 + 1 + 1, 0, none⟩ (.slice P2 (ls.length + 1) c2)) := by
 obtain ⟨m, hm⟩ := h.hm
 have hsz := h.sz
 have hlo := ho.lt
 have hs1 := hg.size
 have old1 : ∀ k, k < B + 6 → W1.heap[k]? = W.heap[k]? := fun k hk => hg.block k (by omega) (fun e => by have := (hlo k e.symm).1; omega)
 have hb1 := (old1 _ (by omega)).trans hb
 obtain ⟨x1, x2, x3⟩ := kD hb1 (.slice P2 (ls.length + 1) c2)
 have old : ∀ k, k < B + 6 → k ≠ B + 1 + 1 + 1 + 1 → (W1.setCell ⟨B + 1 + 1 + 1 + 1, 0, none⟩ (.slice P2 (ls.length + 1) c2)).heap[k]? = W.heap[k]? := fun k hk hne => (x3 k hne).trans (old1 k hk)
 refine ⟨?_, (old B (by omega) (by omega)).trans h.b0, (old _ (by omega) (by omega)).trans h.b1, (old _ (by omega) (by omega)).trans h.b3, (old _ (by omega) (by omega)).trans h.b5, ⟨m, hm.same (old _ (by omega) (by omega))⟩, ⟨P2, c2, by rw [List.length_append]; exact x1, by rw [List.length_append]; exact ho1.same fun k hk _ => x3 k (by omega)⟩, by rw [show (W1.setCell ⟨B + 1 + 1 + 1 + 1, 0, none⟩ (.slice P2 (ls.length + 1) c2)).heap.size = W1.heap.size by simp [World.setCell]]; omega⟩
 have a1 : Wrote (fun k => w.heap.size ≤ k) W W1 := Wrote.of_grown hg (fun k e hk => by have := (hlo k e).1; omega)
 have a2 : Wrote (fun k => w.heap.size ≤ k) W1 (W1.setCell ⟨B + 1 + 1 + 1 + 1, 0, none⟩ (.slice P2 (ls.length + 1) c2)) := Wrote.of_grown (yc W1 _ 0 _) (fun k e hk => by cases e; omega)
 exact h.wrote.trans (a1.trans a2 (fun _ _ h => h)) (fun k h1 h2 => by omega)
theorem NbIn.keeps {P : Option Addr} {c : Nat} {W1 : World} (h : NbIn B S F R us ls w W) (hb : W.heap[B + 1 + 1 + 1 + 1]? = some (.cells #[.slice P ls.length c] 38 (0, 0))) (ho : Own W (B + 6) (.slice P ls.length c) ls)
  (hg : W.grownBy W1 (Value.slice P ls.length c).ownBlock) (v : Value) : KeepsFrom (B + 6) W (W1.setCell ⟨B + 1 + 1 + 1 + 1, 0, none⟩ v) ∧ KeepB (fun k => k = B + 1 + 1 + 1 + 1 + 1) W (W1.setCell ⟨B + 1 + 1 + 1 + 1, 0, none⟩ v) := by
 have hlo := ho.lt
 have hsz := h.sz
 have hs1 := hg.size
 have hb1 := (hg.block (B + 1 + 1 + 1 + 1) (by omega) (fun e => by have := (hlo _ e.symm).1; omega)).trans hb
 obtain ⟨x1, x2, x3⟩ := kD hb1 v
 refine ⟨⟨by simp [World.setCell]; omega, fun k o hk hk1 ho1 => ?_⟩, ⟨by simp [World.setCell]; omega, fun k hk hl => ?_⟩⟩
 · refine (x3 k (by omega)).trans ((hg.block k (zd hk1) (fun e => ?_)).trans hk1)
   have := (ZF ho k e.symm).2 o hk1
   rw [this] at ho1; cases ho1
 · subst hk
   exact (x3 _ (by omega)).trans (hg.block _ (by omega) (fun e => by have := (hlo _ e.symm).1; omega))
end
end
section
open Go.RowKit Go.Shelf
attribute [local go_sem] Oper.semAt_some
set_option maxRecDepth 100000 in
theorem Yl (s : Sy) (K M : Nat) (hK : K ≤ 100) (hM : M ≤ 100) (hk : s.p.k = (K : Int)) (hx : s.xs.length = M) (A SV AV AX : Option Addr) (kc ks kv kx : Nat) (kf : Nat) (kb : Array Value) (ek : Enters Tryz.prog kf) (key : Nat × Nat → Int)
  (R : Nat → Prop) (J : World → Prop) (w : World) (hR : ∀ k, R k → k < w.heap.size) (hJ0 : J w) (hJ : ∀ W W', J W → Wrote (fun k => w.heap.size ≤ k) W W' → J W')
  (hkey : ∀ x ∈ zg (K + 1) 0 M, ∀ W, J W → w.heap.size ≤ W.heap.size → Calls Tryz.prog kf (#[.agg #[.int .i64 x.1, .int .i64 x.2]] ++ kb) W fun e w' => e = .returned (.int .i64 (key x)) ∧ J w' ∧ Wrote R W w') :
  Calls Tryz.prog 83 #[.agg (s.vs_ A kc SV ks AV kv AX kx), .func (.func kf) #[] kb] w fun e w' => ∃ v, e = .returned v ∧ Own w' w.heap.size v (qG ((zg (K + 1) 0 M).map key)) ∧ J w' ∧ Wrote R w w' := by
 have hC : PtC (s.vs_ A kc SV ks AV kv AX kx) K M AX kx := ⟨by unfold Sy.vs_; rw [← hk]; rfl, by unfold Sy.vs_; rw [← hx]; rfl⟩
 have hlen : (zg (K + 1) 0 M).length ≤ 20000 := by
  rw [Jn (K + 1) M (by omega)]
  exact Nat.le_trans (Nat.mul_le_mul hM (show K + 1 ≤ 101 by omega)) (by decide)
 have HIT := zH (fun (bs : Nat) (W : World) (hb : W.heap[bs]? = some (.cells (s.vs_ A kc SV ks AV kv AX kx) 35 (0, 0))) => all1_iter (s.vs_ A kc SV ks AV kv AX kx) K M hK hM AX kx hC bs W hb)
 have HAL := zH (fun (W : World) => all_any s A SV AV AX kc ks kv kx W)
 have HKEY := zH hkey
 have HJ := zH hJ
 have HJ0 := zH hJ0
 have hz : ∀ W : World, (zeroValue 3).run Tryz.prog W = .ok (.int .i64 0) W := fun W => by kernel_rfl
 have ht : Tryz.prog.underlying 115 = some (.map 3 3) := Tryz.underlying115
 have hmm := @run_makeMap Tryz.prog
 obtain ⟨L, hL⟩ : ∃ L, zg (K + 1) 0 M = L := ⟨_, rfl⟩
 rw [hL] at HIT HKEY hlen ⊢
 unfold Sy.vs_ at HIT HAL ⊢
 clear hkey hJ hJ0 hL hC hk hx
 refine yq Tryz.func83 rfl ?_
 simp only [Tryz.ntmps83, List.size_toArray, List.length_cons, List.length_nil, Nat.reduceAdd, Nat.reduceSub, Array.replicate_succ, Array.replicate_zero, List.push_toArray, List.append_toArray, List.nil_append, List.cons_append]
 go_wp2_with fail
 refine (HAL.out _).mono ?_
 rintro e w2 ⟨rfl, hw2⟩
 obtain ⟨S, hS⟩ : ∃ S, S = #[Value.int .i64 s.p.t.n, .int .i64 s.p.t.ins, .int .i64 s.p.t.outs, .slice A s.p.t.cases.length kc, .int .i64 s.p.a.n, .slice SV s.p.a.sts.length ks, .int .i64 s.p.k, .int .i64 s.n, .slice AV s.vs.length kv, .slice AX s.xs.length kx] := ⟨_, rfl⟩
 rw [← hS] at hw2 HIT
 have hNW : NbIn w.heap.size S (.func (.func kf) #[] kb) R [] [] w w2 ∧ Wrote (fun k => w.heap.size ≤ k) w w2 := by
  obtain ⟨a1, h1, x1, y1, z1⟩ := zi w S 35
  rw [h1] at hw2
  obtain ⟨a2, h2, x2, y2, z2⟩ := zi a1 #[.func (.func kf) #[] kb] 154
  rw [h2] at hw2
  obtain ⟨a3, h3⟩ : ∃ a3, a2.alloc (.map #[] 0) = a3 := ⟨_, rfl⟩
  have m3 : MapOf (Value.int .i64) a3 a2.heap.size 0 (fun _ => none) := by rw [← h3]; exact MapOf.made a2
  have y3 : a3.heap.size = a2.heap.size + 1 := by rw [← h3]; simp
  have z3 : Below a2.heap.size a2 a3 := by rw [← h3]; exact zI _ _
  rw [h3] at hw2
  obtain ⟨a4, h4, x4, y4, z4⟩ := zi a3 #[.map (some (w.heap.size + 1 + 1))] 115
  rw [h4] at hw2
  obtain ⟨a5, h5, x5, y5, z5⟩ := zi a4 #[.slice none 0 0] 38
  rw [h5] at hw2
  obtain ⟨a6, h6, x6, y6, z6⟩ := zi a5 S 35
  rw [h6] at hw2
  subst hw2
  rw [y1] at x2 y2
  rw [y2] at m3 y3
  rw [y3] at x4 y4
  rw [y4] at x5 y5
  rw [y5] at x6 y6
  have w1 : Wrote (fun k => w.heap.size ≤ k) w a6 := by
   have b1 := (Wrote.of_below (R := fun k => w.heap.size ≤ k) z1).trans (Wrote.of_below (R := fun k => w.heap.size ≤ k) z2) (fun _ _ h => h)
   have b2 := (b1.trans (Wrote.of_below (R := fun k => w.heap.size ≤ k) z3) (fun _ _ h => h)).trans (Wrote.of_below (R := fun k => w.heap.size ≤ k) z4) (fun _ _ h => h)
   exact ((b2.trans (Wrote.of_below (R := fun k => w.heap.size ≤ k) z5) (fun _ _ h => h)).trans (Wrote.of_below (R := fun k => w.heap.size ≤ k) z6) (fun _ _ h => h))
  refine ⟨⟨w1.more (fun k h1 h2 => by omega), ?_, ?_, ?_, x6, ⟨0, ?_⟩, ⟨none, 0, ?_, Own.nil _ _⟩, by omega⟩, w1⟩
  · exact (z6.block _ (by omega)).trans ((z5.block _ (by omega)).trans ((z4.block _ (by omega)).trans ((z3.block _ (by omega)).trans ((z2.block _ (by omega)).trans x1))))
  · exact (z6.block _ (by omega)).trans ((z5.block _ (by omega)).trans ((z4.block _ (by omega)).trans ((z3.block _ (by omega)).trans x2)))
  · exact (z6.block _ (by omega)).trans ((z5.block _ (by omega)).trans x4)
  · rw [numG_nil]
    exact m3.same ((z6.block _ (by omega)).trans ((z5.block _ (by omega)).trans (z4.block _ (by omega))))
  · exact (z6.block _ (by omega)).trans x5
 have hsz2 : w2.heap.size = w.heap.size + 6 := by rw [← hw2]; simp
 have HJ2 : Hid (J w2) := HJ.out w w2 HJ0.out hNW.2
 have HIT2 := zH (HIT.out (w.heap.size + 1 + 1 + 1 + 1 + 1) w2 hNW.1.b5)
 have HN := zH hNW.1
 clear hNW hw2 HIT HAL HJ0 hmm hS
 go_wp2_with fail
 refine qT rfl (enters_of Tryz.func147 (by kernel_rfl) rfl) HIT2.out (by rintro x rfl; omega) (fun _ => rfl)
  (fun (pre : List { x : Nat × Nat // x ∈ L }) (X : World) => NbIn w.heap.size S (.func (.func kf) #[] kb) R (yF (pre.map fun x => key x.1)) (qG (pre.map fun x => key x.1)) w X ∧ J X)
  (fun _ _ _ => False)
  ?hI (fun _ _ _ _ _ h _ _ => h)
  ⟨HN.out, HJ2.out⟩ (fun x => #[.int .i64 x.1, .int .i64 x.2]) 153 ?a1 ?assign ?body ?done ?stop (fun _ _ h => by have := h.1.sz; omega)
 case hI =>
  intro pre X X' row hX hg hr
  refine ⟨hX.1.turn (Nat.le_refl _) hg (fun r e => ⟨by have := (hr r e).1; omega, (hr r e).2⟩), HJ.out X X' hX.2 (Wrote.of_grown hg fun k e hk => by have := (hr k e).1; omega)⟩
 case assign =>
  intro l pre x X K' hI hK
  obtain ⟨g', hg'⟩ : ∃ g', g' = X.heap.size := ⟨_, rfl⟩
  have HK := zH (hK g' hg' ⟨hI.1.turn (Nat.le_refl _) (row := none) ⟨rfl, rfl, rfl, by simp, fun k hk _ => Below.heap_alloc X _ k hk⟩ (fun r e => by cases e), HJ.out X _ hI.2 (Wrote.of_below (zI X _))⟩)
  have HG := zH hg'
  clear hK hg' hI
  gi_wp2
  rw [← HG.out]
  exact HK.out
 case body =>
  intro l pre x g W3 hg hgb hI hlt
  obtain ⟨us, hus⟩ : ∃ us, yF (pre.map fun x => key x.1) = us := ⟨_, rfl⟩
  obtain ⟨ls, hls⟩ : ∃ ls, qG (pre.map fun x => key x.1) = ls := ⟨_, rfl⟩
  have hll : ls.length ≤ 20000 := by rw [← hls, jj, List.length_map]; omega
  have hun : us.Nodup := by rw [← hus]; exact Xj _
  obtain ⟨kk, hkk⟩ : ∃ kk, key x.1 = kk := ⟨_, rfl⟩
  have hus2 : yF ((pre ++ [x]).map fun x => key x.1) = xD us kk := by rw [List.map_append, List.map_cons, List.map_nil, xR, hus, hkk]
  have hls2 : qG ((pre ++ [x]).map fun x => key x.1) = ls ++ [if kk ∈ us then (us.idxOf kk : Int) else (us.length : Int)] := by
   rw [List.map_append, List.map_cons, List.map_nil, ui, hus, hls, hkk]
   congr 2
   by_cases h : kk ∈ us
   · rw [if_pos h, if_pos (yl.1 (hus ▸ h))]
   · rw [if_neg h, if_neg (fun e => h (hus ▸ yl.2 e))]
  rw [hus, hls] at hI
  have hcall := HKEY.out x.1 x.2 W3 hI.2 (by have := hI.1.sz; omega)
  rw [hkk] at hcall
  have HC := zH hcall
  have HN3 := zH hI.1
  have HU2 := zH hus2
  have HL2 := zH hls2
  have HUN := zH hun
  have q1 := za hI.1.b1 0 rfl
  have g0 := za hgb 0 rfl
  have g1 := za hgb 1 rfl
  clear hI hcall hus hls hus2 hls2 hkk hgb hun HKEY HIT2 HN HJ2
  gi_wp2_with fail
  refine ⟨trivial, ?_⟩
  rw [ek]
  refine ⟨fun _ => by omega, (CallsIn.inRound l ((callsIn_wide (n := 6)).2 HC.out)).mono ?_⟩
  rintro e W4 ⟨rfl, hJ4, hw4⟩
  have HN4 := zH (HN3.out.call hw4 hR)
  have HJ4 := zH hJ4
  have HW4 := zH hw4
  have q3 := za HN4.out.b3 0 rfl
  obtain ⟨m, hm⟩ := HN4.out.hm
  have hlk := hm.look2 qo ht (hz W4) kk
  have HM4 := zH hm
  clear q1 g0 g1 HC hJ4 hw4 hm
  by_cases hin : kk ∈ us
  case pos =>
   have hf : vZ us kk = some (.int .i64 (us.idxOf kk : Int)) := if_pos hin
   rw [hf] at hlk
   simp only [Option.getD_some, Option.isSome_some] at hlk
   have hlk1 := HM4.out.look qo ht (hz W4) kk
   rw [hf] at hlk1
   simp only [Option.getD_some] at hlk1
   have hu : xD us kk = us := if_pos hin
   have HU3 : Hid (yF ((pre ++ [x]).map fun x => key x.1) = us) := HU2.out.trans hu
   have HL3 : Hid (qG ((pre ++ [x]).map fun x => key x.1) = ls ++ [(us.idxOf kk : Int)]) := HL2.out.trans (by rw [if_pos hin])
   clear HU2 HL2
   have HU2 := HU3
   have HL2 := HL3
   clear HU3 HL3 hf hu hin HM4
   obtain ⟨P, c, hbx, ho⟩ := HN4.out.box
   have HBX := zH hbx
   have HO := zH ho
   have q4 := za hbx 0 rfl
   clear hbx ho
   gi_wp2_with (gi_at_builtin; go_must (refine jG rfl _ _ rfl (w.heap.size + 6) (.slice P ls.length c) ls (us.idxOf kk : Int) rfl HO.out rfl (by omega) (by have := HN4.out.sz; omega) ?_); intro v' W6 hown1 hg6 hb6
                obtain ⟨A6, k6, rfl, h61, h62, _⟩ := hown1.form
                have h4b := (hg6.block (w.heap.size + 1 + 1 + 1 + 1) (zd HBX.out) (fun e => Xi HO.out HBX.out (by decide) e.symm)).trans HBX.out
                have q6 := za h4b 0 rfl
                have f6 := zb h4b 0
                have l6 := zd h4b
                have HO6 := zH hown1
                have HG6 := zH hg6
                clear h4b hown1 hg6 hb6)
   have hka := HN4.out.keeps HBX.out HO.out HG6.out (.slice A6 (ls.length + 1) k6)
   have hpu := HN4.out.push (Nat.le_refl _) HBX.out HO.out (by have := HO6.out; simpa using this) HG6.out
   refine ⟨((show KeepsFrom w2.heap.size W3 W4 from ⟨HW4.out.size, fun k o hk hk1 _ => (HW4.out.block k (zd hk1) (fun e => by have := hR k e; omega)).trans hk1⟩)).trans (hsz2 ▸ hka.1), ((show KeepB (fun k => k = w.heap.size + 1 + 1 + 1 + 1 + 1) W3 W4 from ⟨HW4.out.size, fun k hk hl => HW4.out.block k hl (fun e => by have := hR k e; omega)⟩)).trans hka.2, ?_, ?_⟩
   · rw [HU2.out, HL2.out]
     exact hpu
   · have a2 : Wrote (fun k => w.heap.size ≤ k) W4 W6 := Wrote.of_grown HG6.out (fun k e hk => by have := (HO.out.lt k e).1; omega)
     have a3 : Wrote (fun k => w.heap.size ≤ k) W6 (W6.setCell ⟨w.heap.size + 1 + 1 + 1 + 1, 0, none⟩ (.slice A6 (ls.length + 1) k6)) := Wrote.of_grown (yc W6 _ 0 _) (fun k e hk => by cases e; omega)
     exact HJ.out _ _ HJ4.out (a2.trans a3 (fun _ _ h => h))
  case neg =>
   have hf : vZ us kk = none := if_neg hin
   rw [hf] at hlk
   simp only [Option.getD_none, Option.isSome_none] at hlk
   have hu : xD us kk = us ++ [kk] := if_neg hin
   have HU3 : Hid (yF ((pre ++ [x]).map fun x => key x.1) = us ++ [kk]) := HU2.out.trans hu
   have HL3 : Hid (qG ((pre ++ [x]).map fun x => key x.1) = ls ++ [(us.length : Int)]) := HL2.out.trans (by rw [if_neg hin])
   obtain ⟨es, clock, hes, hesz⟩ := Qv HM4.out HUN.out
   obtain ⟨W5, hrun, hm5, hg5⟩ := HM4.out.put qo ht kk (.int .i64 (us.length : Int))
   rw [numG_put hin] at hm5
   have HN5 := zH (HN4.out.put (Nat.le_refl _) hg5 hm5)
   have HG5 := zH hg5
   have HM5 := zH hm5
   have hlk1 := hm5.look qo ht (hz W5) kk
   have hf5 : vZ (us ++ [kk]) kk = some (.int .i64 (us.length : Int)) := by
    unfold vZ
    rw [if_pos (by simp), List.idxOf_append, if_neg hin]; simp
   rw [hf5] at hlk1
   simp only [Option.getD_some] at hlk1
   have HJ5 := zH (HJ.out W4 W5 HJ4.out (Wrote.of_grown hg5 fun k e hk => by cases e; omega))
   have HW5 : Hid (KeepsFrom w2.heap.size W4 W5 ∧ KeepB (fun k => k = w.heap.size + 1 + 1 + 1 + 1 + 1) W4 W5) := by
    refine ⟨⟨hg5.size, fun k o hk hk1 _ => (hg5.block k (zd hk1) (fun e => by cases e; omega)).trans hk1⟩, ⟨hg5.size, fun k hk hl => hg5.block k hl (fun e => by cases e; omega)⟩⟩
   have q35 := za HN5.out.b3 0 rfl
   obtain ⟨P, c, hbx, ho⟩ := HN5.out.box
   have HBX := zH hbx
   have HO := zH ho
   have q4 := za hbx 0 rfl
   clear HU2 HL2
   have HU2 := HU3
   have HL2 := HL3
   clear HU3 HL3 hf hu hin HM4 hm5 hg5 hf5 hbx ho
   have hln : (Builtin.len_ #[115] 3 #[.map (some (w.heap.size + 1 + 1))]).run Tryz.prog W4 = .ok (.int .i64 (us.length : Int)) W4 := by
    rw [← hesz]
    exact run_len_map W4 _ _ _ es clock (by kernel_rfl) hes
   clear hes hesz
   gi_wp2_with (gi_at_builtin; go_must (refine jG rfl _ _ rfl (w.heap.size + 6) (.slice P ls.length c) ls (us.length : Int) rfl HO.out rfl (by omega) (by have := HN5.out.sz; omega) ?_); intro v' W6 hown1 hg6 hb6
                obtain ⟨A6, k6, rfl, h61, h62, _⟩ := hown1.form
                have h4b := (hg6.block (w.heap.size + 1 + 1 + 1 + 1) (zd HBX.out) (fun e => Xi HO.out HBX.out (by decide) e.symm)).trans HBX.out
                have q6 := za h4b 0 rfl
                have f6 := zb h4b 0
                have l6 := zd h4b
                have HO6 := zH hown1
                have HG6 := zH hg6
                clear h4b hown1 hg6 hb6)
   have hka := HN5.out.keeps HBX.out HO.out HG6.out (.slice A6 (ls.length + 1) k6)
   have hpu := HN5.out.push (Nat.le_refl _) HBX.out HO.out (by have := HO6.out; simpa using this) HG6.out
   refine ⟨(((show KeepsFrom w2.heap.size W3 W4 from ⟨HW4.out.size, fun k o hk hk1 _ => (HW4.out.block k (zd hk1) (fun e => by have := hR k e; omega)).trans hk1⟩)).trans HW5.out.1).trans (hsz2 ▸ hka.1), (((show KeepB (fun k => k = w.heap.size + 1 + 1 + 1 + 1 + 1) W3 W4 from ⟨HW4.out.size, fun k hk hl => HW4.out.block k hl (fun e => by have := hR k e; omega)⟩)).trans HW5.out.2).trans hka.2, ?_, ?_⟩
   · rw [HU2.out, HL2.out]
     exact hpu
   · have a2 : Wrote (fun k => w.heap.size ≤ k) W5 W6 := Wrote.of_grown HG6.out (fun k e hk => by have := (HO.out.lt k e).1; omega)
     have a3 : Wrote (fun k => w.heap.size ≤ k) W6 (W6.setCell ⟨w.heap.size + 1 + 1 + 1 + 1, 0, none⟩ (.slice A6 (ls.length + 1) k6)) := Wrote.of_grown (yc W6 _ 0 _) (fun k e hk => by cases e; omega)
     exact HJ.out _ _ HJ5.out (a2.trans a3 (fun _ _ h => h))
 case done =>
  intro D ys W hD hys hI hDk
  have hmap : ys.map (fun x => key x.1) = L.map key := by rw [show ys.map (fun x => key x.1) = (ys.map (·.1)).map key by rw [List.map_map]; rfl, hys]
  rw [hmap] at hI
  obtain ⟨hN, hJW⟩ := hI
  obtain ⟨P, c, hbx, ho⟩ := hN.box
  have q4 := za hbx 0 rfl
  have HN9 := zH hN
  have HO := zH ho
  have HJ9 := zH hJW
  have HDk := zH hDk
  clear hN ho hbx hJW hDk hys hmap
  go_wp2_with fail
  refine yS (B := w2.heap.size) (w := W) (show Marks w2.heap.size _ W from ⟨[D], rfl, by simp, fun r hr => by rw [List.mem_singleton] at hr; subst hr; exact ⟨hD, HDk.out⟩⟩) (v := .slice P (qG (L.map key)).length c) (fun W => by kernel_rfl) ?_
  intro X hS
  have hb : Below w2.heap.size W X := hS.below
  refine ⟨_, rfl, (HO.out.shut hS).low (by omega), HJ.out W X HJ9.out ⟨hb.os, hb.tape, hb.output, hb.size, fun k hk hn => hb.block k (by omega)⟩, HN9.out.wrote.trans (R' := fun k => w2.heap.size ≤ k) ⟨hb.os, hb.tape, hb.output, hb.size, fun k hk hn => hb.block k (by omega)⟩ (fun k h1 h2 => by omega)⟩
 case stop =>
  intro D c pre W _ _ h
  exact h.elim
end
section
def xw (x : Exn) (k q : Nat) : Int := (x.views.getD k []).getD q 0
structure Sees (s : Sy) (K N : Nat) : Prop where
 nodup : s.vs.Nodup
 v0 : ∀ x ∈ s.xs, ∀ q, q < N → At s.vs (xw x 0 q) (yD q ((yL s.p x.c.toNat).getD q 0))
 vk : ∀ x ∈ s.xs, ∀ k, k < K → ∀ q, q < N → At s.vs (xw x (k + 1) q) (xO (x.word.getD k default) (k + 1) q (x.views.getD k []))
 prs : s.xs.map (fun x => (x.c.toNat, x.word)) = zn s.p
 cs : ∀ x ∈ s.xs, ∃ c : Nat, x.c = (c : Int) ∧ c < s.p.t.cases.length ∧ x.word ∈ zy s.p.a K 0
theorem YM {p : Pb} {tab : List Vw} {c : Nat} {word : List Rd} {x : Exn} {vs : List Vw} (h : XFin p tab c word x vs) (k : Nat) (hk : k ≤ word.length) : x.views.getD k [] = wW vs p.t.n.toNat (yL p c) word k := by
 rw [h.hv]; exact va _ _ _ _ _ k hk
theorem Jb {p : Pb} {tab : List Vw} {c : Nat} {word : List Rd} {x : Exn} {vs : List Vw} (h : XFin p tab c word x vs) (k q : Nat) (hk : k ≤ word.length) (hq : q < p.t.n.toNat) : At tab (xw x k q) (fV vs p.t.n.toNat (yL p c) word k q) := by
 obtain ⟨us, hus⟩ := h.ht
 unfold xw
 rw [YM h k hk, hus]
 exact (Yf vs p.t.n.toNat (yL p c) word word.length k q hk hq).mono
theorem Q4 {p : Pb} {K N : Nat} (hF : Fine (zD p) K N) : Sees (zD p) K N := by
 obtain ⟨f1, f2, f3⟩ := YZ p (zn p)
 have hNN : p.t.n.toNat = N := by have : p.t.n = (N : Int) := hF.pn; omega
 have hKK : p.k.toNat = K := by have : p.k = (K : Int) := hF.k; omega
 have hpr : ∀ y ∈ zn p, y.2.length = K ∧ y.1 < p.t.cases.length ∧ y.2 ∈ zy p.a K 0 := fun y hy => by
  unfold zn at hy
  obtain ⟨d, hd, hy⟩ := List.mem_flatMap.1 hy
  obtain ⟨w', hw', rfl⟩ := List.mem_map.1 hy
  rw [hKK] at hw'
  exact ⟨yV p.a _ 0 w' hw', by simpa using hd, hw'⟩
 have hx : ∀ x ∈ (zD p).xs, ∃ y ∈ zn p, ∃ vs, XFin p (zD p).vs y.1 y.2 x vs := fun x hx => by
  obtain ⟨i, hi, e⟩ := List.getElem_of_mem hx
  have hi2 : i < (zn p).length := by rw [← xE p (zn p)]; exact hi
  obtain ⟨x', vs, hx', hh⟩ := f1 i hi2
  have : x = x' := by
   have h3 : (zu p (zn p)).2[i]? = some x := (List.getElem?_eq_getElem (l := (zD p).xs) hi).trans (congrArg some e)
   exact Option.some.inj (h3.symm.trans hx')
  subst this
  exact ⟨_, List.getElem_mem hi2, vs, hh⟩
 refine ⟨f3, fun x hm q hq => ?_, fun x hm k hk q hq => ?_, ?_, fun x hm => ?_⟩
 · obtain ⟨y, hy, vs, hh⟩ := hx x hm
   have h := Jb hh 0 q (Nat.zero_le _) (by omega)
   rw [hh.hc, Int.toNat_natCast]
   exact h
 · obtain ⟨y, hy, vs, hh⟩ := hx x hm
   have hl := (hpr y hy).1
   have h := Jb hh (k + 1) q (by omega) (by omega)
   rw [YM hh k (by omega), hh.hw]
   exact h
 · show (zu p (zn p)).2.map _ = zn p
   refine List.ext_getElem (by rw [List.length_map, xE]) fun i h1 h2 => ?_
   obtain ⟨x', vs, hx', hh⟩ := f1 i h2
   rw [List.getElem_map]
   obtain ⟨h3, h4⟩ := List.getElem?_eq_some_iff.1 hx'
   rw [h4, hh.hc, hh.hw, Int.toNat_natCast]
 · obtain ⟨y, hy, vs, hh⟩ := hx x hm
   exact ⟨y.1, hh.hc, (hpr y hy).2.1, by rw [hh.hw]; exact (hpr y hy).2.2⟩
section
variable {s : Sy} {K N : Nat}
end
end
section
open Go.RowKit Go.Shelf
attribute [local go_sem] Oper.semAt_some
theorem yh {α : Type} {l : List α} {i : Nat} (h : i < l.length) (d : α) : l.getD i d = l[i] := by rw [List.getD_eq_getElem?_getD, List.getElem?_eq_getElem h]; rfl
def keyL (s : Sy) (q : Nat) : List Int := (zg (s.p.k.toNat + 1) 0 s.xs.length).map fun x => xw (s.xs.getD x.1 default) x.2 q
def zY (s : Sy) (q : Nat) : List Int := qG (keyL s q)
def XU (s : Sy) (p : Int) : List Int × Int := if yE s ≠ 0 then ([], yE s) else if p < 0 ∨ s.n ≤ p then ([], 2) else (zY s p.toNat, 0)
def RetOE (xs : List Int) (n : Int) (w : World) (e : Ending) (w' : World) : Prop := ∃ A c, e = .returned (.tuple #[.slice A xs.length c, .int .i64 n]) ∧ Own w' w.heap.size (.slice A xs.length c) xs ∧ Below w.heap.size w w'
theorem Jm (s : Sy) (q : Nat) : (keyL s q).length = s.xs.length * (s.p.k.toNat + 1) := by unfold keyL; rw [List.length_map, Jn _ _ (by omega)]
set_option maxRecDepth 100000 in
theorem cls1_any (s : Sy) (K N : Nat) (hF : Fine s K N) (e k q : Nat) (he : e < s.xs.length) (hk : k ≤ K) (hq : q < N) (A SV AV AX : Option Addr) (kc ks kv kx bs bp : Nat) (w : World) (hX : XAt w w.heap.size AX s.xs)
  (hb : w.heap[bs]? = some (.cells (s.vs_ A kc SV ks AV kv AX kx) 35 (0, 0))) (hp : w.heap[bp]? = some (.cells #[.int .i64 (q : Int)] 3 (0, 0))) :
  Calls Tryz.prog 84 #[.agg #[.int .i64 (e : Int), .int .i64 (k : Int)], .pointer (some ⟨bs, 0, none⟩), .pointer (some ⟨bp, 0, none⟩)] w fun r w' => r = .returned (.int .i64 (xw s.xs[e] k q)) ∧ Below w.heap.size w w' := by
 obtain ⟨w1, hw1, d0, hs1, hB⟩ := zi w #[.int .i64 (e : Int), .int .i64 (k : Int)] 153
 have hxm := List.getElem_mem he
 obtain ⟨hvl, hrow⟩ := hF.views _ hxm
 obtain ⟨bx, ox, A1, c1, A2, c2, eX, hbx, x0, x1, x2, hRw, hLv⟩ := (hX.keep hB).row e he
 subst eX
 obtain ⟨x, hx⟩ : ∃ x, x = s.xs[e] := ⟨_, rfl⟩
 rw [← hx] at hvl hrow x2 hLv ⊢
 obtain ⟨bl, ol, A3, c3, eL, hbl, y1, hI⟩ := hLv.at_ k (by omega)
 subst eL
 obtain ⟨hl, hpos⟩ := hrow _ (List.getElem_mem (by omega : k < x.views.length))
 have hxw : ∀ row, x.views[k]'(by omega) = row → xw x k q = row.getD q 0 := fun row hr => by unfold xw; rw [yh (by omega : k < x.views.length), hr]
 obtain ⟨row, hrw⟩ : ∃ row, x.views[k]'(by omega) = row := ⟨_, rfl⟩
 rw [hxw row hrw]
 rw [hrw] at y1 hI hl
 obtain ⟨b4, o4, e4, hb4, z4⟩ := hI.at_ q (by omega)
 subst e4
 have hval : row[q]'(by omega) = row.getD q 0 := by rw [List.getD_eq_getElem?_getD, List.getElem?_eq_getElem (by omega)]; rfl
 rw [hval] at z4
 obtain ⟨u, hu⟩ : ∃ u, row.getD q 0 = u := ⟨_, rfl⟩
 rw [hu] at z4 ⊢
 obtain ⟨nv, hnv⟩ : ∃ nv, x.views.length = nv := ⟨_, rfl⟩
 rw [hnv] at x2 hvl
 obtain ⟨nr, hnr⟩ : ∃ nr, row.length = nr := ⟨_, rfl⟩
 rw [hnr] at y1 hl
 have HW1 := zH hw1
 have HB := zH hB
 have g0 := za d0 0 rfl
 have g1 := za d0 1 rfl
 have p0 := za ((hB.block _ (zd hp)).trans hp) 0 rfl
 have p9 : w1.cell? ⟨bs, 9, none⟩ = some (.slice (some ⟨bx, ox, none⟩) s.xs.length kx) := za ((hB.block _ (zd hb)).trans hb) 9 rfl
 have h1 : (0 : Int) ≤ (e : Int) := by omega
 have h2 : (e : Int) < (s.xs.length : Int) := by omega
 have h3 : (0 : Int) ≤ (k : Int) := by omega
 have h4 : (k : Int) < (nv : Int) := by omega
 have h5 : (0 : Int) ≤ (q : Int) := by omega
 have h6 : (q : Int) < (nr : Int) := by omega
 have lbs := zd hb
 have lbp := zd hp
 clear hw1 d0 hB hX hb hp hF hval hu hnv hnr hx hRw hLv hI hpos hrow hxm hxw hrw x0 x1 hl hvl
 go_enter Tryz.func84, Tryz.ntmps84
 go_wp2_with fail
 rw [HW1.out]
 go_quiet (fail)
 go_wp2_with fail
 go_ret
 exact ⟨rfl, zU HB.out _⟩
theorem YN {w w' : World} (h : Wrote (fun _ => False) w w') : Below w.heap.size w w' := ⟨h.os, h.tape, h.output, h.size, fun k hk => h.block k hk (fun h => h)⟩
set_option maxRecDepth 100000 in
theorem uU (s : Sy) (hs : LowS s) (hf : xb s.p) (p : Int) (A SV AV AX : Option Addr) (kc ks kv kx : Nat) (w : World) (hS : SyAt w w.heap.size A SV AV AX s) :
  Calls Tryz.prog 35 #[.agg (s.vs_ A kc SV ks AV kv AX kx), .int .i64 p] w (RetOE (XU s p).1 (XU s p).2 w) := by
 obtain ⟨w1, hw1, d0, d1, hs1, hB⟩ := yj w (s.vs_ A kc SV ks AV kv AX kx) #[.int .i64 p] 35 3
 have HV := zH (Z7 s hs hf A SV AV AX kc ks kv kx w1 (hS.up hB))
 have HS1 := zH (hS.up hB)
 have HE : Hid (XU s p = if yE s ≠ 0 then ([], yE s) else if p < 0 ∨ s.n ≤ p then ([], 2) else (zY s p.toNat, 0)) := rfl
 have HVF := zH (fun h => qd hf h)
 have HNB := zH (fun (K N q : Nat) (hF : Fine s K N) (hq : q < N) (X : World) (hX : SyAt X X.heap.size A SV AV AX s) (bs bp : Nat) (hb : X.heap[bs]? = some (.cells (s.vs_ A kc SV ks AV kv AX kx) 35 (0, 0))) (hp : X.heap[bp]? = some (.cells #[.int .i64 (q : Int)] 3 (0, 0))) =>
  Yl s K s.xs.length (by have := hF.k6; omega) (by have := hF.lx; omega) hF.k rfl A SV AV AX kc ks kv kx 84 #[.pointer (some ⟨bs, 0, none⟩), .pointer (some ⟨bp, 0, none⟩)]
   (enters_of Tryz.func84 (by kernel_rfl) rfl) (fun x => xw (s.xs.getD x.1 default) x.2 q) (fun _ => False)
   (fun W => XAt W X.heap.size AX s.xs ∧ W.heap[bs]? = some (.cells (s.vs_ A kc SV ks AV kv AX kx) 35 (0, 0)) ∧ W.heap[bp]? = some (.cells #[.int .i64 (q : Int)] 3 (0, 0)) ∧ X.heap.size ≤ W.heap.size) X (fun _ h => h.elim)
   ⟨hX.fx, hb, hp, Nat.le_refl _⟩
   (fun W W' h hw => by
    have hbl : Below X.heap.size W W' := ⟨hw.os, hw.tape, hw.output, hw.size, fun k hk => hw.block k (by have := h.2.2.2; omega) (fun h2 => by omega)⟩
    exact ⟨h.1.keep hbl, (hbl.block _ (zd hb)).trans h.2.1, (hbl.block _ (zd hp)).trans h.2.2.1, Nat.le_trans h.2.2.2 hw.size⟩)
   (fun x hx W hJ hW => by
    obtain ⟨_, h1, h2⟩ := qK _ _ x hx
    have he : x.1 < s.xs.length := by omega
    have := cls1_any s K N hF x.1 x.2 q he (by omega) hq A SV AV AX kc ks kv kx bs bp W (hJ.1.more hJ.2.2.2) hJ.2.1 hJ.2.2.1
    refine this.mono ?_
    rintro r w' ⟨rfl, hb'⟩
    rw [yh he]
    refine ⟨rfl, ⟨hJ.1.keep (hb'.mono hJ.2.2.2), (hb'.block _ (zd hJ.2.1)).trans hJ.2.1, (hb'.block _ (zd hJ.2.2.1)).trans hJ.2.2.1, Nat.le_trans hJ.2.2.2 hb'.size⟩, Wrote.of_below hb'⟩))
 have HKL := zH (fun (K q : Nat) (h : s.p.k = (K : Int)) => (by unfold zY keyL; rw [h]; rfl : zY s q = qG ((zg (K + 1) 0 s.xs.length).map fun x => xw (s.xs.getD x.1 default) x.2 q)))
 obtain ⟨R, hR⟩ : ∃ R, XU s p = R := ⟨_, rfl⟩
 obtain ⟨r, hr⟩ : ∃ r, yE s = r := ⟨_, rfl⟩
 rw [hr] at HV HE HVF
 rw [hR] at HE ⊢
 unfold Sy.vs_ at hw1 d0 HV HNB ⊢
 have HW1 := zH hw1
 have HB := zH hB
 have HD := zH d0
 have HD1 := zH d1
 obtain ⟨p0, p1, p2, p3, p4, p5, p6, p7, p8, p9⟩ := zx d0
 clear hw1 d0 d1 hB hS hr hR hs hf
 go_enter Tryz.func35, Tryz.ntmps35
 go_wp2_with fail
 rw [HW1.out]
 go_wp2_with fail
 refine HV.out.mono ?_
 rintro e w2 ⟨rfl, hb2⟩
 have HB2 := zH (HB.out.trans (hb2.mono (by omega)))
 have HS2 := zH (HS1.out.up hb2)
 have d0 := (hb2.block _ (by omega : w.heap.size < w1.heap.size)).trans HD.out
 have d1 := (hb2.block _ (by omega : w.heap.size + 1 < w1.heap.size)).trans HD1.out
 clear p0 p1 p2 p3 p4 p5 p6 p7 p8 p9 hb2 HV HW1 HS1 HD HD1
 by_cases h0 : r = 0
 case neg =>
  have hR : Hid (R = ([], r)) := HE.out.trans (if_pos h0)
  have e0 : (r != 0) = true := by simpa using h0
  clear HE HVF h0 d0 d1 HNB HKL
  go_wp2_with fail
  go_ret2
  rw [hR.out]
  exact ⟨none, 0, rfl, Own.nil _ _, HB2.out⟩
 case pos =>
 subst h0
 obtain ⟨hsb, K, N, hF⟩ := HVF.out rfl
 clear hsb
 have hE2 : R = if p < 0 ∨ s.n ≤ p then ([], 2) else (zY s p.toNat, 0) := HE.out.trans (if_neg (by simp))
 have hn := hF.n
 have h5 := hF.n5
 rw [hn] at hE2
 have HE2 := zH hE2
 have HFF := zH hF
 have HDD := zH d0
 have q0 := za d1 0 rfl
 have q7 : w2.cell? ⟨w.heap.size, 7, none⟩ = some (.int .i64 (N : Int)) := by rw [← hn]; exact za d0 7 rfl
 have HD1 := zH d1
 clear HE HVF hE2 hF d0 d1 hn
 by_cases h1 : p < 0
 case pos =>
  have hR : Hid (R = ([], 2)) := HE2.out.trans (if_pos (.inl h1))
  clear HE2 HNB HKL
  go_wp2_with fail
  go_ret2
  rw [hR.out]
  exact ⟨none, 0, rfl, Own.nil _ _, HB2.out⟩
 case neg =>
 obtain ⟨q, rfl⟩ := Int.eq_ofNat_of_zero_le (show 0 ≤ p by omega)
 have e1 : (decide ((q : Int) < 0)) = false := by simp
 by_cases h2 : q < N
 case neg =>
  have hR : Hid (R = ([], 2)) := HE2.out.trans (if_pos (.inr (by omega)))
  have e2 : (decide ((N : Int) ≤ (q : Int))) = true := by simp; omega
  have h3 : (N : Int) ≤ (q : Int) := by omega
  clear HE2 HNB HKL
  go_wp2_with fail
  go_ret2
  rw [hR.out]
  exact ⟨none, 0, rfl, Own.nil _ _, HB2.out⟩
 case pos =>
  have hR : Hid (R = (zY s q, 0)) := HE2.out.trans (if_neg (by omega))
  have e2 : (decide ((N : Int) ≤ (q : Int))) = false := by simp; omega
  have h3 : ¬ (N : Int) ≤ (q : Int) := by omega
  have HC := zH (HNB.out K N q HFF.out h2 w2 HS2.out w.heap.size (w.heap.size + 1) HDD.out HD1.out)
  have hkl := HKL.out K q HFF.out.k
  have hn := HFF.out.n
  rw [← hkl, hn] at HC
  have p0 := za HDD.out 0 rfl
  have p1 := za HDD.out 1 rfl
  have p2 := za HDD.out 2 rfl
  have p3 := za HDD.out 3 rfl
  have p4 := za HDD.out 4 rfl
  have p5 := za HDD.out 5 rfl
  have p6 := za HDD.out 6 rfl
  have p8 := za HDD.out 8 rfl
  have p9 := za HDD.out 9 rfl
  clear HE2 HNB HKL HS2 hkl HFF hn
  go_wp2_with fail
  all_goals first | (exfalso; omega) | skip
  refine HC.out.mono ?_
  rintro e w3 ⟨v, rfl, ho, _, hw3⟩
  have HO := zH ho
  have hb3 := YN hw3
  have HB3 := zH (HB2.out.trans (hb3.mono HB2.out.size))
  clear ho hw3 hb3 HC p0 p1 p2 p3 p4 p5 p6 q7 p8 p9
  obtain ⟨A6, k6, rfl, _, _, _⟩ := HO.out.form
  go_wp2_with fail
  go_ret2
  rw [hR.out]
  exact ⟨A6, k6, rfl, HO.out.low HB2.out.size, HB3.out⟩
end
section
open Go.RowKit
def qY (x : Int × Int) : Value := .agg #[.int .i64 x.1, .int .i64 x.2]
theorem st_inj (a b : Int × Int) (h : qY a = qY b) : a = b := by
 injection h with h
 obtain ⟨a0, a1⟩ := a
 obtain ⟨b0, b1⟩ := b
 simpa using h
open Classical in
theorem wM : KeyOk Tryz.prog 75 qY where
 inj := st_inj
 check := fun w em v => by
  have hu : Tryz.prog.underlying 75 = some (.struct (Tryz.prog.fieldsOf 75)) := by kernel_rfl
  have hf : (Tryz.prog.fieldsOf 75).toList.map (fun f => (f.name, f.type, f.offset)) = [("Point", 3, 0), ("Proc", 3, 1)] := by kernel_rfl
  have p0 := fun x0 x1 => zL #[x0, x1] 0 x0 rfl w
  have p1 := fun x0 x1 => zL #[x0, x1] 1 x1 rfl w
  unfold Instr.checkKey qY
  simp only [Sem.run_bind, run_underlying hu, Result.andThen_ok]
  rw [← Array.forIn_toList]
  generalize (Tryz.prog.fieldsOf 75).toList = fs at hf
  obtain ⟨f0, f1, rfl⟩ : ∃ f0 f1, fs = [f0, f1] := by
   have hl : fs.length = 2 := by simpa using congrArg List.length hf
   rcases fs with _ | ⟨f0, _ | ⟨f1, _ | ⟨f2, r⟩⟩⟩ <;> simp at hl
   exact ⟨_, _, rfl⟩
  clear hu
  simp only [List.map_cons, List.map_nil, List.cons.injEq, Prod.mk.injEq, and_true] at hf
  obtain ⟨⟨n0, t0, o0⟩, ⟨n1, t1, o1⟩⟩ := hf
  simp only [List.forIn_cons, List.forIn_nil, n0, n1, t0, t1, o0, o1, p0, p1, Sem.run_bind, Result.andThen_ok, uq, ne_eq, String.reduceEq, not_false_eq_true, if_true, Sem.run_pure]
 equal := fun w a b => by
  have hu : Tryz.prog.underlying 75 = some (.struct (Tryz.prog.fieldsOf 75)) := by kernel_rfl
  have hi : Tryz.prog.underlying 3 = some (.int .i64) := Tryz.underlying3
  have hf : (Tryz.prog.fieldsOf 75).toList.map (fun f => (f.name, f.type, f.offset)) = [("Point", 3, 0), ("Proc", 3, 1)] := by kernel_rfl
  have p0 := fun x0 x1 => zL #[x0, x1] 0 x0 rfl w
  have p1 := fun x0 x1 => zL #[x0, x1] 1 x1 rfl w
  unfold Op.equal Op.maxDepth qY
  rw [run_equalIn_struct w 9999 75 _ _ hu (by kernel_rfl)]
  generalize (Tryz.prog.fieldsOf 75).toList = fs at hf
  obtain ⟨f0, f1, rfl⟩ : ∃ f0 f1, fs = [f0, f1] := by
   have hl : fs.length = 2 := by simpa using congrArg List.length hf
   rcases fs with _ | ⟨f0, _ | ⟨f1, _ | ⟨f2, r⟩⟩⟩ <;> simp at hl
   exact ⟨_, _, rfl⟩
  clear hu
  simp only [List.map_cons, List.map_nil, List.cons.injEq, Prod.mk.injEq, and_true] at hf
  obtain ⟨⟨n0, t0, o0⟩, ⟨n1, t1, o1⟩⟩ := hf
  have hd : (@decide (Value.agg #[.int .i64 a.1, .int .i64 a.2] = .agg #[.int .i64 b.1, .int .i64 b.2]) (propDecidable _)) = (a.1 == b.1 && a.2 == b.2) := by
   rw [Bool.eq_iff_iff]; simp
  rw [hd]
  cases h0 : (a.1 == b.1) <;> cases h1 : (a.2 == b.2) <;>
   simp only [Op.eqFields, n0, n1, t0, t1, o0, o1, p0, p1, Sem.run_bind, Result.andThen_ok, run_equalIn_int w _ 3 _ _ _ _ hi, h0, h1, ne_eq, not_false_eq_true, if_true, Bool.not_false, Bool.not_true, Bool.false_eq_true, if_false, Sem.run_pure, Bool.true_and, Bool.false_and, String.reduceEq]
 now := fun d hd => .inr fun a b => by
  have hu : Tryz.prog.underlying 75 = some (.struct (Tryz.prog.fieldsOf 75)) := by kernel_rfl
  rw [hu] at hd
  cases hd
  simp [Instr.sameNow]
 stays := fun a => by simp [Instr.sameBits, qY]
 kind := ⟨_, by have hu : Tryz.prog.underlying 75 = some (.struct (Tryz.prog.fieldsOf 75)) := by kernel_rfl
                exact hu⟩
structure StAt (w : World) (B : Nat) (Ap : Option Addr) (bC bM n : Nat) (ps : List Nat) (cls : Nat → List Int) : Prop where
 procs : IAt w B Ap (zM ps)
 lc : bC < B
 lm : bM < B
 cl : ∃ m f, MapOf (Value.int .i64) w bC m f ∧ ∀ p ∈ ps, ∃ A c, f (p : Int) = some (.slice A n c) ∧ IAt w B A (cls p)
 mb : ∃ m f, MapOf qY w bM m f ∧ ∀ p ∈ ps, ∀ k : Int, ∃ A c, (f (k, (p : Int))).getD (.slice none 0 0) = .slice A (kU (cls p) k).length c ∧ IAt w B A (zM (kU (cls p) k))
 len : ∀ p ∈ ps, (cls p).length = n
theorem StAt.keep {w w' : World} {B : Nat} {Ap : Option Addr} {bC bM n : Nat} {ps : List Nat} {cls : Nat → List Int} (h : StAt w B Ap bC bM n ps cls) (hb : Below B w w') : StAt w' B Ap bC bM n ps cls := by
 obtain ⟨m, f, h1, h2⟩ := h.cl
 obtain ⟨m', f', h3, h4⟩ := h.mb
 refine ⟨h.procs.keep hb, h.lc, h.lm, ⟨m, f, h1.same (hb.block _ h.lc), fun p hp => ?_⟩, ⟨m', f', h3.same (hb.block _ h.lm), fun p hp k => ?_⟩, h.len⟩
 · obtain ⟨A, c, e1, e2⟩ := h2 p hp
   exact ⟨A, c, e1, e2.keep hb⟩
 · obtain ⟨A, c, e1, e2⟩ := h4 p hp k
   exact ⟨A, c, e1, e2.keep hb⟩
theorem IAt.sameB {w w' : World} {B : Nat} {A : Option Addr} {xs : List Int} (h : IAt w B A xs) (hb : ∀ k, k < B → w'.heap[k]? = w.heap[k]?) : IAt w' B A xs := fun h0 => by
 obtain ⟨b, off, e, hlt, hc⟩ := h h0
 exact ⟨b, off, e, hlt, fun i hi => (World.cell?_of_block (hb b hlt)).trans (hc i hi)⟩
theorem StAt.same {w w' : World} {B : Nat} {Ap : Option Addr} {bC bM n : Nat} {ps : List Nat} {cls : Nat → List Int} (h : StAt w B Ap bC bM n ps cls) (hb : ∀ k, k < B → w'.heap[k]? = w.heap[k]?) : StAt w' B Ap bC bM n ps cls := by
 obtain ⟨m, f, h1, h2⟩ := h.cl
 obtain ⟨m', f', h3, h4⟩ := h.mb
 refine ⟨h.procs.sameB hb, h.lc, h.lm, ⟨m, f, h1.same (hb _ h.lc), fun p hp => ?_⟩, ⟨m', f', h3.same (hb _ h.lm), fun p hp k => ?_⟩, h.len⟩
 · obtain ⟨A, c, e1, e2⟩ := h2 p hp
   exact ⟨A, c, e1, e2.sameB hb⟩
 · obtain ⟨A, c, e1, e2⟩ := h4 p hp k
   exact ⟨A, c, e1, e2.sameB hb⟩
theorem StAt.more {w : World} {B B' : Nat} {Ap : Option Addr} {bC bM n : Nat} {ps : List Nat} {cls : Nat → List Int} (h : StAt w B Ap bC bM n ps cls) (hB : B ≤ B') : StAt w B' Ap bC bM n ps cls := by
 obtain ⟨m, f, h1, h2⟩ := h.cl
 obtain ⟨m', f', h3, h4⟩ := h.mb
 have l1 := h.lc
 have l2 := h.lm
 refine ⟨h.procs.more hB, by omega, by omega, ⟨m, f, h1, fun p hp => ?_⟩, ⟨m', f', h3, fun p hp k => ?_⟩, h.len⟩
 · obtain ⟨A, c, e1, e2⟩ := h2 p hp
   exact ⟨A, c, e1, e2.more hB⟩
 · obtain ⟨A, c, e1, e2⟩ := h4 p hp k
   exact ⟨A, c, e1, e2.more hB⟩
def stC (n : Nat) (Ap : Option Addr) (m kp bC bM : Nat) : Array Value := #[.int .i64 (n : Int), .slice Ap m kp, .map (some bC), .map (some bM)]
end
section
open Go.RowKit
theorem JE {a : Ad} (h : zv a a.sts = 0) : ∀ (k : Nat) (s : Int), 0 ≤ s → s < a.sts.length → 1 ≤ zN a k s
 | 0, _, _, _ => Nat.le_refl _
 | k + 1, s, h0, h1 => by
  have hl : s.toNat < a.sts.length := by omega
  have he : a.at_ s = a.sts[s.toNat] := by unfold Ad.at_; rw [List.getD_eq_getElem?_getD, List.getElem?_eq_getElem hl]; rfl
  obtain ⟨z1, z2⟩ := kX h _ (List.getElem_mem hl)
  obtain ⟨m, r, hm⟩ : ∃ m r, a.sts[s.toNat] = m :: r := by
   cases hc : a.sts[s.toNat] with
   | nil => rw [hc] at z1; simp at z1
   | cons m r => exact ⟨m, r, rfl⟩
  have hmv : m ∈ a.mvs := List.mem_flatten.2 ⟨_, List.getElem_mem hl, by rw [hm]; simp⟩
  obtain ⟨_, _, z3, z4⟩ := xk h m hmv
  have := JE h k m.to z3 z4
  unfold zN
  rw [he, hm, List.map_cons, List.sum_cons]
  omega
theorem Z4 {s : Sy} (hf : xb s.p) (h : yE s = 0) : 1 ≤ s.xs.length := by
 obtain ⟨e, _⟩ := qd hf h
 have h0 : zJ s.p = 0 := by
  unfold yE at h
  by_cases h1 : (zQ s.p).2 ≠ 0
  · rw [if_pos h1] at h; exact absurd h h1
  · by_cases h0 : zJ s.p = 0
    · exact h0
    · rw [xv h0] at h1; exact absurd h0 h1
 obtain ⟨hpt, hpa, _⟩ := zO h0
 obtain ⟨hc, _⟩ := yB hpt
 rw [e]
 show 1 ≤ (zu s.p (zn s.p)).2.length
 have ha := hpa
 unfold xN at ha
 have hst : zv s.p.a s.p.a.sts = 0 ∧ 1 ≤ s.p.a.sts.length := by
  split at ha
  · cases ha
  · split at ha
    · cases ha
    · rename_i h3
      split at ha
      · rename_i h4; exact absurd ha h4
      · rename_i h4
        exact ⟨by simpa using h4, by omega⟩
 have := JE hst.1 s.p.k.toNat 0 (Int.le_refl _) (by omega)
 rw [xE, Yg, wi, yo]
 exact Nat.mul_le_mul hc this
theorem bit_test0 {h j : Nat} (hh : h < 32) (hj : j < 5) : (bits BinOp.and IntKind.i64 ((h : Int) / 2 ^ j) 1 == 0) = !h.testBit j := by
 match j, hj with
 | 0, _ => exact of_decide_eq_true (kT (p := fun h => decide ((bits BinOp.and IntKind.i64 ((h : Int) / 2 ^ 0) 1 == 0) = !h.testBit 0)) (by decide +kernel) hh)
 | 1, _ => exact of_decide_eq_true (kT (p := fun h => decide ((bits BinOp.and IntKind.i64 ((h : Int) / 2 ^ 1) 1 == 0) = !h.testBit 1)) (by decide +kernel) hh)
 | 2, _ => exact of_decide_eq_true (kT (p := fun h => decide ((bits BinOp.and IntKind.i64 ((h : Int) / 2 ^ 2) 1 == 0) = !h.testBit 2)) (by decide +kernel) hh)
 | 3, _ => exact of_decide_eq_true (kT (p := fun h => decide ((bits BinOp.and IntKind.i64 ((h : Int) / 2 ^ 3) 1 == 0) = !h.testBit 3)) (by decide +kernel) hh)
 | 4, _ => exact of_decide_eq_true (kT (p := fun h => decide ((bits BinOp.and IntKind.i64 ((h : Int) / 2 ^ 4) 1 == 0) = !h.testBit 4)) (by decide +kernel) hh)
structure RdS (B bX bC bM n : Nat) (S : Array Value) (V : Value) (f : Int → Option Value) (fM : Int × Int → Option Value) (pl cl : List Nat) (cls : Nat → List Int) (mem : Int × Int → List Nat) (w W : World) : Prop where
 below : Below B w W
 b0 : W.heap[B]? = some (.cells S 35 (0, 0))
 b1 : W.heap[B + 1]? = some (.cells #[.int .i64 0, .slice none 0 0, .map none, .map none] 126 (0, 0))
 bx : W.heap[bX]? = some (.cells #[.int .i64 (n : Int), V, .map (some bC), .map (some bM)] 126 (0, 0))
 own : Own W B V (zM pl)
 mC : ∃ m, MapOf (Value.int .i64) W bC m f
 mM : ∃ m, MapOf qY W bM m fM
 rowC : ∀ p ∈ cl, ∃ g c, f (p : Int) = some (.slice (some ⟨g, 0, none⟩) n c) ∧ Own W B (.slice (some ⟨g, 0, none⟩) n c) (cls p) ∧ V.ownBlock ≠ some g ∧ ∀ x v, fM x = some v → v.ownBlock ≠ some g
 rowM : ∀ x, Own W B ((fM x).getD (.slice none 0 0)) (zM (mem x)) ∧ ∀ v z, fM x = some v → v.ownBlock = some z → V.ownBlock ≠ some z
 sepM : ∀ x y v u z, fM x = some v → fM y = some u → v.ownBlock = some z → u.ownBlock = some z → x = y
 lX : B + 1 < bX
 lC : B < bC
 lM : B < bM
 nCM : bC ≠ bM
section
variable {B bX bC bM n : Nat} {S : Array Value} {V : Value} {f : Int → Option Value} {fM : Int × Int → Option Value} {pl cl : List Nat} {cls : Nat → List Int} {mem : Int × Int → List Nat} {w W W' : World}
theorem xj {w w' : World} {base : Nat} {v : Value} {xs : List Int} (h : Own w base v xs) (hs : ∀ k, v.ownBlock = some k → w'.heap[k]? = w.heap[k]?) : Own w' base v xs := by
 refine ⟨h.1, ?_⟩
 rcases h.2 with hn | ⟨g, cap, cur, rfl, hb, hg, rest⟩
 · exact .inl hn
 · exact .inr ⟨g, cap, cur, rfl, hb, (hs g rfl).trans hg, rest⟩
theorem RdS.on (h : RdS B bX bC bM n S V f fM pl cl cls mem w W) (hb : Below W.heap.size W W') : RdS B bX bC bM n S V f fM pl cl cls mem w W' := by
 obtain ⟨m, hm⟩ := h.mC
 obtain ⟨m', hm'⟩ := h.mM
 have hB := zd h.b0
 refine ⟨h.below.trans (hb.mono (by omega)), (hb.block _ (zd h.b0)).trans h.b0, (hb.block _ (zd h.b1)).trans h.b1, (hb.block _ (zd h.bx)).trans h.bx, h.own.below hb (Nat.le_refl _), ⟨m, hm.same (hb.block _ hm.lt)⟩, ⟨m', hm'.same (hb.block _ hm'.lt)⟩,
  fun p hp => ?_, fun x => ⟨(h.rowM x).1.below hb (Nat.le_refl _), (h.rowM x).2⟩, h.sepM, h.lX, h.lC, h.lM, h.nCM⟩
 obtain ⟨g, c, e1, e2, e3⟩ := h.rowC p hp
 exact ⟨g, c, e1, e2.below hb (Nat.le_refl _), e3⟩
theorem RdS.clear {k : Nat} (h : RdS B bX bC bM n S V f fM pl cl cls mem w W) (hk : ∀ cs, W.heap[k]? ≠ some (.cells cs 3 (0, 0))) : V.ownBlock ≠ some k ∧ (∀ p ∈ cl, ∀ g c, f (p : Int) = some (.slice (some ⟨g, 0, none⟩) n c) → g ≠ k) ∧ ∀ x, ((fM x).getD (.slice none 0 0)).ownBlock ≠ some k := by
 have key : ∀ {v : Value} {xs : List Int}, Own W B v xs → v.ownBlock ≠ some k := fun {v xs} ho e => by
  rcases ho.2 with ⟨rfl, _⟩ | ⟨g, cap, cur, rfl, hb, hg, rest⟩
  · cases e
  · have : g = k := by simpa [Value.ownBlock] using e
    subst this
    exact hk _ hg
 refine ⟨key h.own, fun p hp g c he => ?_, fun x => key (h.rowM x).1⟩
 obtain ⟨g', c', e1, e2, _⟩ := h.rowC p hp
 rw [he] at e1
 cases e1
 rintro rfl
 exact key e2 rfl
theorem RdS.kinds (h : RdS B bX bC bM n S V f fM pl cl cls mem w W) : (∀ cs, W.heap[B]? ≠ some (.cells cs 3 (0, 0))) ∧ (∀ cs, W.heap[B + 1]? ≠ some (.cells cs 3 (0, 0))) ∧ (∀ cs, W.heap[bX]? ≠ some (.cells cs 3 (0, 0))) ∧ (∀ cs, W.heap[bC]? ≠ some (.cells cs 3 (0, 0))) ∧ ∀ cs, W.heap[bM]? ≠ some (.cells cs 3 (0, 0)) := by
 obtain ⟨m, es, clock, hb, _⟩ := h.mC
 obtain ⟨m', es', clock', hb', _⟩ := h.mM
 refine ⟨fun cs e => ?_, fun cs e => ?_, fun cs e => ?_, fun cs e => ?_, fun cs e => ?_⟩
 · rw [h.b0] at e; injection e with e; injection e with _ e _; exact absurd e (by decide)
 · rw [h.b1] at e; injection e with e; injection e with _ e _; exact absurd e (by decide)
 · rw [h.bx] at e; injection e with e; injection e with _ e _; exact absurd e (by decide)
 · rw [hb] at e; cases e
 · rw [hb'] at e; cases e
theorem RdS.apart (h : RdS B bX bC bM n S V f fM pl cl cls mem w W) : bX ≠ bC ∧ bX ≠ bM ∧ bC ≠ B + 1 ∧ bM ≠ B + 1 := by
 obtain ⟨m, es, clock, hb, _⟩ := h.mC
 obtain ⟨m', es', clock', hb', _⟩ := h.mM
 refine ⟨?_, ?_, ?_, ?_⟩
 · rintro rfl; rw [h.bx] at hb; cases hb
 · rintro rfl; rw [h.bx] at hb'; cases hb'
 · rintro rfl; rw [h.b1] at hb; cases hb
 · rintro rfl; rw [h.b1] at hb'; cases hb'
theorem RdS.proc {V' : Value} {p : Nat} (h : RdS B bX bC bM n S V f fM pl cl cls mem w W) (hg : W.grownBy W' V.ownBlock) (ho : Own W' B V' (zM (pl ++ [p]))) (hat : V'.ownBlock = V.ownBlock ∨ ∃ z, V'.ownBlock = some z ∧ W.heap.size ≤ z) :
  RdS B bX bC bM n S V' f fM (pl ++ [p]) cl cls mem w (W'.setCell ⟨bX, 1, none⟩ V') := by
 obtain ⟨m, hm⟩ := h.mC
 obtain ⟨m', hm'⟩ := h.mM
 obtain ⟨k0, k1, kx, kc, km⟩ := h.kinds
 obtain ⟨a1, a2, a3, a4⟩ := h.apart
 have lX := h.lX
 have hB := zd h.bx
 have old : ∀ k, k < W.heap.size → V.ownBlock ≠ some k → W'.heap[k]? = W.heap[k]? := fun k hk hn => hg.block k hk (fun e => hn e.symm)
 have ox := (old bX hB (h.clear kx).1).trans h.bx
 have oth : ∀ k, k ≠ bX → (W'.setCell ⟨bX, 1, none⟩ V').heap[k]? = W'.heap[k]? := fun k hk => Below.heap_setCell W' ⟨bX, 1, none⟩ V' k hk
 have sm : ∀ k, k < W.heap.size → V.ownBlock ≠ some k → k ≠ bX → (W'.setCell ⟨bX, 1, none⟩ V').heap[k]? = W.heap[k]? := fun k hk h1 h2 => (oth k h2).trans (old k hk h1)
 have hne : ∀ {v : Value} {xs : List Int}, Own W B v xs → ∀ z, v.ownBlock = some z → z ≠ bX := fun {v xs} hov z e => by
  rintro rfl
  rcases hov.2 with ⟨rfl, _⟩ | ⟨g, cap, cur, rfl, hb, hgg, rest⟩
  · cases e
  · have : g = z := by simpa [Value.ownBlock] using e
    subst this
    exact kx _ hgg
 have hnV : ∀ z, V.ownBlock ≠ some z → z < W.heap.size → V'.ownBlock ≠ some z := fun z h1 h2 e => by
  rcases hat with e2 | ⟨y, e2, e3⟩
  · exact h1 (by rw [← e2]; exact e)
  · rw [e2] at e; cases e; omega
 refine ⟨?_, (sm B (by omega) (h.clear k0).1 (by omega)).trans h.b0, (sm (B + 1) (by omega) (h.clear k1).1 (by omega)).trans h.b1, ?_, xj ho fun z e => oth z ?_, ⟨m, hm.same (sm bC hm.lt (h.clear kc).1 (Ne.symm a1))⟩, ⟨m', hm'.same (sm bM hm'.lt (h.clear km).1 (Ne.symm a2))⟩,
  fun q hq => ?_, fun x => ⟨xj (h.rowM x).1 fun z e => ?_, fun v z e1 e2 => ?_⟩, h.sepM, lX, h.lC, h.lM, h.nCM⟩
 · exact (h.below.grown hg (by omega) (fun k e => (h.own.lt k e).1)).setCell (by show B ≤ bX; omega) _
 · rw [heap_setCell_same W' bX 1 _ _ _ ox]; rfl
 · rintro rfl
   rcases hat with e2 | ⟨y, e2, e3⟩
   · rw [e2] at e; exact hne h.own z e rfl
   · rw [e2] at e; cases e; omega
 · obtain ⟨g, c, e1, e2, e3, e4⟩ := h.rowC q hq
   have hgl := (e2.lt g rfl).2
   exact ⟨g, c, e1, xj e2 fun z e => by
    have : g = z := by simpa [Value.ownBlock] using e
    subst this
    exact sm g hgl e3 (hne e2 g rfl), hnV g e3 hgl, e4⟩
 · have hzl := ((h.rowM x).1.lt z e).2
   have hz : ∃ v, fM x = some v ∧ v.ownBlock = some z := by
    cases hf : fM x with
    | none => rw [hf] at e; cases e
    | some v => rw [hf] at e; exact ⟨v, rfl, e⟩
   obtain ⟨v, e1, e2⟩ := hz
   exact sm z hzl ((h.rowM x).2 v z e1 e2) (hne (h.rowM x).1 z e)
 · have ho2 := (h.rowM x).1
   rw [e1] at ho2
   exact hnV z ((h.rowM x).2 v z e1 e2) (ho2.lt z e2).2
theorem RdS.put {m p g c : Nat} (h : RdS B bX bC bM n S V f fM pl cl cls mem w W) (hg : W.grownBy W' (some bC)) (hm : MapOf (Value.int .i64) W' bC m (qe f (p : Int) (.slice (some ⟨g, 0, none⟩) n c))) (ho : Own W B (.slice (some ⟨g, 0, none⟩) n c) (cls p)) (hV : V.ownBlock ≠ some g) (hM : ∀ x v, fM x = some v → v.ownBlock ≠ some g) :
  RdS B bX bC bM n S V (qe f (p : Int) (.slice (some ⟨g, 0, none⟩) n c)) fM pl (cl ++ [p]) cls mem w W' := by
 obtain ⟨m', hm'⟩ := h.mM
 obtain ⟨k0, k1, kx, kc, km⟩ := h.kinds
 obtain ⟨a1, a2, a3, a4⟩ := h.apart
 have lX := h.lX
 have lC := h.lC
 have hB := zd h.bx
 have old : ∀ k, k < W.heap.size → k ≠ bC → W'.heap[k]? = W.heap[k]? := fun k hk hn => hg.block k hk (fun e => hn (by cases e; rfl))
 have hne : ∀ {v : Value} {xs : List Int}, Own W B v xs → Own W' B v xs := fun {v xs} hov => xj hov fun z e => old z (hov.lt z e).2 (by
  rintro rfl
  rcases hov.2 with ⟨rfl, _⟩ | ⟨g, cap, cur, rfl, hb, hgg, rest⟩
  · cases e
  · have : g = z := by simpa [Value.ownBlock] using e
    subst this
    exact kc _ hgg)
 refine ⟨h.below.grown hg (by omega) (fun k e => by cases e; omega), (old B (by omega) (by omega)).trans h.b0, (old (B + 1) (by omega) (Ne.symm a3)).trans h.b1, (old bX hB a1).trans h.bx, hne h.own, ⟨m, hm⟩, ⟨m', hm'.same (old bM hm'.lt (Ne.symm h.nCM))⟩, fun q hq => ?_, fun x => ⟨hne (h.rowM x).1, (h.rowM x).2⟩, h.sepM, lX, lC, h.lM, h.nCM⟩
 by_cases e : q = p
 · subst e
   exact ⟨g, c, by simp [qe], hne ho, hV, hM⟩
 · have hq' : q ∈ cl := by
    rcases List.mem_append.1 hq with h1 | h1
    · exact h1
    · exact absurd (List.mem_singleton.1 h1) e
   obtain ⟨g', c', e1, e2, e3⟩ := h.rowC q hq'
   refine ⟨g', c', ?_, hne e2, e3⟩
   unfold qe
   rw [if_neg (fun e' => e (by exact_mod_cast e')), e1]
def updM (mem : Int × Int → List Nat) (x0 : Int × Int) (i : Nat) : Int × Int → List Nat := fun x => if x = x0 then mem x0 ++ [i] else mem x
theorem RdS.member {W2 : World} {x0 : Int × Int} {i m : Nat} {v' : Value} (h : RdS B bX bC bM n S V f fM pl cl cls mem w W) (hg : W.grownBy W2 ((fM x0).getD (.slice none 0 0)).ownBlock) (ho : Own W2 B v' (zM (mem x0 ++ [i])))
  (hat : v'.ownBlock = ((fM x0).getD (.slice none 0 0)).ownBlock ∨ ∃ z, v'.ownBlock = some z ∧ W.heap.size ≤ z) (hg3 : W2.grownBy W' (some bM)) (hm3 : MapOf qY W' bM m (qe fM x0 v')) :
  RdS B bX bC bM n S V f (qe fM x0 v') pl cl cls (updM mem x0 i) w W' := by
 obtain ⟨mc, hmc⟩ := h.mC
 obtain ⟨k0, k1, kx, kc, km⟩ := h.kinds
 obtain ⟨a1, a2, a3, a4⟩ := h.apart
 have lX := h.lX
 have lM := h.lM
 have hB := zd h.bx
 have hs2 := hg.size
 have old : ∀ k, k < W.heap.size → ((fM x0).getD (.slice none 0 0)).ownBlock ≠ some k → k ≠ bM → W'.heap[k]? = W.heap[k]? := fun k hk hn hM => (hg3.block k (by omega) (fun e => hM (by cases e; rfl))).trans (hg.block k hk (fun e => hn e.symm))
 have hnb : ∀ {v : Value} {xs : List Int}, Own W B v xs → ∀ z, v.ownBlock = some z → z ≠ bM := fun {v xs} hov z e => by
  rintro rfl
  rcases hov.2 with ⟨rfl, _⟩ | ⟨g, cap, cur, rfl, hb, hgg, rest⟩
  · cases e
  · have : g = z := by simpa [Value.ownBlock] using e
    subst this
    exact km _ hgg
 have h0 : ∀ z, ((fM x0).getD (.slice none 0 0)).ownBlock = some z → ∃ v, fM x0 = some v ∧ v.ownBlock = some z := fun z e => by
  cases hf : fM x0 with
  | none => rw [hf] at e; cases e
  | some v => rw [hf] at e; exact ⟨v, rfl, e⟩
 have hbM : bM < W.heap.size := by obtain ⟨_, hm'⟩ := h.mM; exact hm'.lt
 have hnew : ∀ z, v'.ownBlock = some z → (∃ v, fM x0 = some v ∧ v.ownBlock = some z) ∨ W.heap.size ≤ z := fun z e => by
  rcases hat with e2 | ⟨y, e2, e3⟩
  · exact .inl (h0 z (by rw [← e2]; exact e))
  · rw [e2] at e; cases e; exact .inr e3
 have hV0 : ∀ z, V.ownBlock = some z → ((fM x0).getD (.slice none 0 0)).ownBlock ≠ some z := fun z e e2 => by
  obtain ⟨v, e3, e4⟩ := h0 z e2
  exact (h.rowM x0).2 v z e3 e4 e
 refine ⟨(h.below.grown hg (by omega) (fun k e => ((h.rowM x0).1.lt k e).1)).grown hg3 (by have := h.below.size; omega) (fun k e => by cases e; omega), (old B (by omega) ((h.clear k0).2.2 x0) (by omega)).trans h.b0, (old (B + 1) (by omega) ((h.clear k1).2.2 x0) (Ne.symm a4)).trans h.b1, (old bX hB ((h.clear kx).2.2 x0) a2).trans h.bx,
  xj h.own fun z e => old z (h.own.lt z e).2 (hV0 z e) (hnb h.own z e), ⟨mc, hmc.same (old bC hmc.lt ((h.clear kc).2.2 x0) h.nCM)⟩, ⟨m, hm3⟩, fun q hq => ?_, fun x => ?_, fun x y v u z e1 e2 e3 e4 => ?_, lX, h.lC, lM, h.nCM⟩
 · obtain ⟨g, c, e1, e2, e3, e4⟩ := h.rowC q hq
   have hgl := (e2.lt g rfl).2
   refine ⟨g, c, e1, xj e2 fun z e => ?_, e3, fun x v e => ?_⟩
   · have : g = z := by simpa [Value.ownBlock] using e
     subst this
     exact old g hgl (fun e5 => by obtain ⟨v, e6, e7⟩ := h0 g e5; exact e4 x0 v e6 e7) (hnb e2 g rfl)
   · unfold qe at e
     split at e
     · cases e
       intro e5
       rcases hnew g e5 with ⟨u, e6, e7⟩ | e6
       · exact e4 x0 u e6 e7
       · omega
     · exact e4 x v e
 · unfold qe updM
   by_cases e : x = x0
   · subst e
     rw [if_pos rfl, if_pos rfl]
     refine ⟨xj ho fun z e => hg3.block z (ho.lt z e).2 (fun e5 => ?_), fun v z e1 e2 e3 => ?_⟩
     · cases e5
       rcases hnew _ e with ⟨v, e6, e7⟩ | e6
       · exact hnb (h.rowM x).1 _ (by rw [e6]; exact e7) rfl
       · omega
     · cases e1
       rcases hnew z e2 with ⟨u, e6, e7⟩ | e6
       · exact (h.rowM x).2 u z e6 e7 e3
       · have := (h.own.lt z e3).2; omega
   · rw [if_neg e, if_neg e]
     refine ⟨xj (h.rowM x).1 fun z e1 => old z ((h.rowM x).1.lt z e1).2 (fun e2 => ?_) (hnb (h.rowM x).1 z e1), (h.rowM x).2⟩
     obtain ⟨v, e6, e7⟩ := h0 z e2
     cases hf : fM x with
     | none => rw [hf] at e1; cases e1
     | some u => rw [hf] at e1; exact e (h.sepM x x0 u v z hf e6 e1 e7)
 · have hlt : ∀ {x : Int × Int} {v : Value}, fM x = some v → v.ownBlock = some z → z < W.heap.size := fun {x v} e5 e6 => by
    have := (h.rowM x).1
    rw [e5] at this
    exact (this.lt z e6).2
   unfold qe at e1 e2
   by_cases ex : x = x0
   · by_cases ey : y = x0
     · rw [ex, ey]
     · rw [if_pos ex] at e1
       rw [if_neg ey] at e2
       cases e1
       rcases hnew z e3 with ⟨v1, e6, e7⟩ | e6
       · exact ex.trans (h.sepM x0 y v1 u z e6 e2 e7 e4)
       · have := hlt e2 e4; omega
   · rw [if_neg ex] at e1
     by_cases ey : y = x0
     · rw [if_pos ey] at e2
       cases e2
       rcases hnew z e4 with ⟨v1, e6, e7⟩ | e6
       · exact (h.sepM x x0 v v1 z e1 e6 e3 e7).trans ey.symm
       · have := hlt e1 e3; omega
     · rw [if_neg ey] at e2
       exact h.sepM x y v u z e1 e2 e3 e4
end
def vE (cls : Nat → List Int) (dn : List Nat) (x : Int × Int) : List Nat := if 0 ≤ x.2 ∧ x.2.toNat ∈ dn then kU (cls x.2.toNat) x.1 else []
def uf (cls : Nat → List Int) (dn : List Nat) (p i : Nat) (x : Int × Int) : List Nat := if x.2 = (p : Int) then kU ((cls p).take i) x.1 else vE cls dn x
theorem memP_zero {cls : Nat → List Int} {dn : List Nat} {p : Nat} (hp : p ∉ dn) : uf cls dn p 0 = vE cls dn := by
 funext x
 unfold uf
 split
 · rename_i h
   have h1 : vE cls dn x = [] := by
    unfold vE
    rw [h, if_neg (by rintro ⟨_, h2⟩; exact hp (by simpa using h2))]
   rw [h1]; simp [kU]
 · rfl
theorem memP_end {cls : Nat → List Int} {dn : List Nat} {p n : Nat} (hn : (cls p).length = n) : uf cls dn p n = vE cls (dn ++ [p]) := by
 funext x
 unfold uf
 split
 · rename_i h
   unfold vE
   rw [h, if_pos ⟨by omega, by simp⟩, ← hn, List.take_length]
   simp
 · rename_i h
   unfold vE
   by_cases h1 : 0 ≤ x.2 ∧ x.2.toNat ∈ dn
   · rw [if_pos h1, if_pos ⟨h1.1, by simp [h1.2]⟩]
   · rw [if_neg h1, if_neg]
     rintro ⟨h2, h3⟩
     rcases List.mem_append.1 h3 with h4 | h4
     · exact h1 ⟨h2, h4⟩
     · rw [List.mem_singleton] at h4
       omega
theorem ZJ (c : List Int) (y k : Int) : kU (c ++ [y]) k = if y = k then kU c k ++ [c.length] else kU c k := by
 unfold kU
 rw [List.length_append, List.length_singleton, List.range_succ, List.filter_append]
 have e1 : (List.range c.length).filter (fun i => decide ((c ++ [y]).getD i 0 = k)) = (List.range c.length).filter (fun i => decide (c.getD i 0 = k)) := by
  refine List.filter_congr fun i hi => ?_
  have := List.mem_range.1 hi
  rw [List.getD_eq_getElem?_getD, List.getD_eq_getElem?_getD, List.getElem?_append_left this]
 rw [e1]
 have e2 : (c ++ [y]).getD c.length 0 = y := by rw [List.getD_eq_getElem?_getD, List.getElem?_append_right (by omega)]; simp
 by_cases h : y = k
 · rw [if_pos h, List.filter_cons, if_pos (by rw [e2]; simpa using h)]; rfl
 · rw [if_neg h, List.filter_cons, if_neg (by rw [e2]; simpa using h)]; simp
theorem memP_succ {cls : Nat → List Int} {dn : List Nat} {p i : Nat} (hi : i < (cls p).length) : updM (uf cls dn p i) ((cls p)[i], (p : Int)) i = uf cls dn p (i + 1) := by
 funext x
 unfold updM
 have hl : ((cls p).take i).length = i := by simp; omega
 split
 · rename_i h
   subst h
   unfold uf
   rw [if_pos rfl, if_pos rfl, List.take_succ_eq_append_getElem hi, ZJ, if_pos rfl, hl]
 · rename_i h
   unfold uf
   split
   · rename_i h2
     rw [List.take_succ_eq_append_getElem hi, ZJ, if_neg]
     intro h3
     exact h (Prod.ext h3.symm h2)
   · rfl
end
section
def ptn (s : Sy) : Nat := s.xs.length * (s.p.k.toNat + 1)
def psG (s : Sy) (g : Int) : List Nat := zk g.toNat s.n.toNat
def zK (s : Sy) (g : Int) : Int := if yE s ≠ 0 then yE s else if g < 0 ∨ 2 ^ s.n.toNat ≤ g then 2 else 0
def xf (s : Sy) (g : Int) : Nat → Nat → Prop := yw (psG s g) (zY s)
theorem yT (s : Sy) (g : Int) (i k : Nat) (h : xf s g i k) : xf s g k i := Z3 _ _ i k h
noncomputable def jD (n : Nat) (adj : Nat → Nat → Prop) (L : List Nat) : List Int :=
 @dite _ (∃ f : List Int, f.length = n ∧ Far n adj (fun i => i ∈ L) (fun i => f.getD i 0)) (Classical.propDecidable _) (fun h => Classical.choose h) (fun _ => [])
theorem kH {n : Nat} {adj : Nat → Nat → Prop} {L : List Nat} {f : List Int} (hl : f.length = n) (hf : Far n adj (fun i => i ∈ L) (fun i => f.getD i 0)) : jD n adj L = f := by
 have h : ∃ f : List Int, f.length = n ∧ Far n adj (fun i => i ∈ L) (fun i => f.getD i 0) := ⟨f, hl, hf⟩
 unfold jD
 rw [dif_pos h]
 obtain ⟨h1, h2⟩ := Classical.choose_spec h
 exact far_list h2 hf h1 hl
noncomputable def jq (s : Sy) (g : Int) : List Int × Int := if zK s g ≠ 0 then ([], zK s g) else (kQ (ptn s) (xf s g), 0)
def zt (s : Sy) (g : Int) (set : List Bool) : Int := if zK s g ≠ 0 then zK s g else if set.length ≠ ptn s then 15 else 0
noncomputable def kS (s : Sy) (g : Int) (set : List Bool) : List Int × Int := if zt s g set ≠ 0 then ([], zt s g set) else (jD (ptn s) (xf s g) (zS set), 0)
noncomputable def kn (s : Sy) (g : Int) (set : List Bool) : List Bool × Int := if zt s g set ≠ 0 then ([], zt s g set) else (jU (ptn s) (xf s g) set, 0)
def ZA (l : List (Nat × Nat)) : List (Int × Int) := l.map fun t => ((t.1 : Int), (t.2 : Int))
def kW (f : List Int) (n : Nat) (nb : Nat → List (Nat × Nat)) (i : Nat) : List (Int × Int) := ((i : Int), -1) :: ZA (jH f n nb (f.getD i 0).toNat i)
noncomputable def wF (s : Sy) (g pt : Int) (set : List Bool) : (List (Int × Int) × Bool) × Int :=
 if zt s g set ≠ 0 then (([], false), zt s g set)
 else if pt < 0 ∨ (ptn s : Int) ≤ pt then (([], false), 6)
 else if (jD (ptn s) (xf s g) (zS set)).getD pt.toNat 0 < 0 then (([], false), 0)
 else ((kW (jD (ptn s) (xf s g) (zS set)) (ptn s) (ya (psG s g) (zY s)) pt.toNat, true), 0)
def qf (f : Nat → Int) : Nat → Nat → Int
 | 0, _ => 0
 | m + 1, i => if f i ≠ 0 then f i else qf f m (i + 1)
def Z6 (n : Nat) (ps : List Nat) (cls : Nat → List Int) (walk : List (Int × Int)) (i : Nat) : Int :=
 if (walk.getD i (0, 0)).1 < 0 ∨ (n : Int) ≤ (walk.getD i (0, 0)).1 then 6
 else if i = 0 then (if (walk.getD i (0, 0)).2 ≠ -1 then 3 else 0)
 else if (walk.getD i (0, 0)).2 ∉ zM ps then 2
 else if (cls (walk.getD i (0, 0)).2.toNat).getD (walk.getD i (0, 0)).1.toNat 0 ≠ (cls (walk.getD i (0, 0)).2.toNat).getD (walk.getD (i - 1) (0, 0)).1.toNat 0 then 18 else 0
def qV (s : Sy) (g : Int) (set : List Bool) (walk : List (Int × Int)) : Int :=
 if zt s g set ≠ 0 then zt s g set
 else if walk.length = 0 then 16
 else if 65536 < walk.length then 5
 else if qf (Z6 (ptn s) (psG s g) (zY s) walk) walk.length 0 ≠ 0 then qf (Z6 (ptn s) (psG s g) (zY s) walk) walk.length 0
 else if set.getD (walk.getD (walk.length - 1) (0, 0)).1.toNat false = true then 18 else 0
theorem hU (s : Sy) (q : Nat) : (zY s q).length = ptn s := by unfold zY; rw [jj, Jm]; rfl
theorem psG_asc (s : Sy) (g : Int) : (psG s g).Pairwise (· < ·) := by unfold psG zk; exact List.Pairwise.filter _ List.pairwise_lt_range
theorem psG_len (s : Sy) (g : Int) : (psG s g).length ≤ s.n.toNat := by unfold psG zk; exact Nat.le_trans (List.length_filter_le _ _) (by simp)
theorem xY {s : Sy} {g : Int} {set : List Bool} (h : zt s g set = 0) : zK s g = 0 ∧ set.length = ptn s := by
 unfold zt at h
 by_cases h1 : zK s g = 0
 · rw [if_neg (by simpa using h1)] at h
   refine ⟨h1, ?_⟩
   by_cases h2 : set.length = ptn s
   · exact h2
   · rw [if_pos h2] at h; cases h
 · rw [if_pos h1] at h; exact absurd h h1
theorem Y7 {s : Sy} {g : Int} (h : zK s g = 0) : yE s = 0 ∧ 0 ≤ g ∧ g < 2 ^ s.n.toNat := by
 unfold zK at h
 by_cases h1 : yE s = 0
 · rw [if_neg (by simpa using h1)] at h
   refine ⟨h1, ?_⟩
   by_cases h2 : g < 0 ∨ 2 ^ s.n.toNat ≤ g
   · rw [if_pos h2] at h; cases h
   · omega
 · rw [if_pos h1] at h; exact absurd h h1
theorem xy {s : Sy} {g : Int} (hf : xb s.p) (h : zK s g = 0) : 1 ≤ ptn s ∧ ptn s ≤ 700 ∧ (psG s g).length ≤ 5 := by
 obtain ⟨h1, _, _⟩ := Y7 h
 obtain ⟨_, K, N, hF⟩ := qd hf h1
 have hx := Z4 hf h1
 have hn := hF.n
 have hn5 := hF.n5
 have hk := hF.k
 have hk6 := hF.k6
 have hlx := hF.lx
 refine ⟨?_, ?_, ?_⟩
 · have := Nat.mul_le_mul hx (show 1 ≤ s.p.k.toNat + 1 by omega)
   unfold ptn; omega
 · have := Nat.mul_le_mul hlx (show s.p.k.toNat + 1 ≤ 7 by omega)
   unfold ptn; omega
 · have := psG_len s g
   omega
theorem Js {set : List Bool} {n : Nat} (h : set.length = n) : ∀ x ∈ zS set, x < n := fun x hx => by have := (vD.1 hx).1; omega
theorem gA (set : List Bool) : (zS set).length ≤ set.length := by unfold zS; exact Nat.le_trans (List.length_filter_le _ _) (by simp)
theorem offE_snoc (set : List Bool) (b : Bool) : zS (set ++ [b]) = if b = false then zS set ++ [set.length] else zS set := by
 unfold zS
 rw [List.length_append, List.length_singleton, List.range_succ, List.filter_append]
 have e1 : (List.range set.length).filter (fun i => (set ++ [b]).getD i false == false) = (List.range set.length).filter (fun i => set.getD i false == false) := by
  refine List.filter_congr fun i hi => ?_
  have := List.mem_range.1 hi
  rw [List.getD_eq_getElem?_getD, List.getD_eq_getElem?_getD, List.getElem?_append_left this]
 rw [e1]
 have e2 : (set ++ [b]).getD set.length false = b := by rw [List.getD_eq_getElem?_getD, List.getElem?_append_right (by omega)]; simp
 cases b with
 | false => rw [if_pos rfl, List.filter_cons, e2]; rfl
 | true => rw [if_neg (by simp), List.filter_cons, e2]; simp
end
section
def exMv (p : Int) : Mv := ⟨⟨2, p, 3, 0, 0, 0, 0⟩, 0⟩
def exC1 : Cs := ⟨[0, 0], [[0, 0]], []⟩
def exC2 : Cs := ⟨[0, 1], [[0, 0]], []⟩
def Zr : Pb := ⟨⟨2, 2, 1, [exC1, exC2]⟩, ⟨2, [[exMv 1, exMv 3]]⟩, 1⟩
def zX : Sy := (zQ Zr).1
theorem ex_few : xH Zr = true := by decide +kernel
theorem Yy : xb Zr := (few_x ex_few).1
theorem ex_ok : (zQ Zr).2 = 0 := by decide +kernel
theorem ex_low : YJ Zr := by
 refine ⟨⟨by decide, fun c hc => ?_⟩, by decide, fun l hl => ?_⟩
 · have : c = exC1 ∨ c = exC2 := by simpa [Zr] using hc
   rcases this with rfl | rfl
   · refine ⟨by decide, by decide, by decide, fun v hv => ?_, fun v hv => ?_⟩
     · have : v = [0, 0] := by simpa [exC1] using hv
       subst this; decide
     · simp [exC1] at hv
   · refine ⟨by decide, by decide, by decide, fun v hv => ?_, fun v hv => ?_⟩
     · have : v = [0, 0] := by simpa [exC2] using hv
       subst this; decide
     · simp [exC2] at hv
 · have : l = [exMv 1, exMv 3] := by simpa [Zr] using hl
   subst this; decide
theorem kI : LowS zX := jB ex_low Yy
theorem exs_p : zX.p = Zr := by decide +kernel
theorem JB : zX.xs.length = 4 ∧ zX.n = 2 := by decide +kernel
theorem exs_ver : yE zX = 0 := by decide +kernel
theorem qD : xb zX.p := by rw [exs_p]; exact Yy
theorem jz : zY zX 0 = [0, 1, 0, 2, 0, 1, 0, 3] ∧ zY zX 1 = [0, 1, 0, 1, 2, 3, 2, 3] := by decide +kernel
theorem yI : psG zX 3 = [0, 1] ∧ psG zX 2 = [1] ∧ ptn zX = 8 := by decide +kernel
theorem gY : zK zX 3 = 0 ∧ zK zX 2 = 0 := by
 unfold zK
 rw [exs_ver]
 decide +kernel
def yi : List Bool := [false, false, false, false, true, true, true, true]
theorem qv : zt zX 3 yi = 0 ∧ zt zX 2 yi = 0 := by
 unfold zt
 rw [gY.1, gY.2, yI.2.2]
 decide
def farB (n : Nat) (adj : Nat → Nat → Bool) (src : Nat → Bool) (f : Nat → Int) : Bool :=
 (List.range n).all fun i => decide (-1 ≤ f i) && (decide (f i = 0) == src i) && (!decide (0 < f i) || (List.range n).any fun k => adj i k && decide (f k = f i - 1)) && (List.range n).all fun k => !(adj i k && decide (0 ≤ f k)) || (decide (0 ≤ f i) && decide (f i ≤ f k + 1))
theorem un {n : Nat} {adj : Nat → Nat → Prop} {src : Nat → Prop} {a : Nat → Nat → Bool} {s : Nat → Bool} {f : Nat → Int} (ha : ∀ i k, adj i k ↔ a i k = true) (hs : ∀ i, src i ↔ s i = true) (h : farB n a s f = true) : Far n adj src f := by
 have h1 := fun i hi => List.all_eq_true.1 h i (List.mem_range.2 hi)
 simp only [Bool.and_eq_true] at h1
 refine ⟨fun i hi => of_decide_eq_true (h1 i hi).1.1.1, fun i hi => ?_, fun i hi h0 => ?_, fun i k hi hk hak h0 => ?_⟩
 · rw [hs i, ← eq_of_beq (h1 i hi).1.1.2, decide_eq_true_iff]
 · have := (h1 i hi).1.2
   rw [decide_eq_true h0, Bool.not_true, Bool.false_or] at this
   obtain ⟨k, hk, e⟩ := List.any_eq_true.1 this
   simp only [Bool.and_eq_true, decide_eq_true_iff] at e
   exact ⟨k, List.mem_range.1 hk, (ha i k).2 e.1, e.2⟩
 · have := List.all_eq_true.1 (h1 i hi).2 k (List.mem_range.2 hk)
   rw [(ha i k).1 hak, decide_eq_true h0] at this
   simpa using this
def adjB (ps : List Nat) (cls : Nat → List Int) (i k : Nat) : Bool := ps.any fun p => (cls p).getD i 0 == (cls p).getD k 0
theorem adjB_iff (ps : List Nat) (cls : Nat → List Int) (i k : Nat) : yw ps cls i k ↔ adjB ps cls i k = true := by
 unfold yw adjB
 rw [List.any_eq_true]
 simp
def XP (q : Nat) : List Int := if q = 0 then [0, 1, 0, 2, 0, 1, 0, 3] else if q = 1 then [0, 1, 0, 1, 2, 3, 2, 3] else []
theorem JC (g : Int) (hg : ∀ q ∈ psG zX g, q = 0 ∨ q = 1) (i k : Nat) : xf zX g i k ↔ adjB (psG zX g) XP i k = true := by
 rw [← adjB_iff]
 unfold xf yw
 have e : ∀ q ∈ psG zX g, zY zX q = XP q := fun q hq => by
  rcases hg q hq with rfl | rfl
  · exact jz.1
  · exact jz.2
 constructor
 · rintro ⟨q, hq, h⟩; exact ⟨q, hq, by rw [← e q hq]; exact h⟩
 · rintro ⟨q, hq, h⟩; exact ⟨q, hq, by rw [e q hq]; exact h⟩
theorem jo (i k : Nat) : xf zX 3 i k ↔ adjB [0, 1] XP i k = true := by rw [JC 3 (by rw [yI.1]; simp), yI.1]
theorem XN (i k : Nat) : xf zX 2 i k ↔ adjB [1] XP i k = true := by rw [JC 2 (by rw [yI.2.1]; simp), yI.2.1]
def qR : List Int := [0, 0, 0, 0, 1, 1, 1, 2]
def exFar2 : List Int := [0, 0, 0, 0, -1, -1, -1, -1]
theorem XM : jD (ptn zX) (xf zX 3) (zS yi) = qR := by
 refine kH (by rw [yI.2.2]; rfl) ?_
 rw [yI.2.2]
 exact un jo (s := fun i => decide (i ∈ zS yi)) (fun i => by simp) (by decide +kernel)
theorem exs_far2 : jD (ptn zX) (xf zX 2) (zS yi) = exFar2 := by
 refine kH (by rw [yI.2.2]; rfl) ?_
 rw [yI.2.2]
 exact un XN (s := fun i => decide (i ∈ zS yi)) (fun i => by simp) (by decide +kernel)
theorem exs_rad : kS zX 3 yi = (qR, 0) := by unfold kS; rw [qv.1, XM]; rfl
theorem Jy {s : Sy} {g : Int} {set : List Bool} {f : List Int} (hn : set.length = ptn s) (hf : Far (ptn s) (xf s g) (fun i => i ∈ zS set) (fun i => f.getD i 0)) (hl : f.length = ptn s) : jU (ptn s) (xf s g) set = f.map fun d => decide (d < 0) := gJ hn hf hl (yT s g)
theorem exs_held3 : kn zX 3 yi = (List.replicate 8 false, 0) := by
 unfold kn
 rw [qv.1, Jy (f := qR) (by rw [yI.2.2]; rfl) (by rw [yI.2.2]; exact un jo (s := fun i => decide (i ∈ zS yi)) (fun i => by simp) (by decide +kernel)) (by rw [yI.2.2]; rfl)]
 rfl
theorem exs_held2 : kn zX 2 yi = (yi, 0) := by
 unfold kn
 rw [qv.2, Jy (f := exFar2) (by rw [yI.2.2]; rfl) (by rw [yI.2.2]; exact un XN (s := fun i => decide (i ∈ zS yi)) (fun i => by simp) (by decide +kernel)) (by rw [yI.2.2]; rfl)]
 rfl
def kJ : List Int := [0, 1, 0, 1, 0, 1, 0, 1]
theorem exs_conn (i j : Nat) (hi : i < 8) (hj : j < 8) : kJ.getD i 0 = kJ.getD j 0 ↔ Conn 8 (xf zX 3) i j := by
 have far0 : Far 8 (xf zX 3) (fun k => k = 0) (fun i => ([0, -1, 1, -1, 1, -1, 1, -1] : List Int).getD i 0) := un jo (s := fun k => decide (k = 0)) (fun i => by simp) (by decide +kernel)
 have far1 : Far 8 (xf zX 3) (fun k => k = 1) (fun i => ([-1, 0, -1, 1, -1, 1, -1, 2] : List Int).getD i 0) := un jo (s := fun k => decide (k = 1)) (fun i => by simp) (by decide +kernel)
 constructor
 · intro h
   have hd : ∀ i, i < 8 → (kJ.getD i 0 = 0 ∧ 0 ≤ ([0, -1, 1, -1, 1, -1, 1, -1] : List Int).getD i 0) ∨ (kJ.getD i 0 = 1 ∧ 0 ≤ ([-1, 0, -1, 1, -1, 1, -1, 2] : List Int).getD i 0) := by decide +kernel
   rcases hd i hi with ⟨a1, a2⟩ | ⟨a1, a2⟩ <;> rcases hd j hj with ⟨b1, b2⟩ | ⟨b1, b2⟩
   · exact (((far0.reach (by omega) (yT _ _) i hi).1 a2).symm (yT _ _)).trans ((far0.reach (by omega) (yT _ _) j hj).1 b2)
   · omega
   · omega
   · exact (((far1.reach (by omega) (yT _ _) i hi).1 a2).symm (yT _ _)).trans ((far1.reach (by omega) (yT _ _) j hj).1 b2)
 · intro h
   have hst : ∀ i, i < 8 → ∀ j, j < 8 → adjB [0, 1] XP i j = true → kJ.getD i 0 = kJ.getD j 0 := by decide +kernel
   induction h with
   | refl => rfl
   | step _ h1 h2 h3 ih => exact (ih h1).trans (hst _ h1 _ h2 ((jo _ _).1 h3))
theorem exs_comp : jq zX 3 = (kJ, 0) := by
 unfold jq
 rw [gY.1, yI.2.2, ← compL_of (n := 8) (yT zX 3) kJ rfl (fun i j h1 h2 => by rw [← zF h1 0, ← zF h2 0]; exact exs_conn i j h1 h2)]
 decide +kernel
def qE : List (Int × Int) := [(7, -1), (5, 1), (1, 0)]
theorem exs_wit : wF zX 3 7 yi = ((qE, true), 0) := by
 have hn : ya (psG zX 3) (zY zX) = ya [0, 1] XP := by
  funext i
  rw [yI.1]
  unfold ya
  simp only [List.flatMap_cons, List.flatMap_nil, jz.1, jz.2]
  rfl
 unfold wF
 rw [qv.1, XM, hn, yI.2.2]
 decide +kernel
theorem JA (walk : List (Int × Int)) (i : Nat) : Z6 (ptn zX) (psG zX 3) (zY zX) walk i = Z6 8 [0, 1] XP walk i := by
 unfold Z6
 rw [yI.1, yI.2.2]
 have e : ∀ q : Nat, q = 0 ∨ q = 1 → zY zX q = XP q := fun q h => by
  rcases h with rfl | rfl
  · exact jz.1
  · exact jz.2
 generalize walk.getD i (0, 0) = t
 by_cases h : t.2 ∈ zM [0, 1]
 · have h1 : t.2.toNat = 0 ∨ t.2.toNat = 1 := by
    have h2 : t.2 = 0 ∨ t.2 = 1 := by simpa [zM] using h
    omega
   rw [e _ h1]
 · simp only [if_pos h]
theorem jX {f g : Nat → Int} (h : ∀ i, f i = g i) : ∀ m i, qf f m i = qf g m i
 | 0, _ => rfl
 | m + 1, i => by unfold qf; rw [h i, jX h m (i + 1)]
theorem exs_verw : qV zX 3 yi qE = 0 := by
 unfold qV
 rw [qv.1, jX (JA _)]
 decide +kernel
theorem exs_verw2 : qV zX 3 yi (qE.take 2) = 18 := by
 unfold qV
 rw [qv.1, jX (JA _)]
 decide +kernel
end
section
open Go.RowKit
attribute [local go_sem] Oper.semAt_some
theorem vG {S : Nat → Prop} {W : World} {b : Nat} {xs : List Int} {t : TypeId} (hS : S b) (h : W.heap[b]? = some (.cells ((xs.map (Value.int .i64)).toArray) t (0, 0))) : IAtS S W (some ⟨b, 0, none⟩) xs := fun _ =>
 ⟨b, 0, rfl, hS, zd h, fun i hi => by rw [Nat.zero_add]; exact za h i (by simp [hi])⟩
theorem Xt {S : Nat → Prop} {W : World} {b : Nat} {v : List Int} {A : Option Addr} {c : Nat} {t : TypeId} (hS : S b) (h : W.heap[b]? = some (.cells #[.slice A v.length c] t (0, 0))) (h2 : IAtS S W A v) : LAtS S W (some ⟨b, 0, none⟩) [v] := fun _ =>
 ⟨b, 0, rfl, hS, zd h, fun i hi => by
  obtain rfl : i = 0 := by simpa using hi
  exact ⟨A, c, za h 0 rfl, h2⟩⟩
def wt : List Mv := [exMv 1, exMv 3]
def Qy (l : List Mv) : List Value := l.flatMap fun m => m.cells.toList
theorem ex_moves {S : Nat → Prop} {W : World} {base : Nat} {A : Option Addr} {c : Nat} (h : OwnR kMv W base (.slice A 2 c) 2 (Qy wt)) (hS : ∀ b, base ≤ b → b < W.heap.size → S b) : MAtS S W A wt := fun _ => by
 obtain ⟨A', c', e, _, _, h3⟩ := h.form
 cases e
 obtain ⟨g, rfl, ho, hg, hc⟩ := h3 (by omega)
 refine ⟨g, 0, rfl, hS g (h.lt g ho).1 hg, hg, fun i hi k u hu => ?_⟩
 have hi2 : i = 0 ∨ i = 1 := by have : i < 2 := hi; omega
 have hk8 : k < 8 := by
  rcases hi2 with rfl | rfl
  · exact (Array.getElem?_eq_some_iff.1 hu).1
  · exact (Array.getElem?_eq_some_iff.1 hu).1
 rw [Nat.zero_add]
 refine hc _ _ ?_
 rw [← hu]
 have h8 : k = 0 ∨ k = 1 ∨ k = 2 ∨ k = 3 ∨ k = 4 ∨ k = 5 ∨ k = 6 ∨ k = 7 := by omega
 rcases hi2 with rfl | rfl <;> rcases h8 with rfl | rfl | rfl | rfl | rfl | rfl | rfl | rfl <;> rfl
theorem YU {w : World} {g : Nat} {a0 a1 a2 a3 a4 a5 a6 a7 a8 a9 : Value} {t : TypeId} (h : w.heap[g]? = some (.cells #[a0, a1, a2, a3, a4, a5, a6, a7, a8, a9] t (0, 0))) (v0 v1 v2 v3 v4 v5 v6 v7 v8 v9 : Value) :
  ∃ W, ((((((((((w.setCell ⟨g, 0, none⟩ v0).setCell ⟨g, 1, none⟩ v1).setCell ⟨g, 2, none⟩ v2).setCell ⟨g, 3, none⟩ v3).setCell ⟨g, 4, none⟩ v4).setCell ⟨g, 5, none⟩ v5).setCell ⟨g, 6, none⟩ v6).setCell ⟨g, 7, none⟩ v7).setCell ⟨g, 8, none⟩ v8).setCell ⟨g, 9, none⟩ v9) = W ∧ W.heap[g]? = some (.cells #[v0, v1, v2, v3, v4, v5, v6, v7, v8, v9] t (0, 0)) ∧ (∀ k, k ≠ g → W.heap[k]? = w.heap[k]?) ∧ (∀ B, B ≤ g → Below B w W) ∧ W.heap.size = w.heap.size := by
 refine ⟨_, rfl, ?_, fun k hk => ?_, fun B hB => ?_, by simp [World.setCell]⟩
 · have k0 : (w.setCell ⟨g, 0, none⟩ v0).heap[g]? = some (.cells #[v0, a1, a2, a3, a4, a5, a6, a7, a8, a9] t (0, 0)) := heap_setCell_same _ g 0 _ _ v0 h
   have k1 : ((w.setCell ⟨g, 0, none⟩ v0).setCell ⟨g, 1, none⟩ v1).heap[g]? = some (.cells #[v0, v1, a2, a3, a4, a5, a6, a7, a8, a9] t (0, 0)) := heap_setCell_same _ g 1 _ _ v1 k0
   have k2 : (((w.setCell ⟨g, 0, none⟩ v0).setCell ⟨g, 1, none⟩ v1).setCell ⟨g, 2, none⟩ v2).heap[g]? = some (.cells #[v0, v1, v2, a3, a4, a5, a6, a7, a8, a9] t (0, 0)) := heap_setCell_same _ g 2 _ _ v2 k1
   have k3 : ((((w.setCell ⟨g, 0, none⟩ v0).setCell ⟨g, 1, none⟩ v1).setCell ⟨g, 2, none⟩ v2).setCell ⟨g, 3, none⟩ v3).heap[g]? = some (.cells #[v0, v1, v2, v3, a4, a5, a6, a7, a8, a9] t (0, 0)) := heap_setCell_same _ g 3 _ _ v3 k2
   have k4 : (((((w.setCell ⟨g, 0, none⟩ v0).setCell ⟨g, 1, none⟩ v1).setCell ⟨g, 2, none⟩ v2).setCell ⟨g, 3, none⟩ v3).setCell ⟨g, 4, none⟩ v4).heap[g]? = some (.cells #[v0, v1, v2, v3, v4, a5, a6, a7, a8, a9] t (0, 0)) := heap_setCell_same _ g 4 _ _ v4 k3
   have k5 : ((((((w.setCell ⟨g, 0, none⟩ v0).setCell ⟨g, 1, none⟩ v1).setCell ⟨g, 2, none⟩ v2).setCell ⟨g, 3, none⟩ v3).setCell ⟨g, 4, none⟩ v4).setCell ⟨g, 5, none⟩ v5).heap[g]? = some (.cells #[v0, v1, v2, v3, v4, v5, a6, a7, a8, a9] t (0, 0)) := heap_setCell_same _ g 5 _ _ v5 k4
   have k6 : (((((((w.setCell ⟨g, 0, none⟩ v0).setCell ⟨g, 1, none⟩ v1).setCell ⟨g, 2, none⟩ v2).setCell ⟨g, 3, none⟩ v3).setCell ⟨g, 4, none⟩ v4).setCell ⟨g, 5, none⟩ v5).setCell ⟨g, 6, none⟩ v6).heap[g]? = some (.cells #[v0, v1, v2, v3, v4, v5, v6, a7, a8, a9] t (0, 0)) := heap_setCell_same _ g 6 _ _ v6 k5
   have k7 : ((((((((w.setCell ⟨g, 0, none⟩ v0).setCell ⟨g, 1, none⟩ v1).setCell ⟨g, 2, none⟩ v2).setCell ⟨g, 3, none⟩ v3).setCell ⟨g, 4, none⟩ v4).setCell ⟨g, 5, none⟩ v5).setCell ⟨g, 6, none⟩ v6).setCell ⟨g, 7, none⟩ v7).heap[g]? = some (.cells #[v0, v1, v2, v3, v4, v5, v6, v7, a8, a9] t (0, 0)) := heap_setCell_same _ g 7 _ _ v7 k6
   have k8 : (((((((((w.setCell ⟨g, 0, none⟩ v0).setCell ⟨g, 1, none⟩ v1).setCell ⟨g, 2, none⟩ v2).setCell ⟨g, 3, none⟩ v3).setCell ⟨g, 4, none⟩ v4).setCell ⟨g, 5, none⟩ v5).setCell ⟨g, 6, none⟩ v6).setCell ⟨g, 7, none⟩ v7).setCell ⟨g, 8, none⟩ v8).heap[g]? = some (.cells #[v0, v1, v2, v3, v4, v5, v6, v7, v8, a9] t (0, 0)) := heap_setCell_same _ g 8 _ _ v8 k7
   have k9 : ((((((((((w.setCell ⟨g, 0, none⟩ v0).setCell ⟨g, 1, none⟩ v1).setCell ⟨g, 2, none⟩ v2).setCell ⟨g, 3, none⟩ v3).setCell ⟨g, 4, none⟩ v4).setCell ⟨g, 5, none⟩ v5).setCell ⟨g, 6, none⟩ v6).setCell ⟨g, 7, none⟩ v7).setCell ⟨g, 8, none⟩ v8).setCell ⟨g, 9, none⟩ v9).heap[g]? = some (.cells #[v0, v1, v2, v3, v4, v5, v6, v7, v8, v9] t (0, 0)) := heap_setCell_same _ g 9 _ _ v9 k8
   exact k9
 · exact (Below.heap_setCell _ ⟨g, 9, none⟩ v9 k hk).trans ((Below.heap_setCell _ ⟨g, 8, none⟩ v8 k hk).trans ((Below.heap_setCell _ ⟨g, 7, none⟩ v7 k hk).trans ((Below.heap_setCell _ ⟨g, 6, none⟩ v6 k hk).trans ((Below.heap_setCell _ ⟨g, 5, none⟩ v5 k hk).trans ((Below.heap_setCell _ ⟨g, 4, none⟩ v4 k hk).trans ((Below.heap_setCell _ ⟨g, 3, none⟩ v3 k hk).trans ((Below.heap_setCell _ ⟨g, 2, none⟩ v2 k hk).trans ((Below.heap_setCell _ ⟨g, 1, none⟩ v1 k hk).trans (Below.heap_setCell _ ⟨g, 0, none⟩ v0 k hk)))))))))
 · refine Below.setCell (p := ⟨g, 9, none⟩) ?_ hB _
   refine Below.setCell (p := ⟨g, 8, none⟩) ?_ hB _
   refine Below.setCell (p := ⟨g, 7, none⟩) ?_ hB _
   refine Below.setCell (p := ⟨g, 6, none⟩) ?_ hB _
   refine Below.setCell (p := ⟨g, 5, none⟩) ?_ hB _
   refine Below.setCell (p := ⟨g, 4, none⟩) ?_ hB _
   refine Below.setCell (p := ⟨g, 3, none⟩) ?_ hB _
   refine Below.setCell (p := ⟨g, 2, none⟩) ?_ hB _
   refine Below.setCell (p := ⟨g, 1, none⟩) ?_ hB _
   refine Below.setCell (p := ⟨g, 0, none⟩) ?_ hB _
   exact Below.refl B w
set_option maxRecDepth 100000 in
theorem Zq (w : World) : Calls Tryz.prog 62 #[] w fun e w' => ∃ A kc SV ks AV kv AX kx, e = .returned (.tuple #[.agg (zX.vs_ A kc SV ks AV kv AX kx), .bool true]) ∧ SyAt w' w'.heap.size A SV AV AX zX ∧ Below w.heap.size w w' := by
 obtain ⟨w0, hw0, d0, hs0, hB0⟩ := zi w #[.int .i64 0, .int .i64 0, .int .i64 0, .slice none 0 0, .int .i64 0, .slice none 0 0, .int .i64 0, .int .i64 0, .slice none 0 0, .slice none 0 0] 35
 obtain ⟨w1, hw1, d1, hs1, hB1⟩ := zi w0 #[.int .i64 1, .int .i64 3] 3
 have HW0 := zH hw0
 have HW1 := zH hw1
 rw [hs0] at d1
 have HD0 := zH ((hB1.block _ (by omega)).trans d0)
 have HD1 := zH d1
 have HB1 := zH (hB0.trans (hB1.mono (by omega)))
 have hs1' : w1.heap.size = w.heap.size + 1 + 1 := by omega
 clear hw0 hw1 d0 d1 hB0 hB1 hs1
 go_enter Tryz.func62, Tryz.ntmps62
 go_wp2_with fail
 rw [HW0.out, HW1.out]
 try rw [hs0]
 clear HW0 HW1
 go_wp2_with fail
 go_loopw [2, 10] (fun o i wr => ∃ k : Nat, k ≤ 2 ∧ i = .int .i64 (k : Int) ∧ Hid (OwnR kMv wr w1.heap.size o k (Qy (wt.take k))) ∧ Hid (Below w1.heap.size w1 wr)) (fun _ i _ => 2 - (intOf i).toNat)
 case atStart => exact ⟨0, by omega, rfl, OwnR.nil _ _ _, Below.refl _ _⟩
 case round =>
  obtain ⟨k, hk, rfl, HO, hb⟩ := hrel
  have hsz := hb.out.size
  obtain ⟨Ao, co, rfl, _, _, _⟩ := HO.out.form
  have dd := (hb.out.block _ (by omega : w.heap.size + 1 < w1.heap.size)).trans HD1.out
  by_cases hlt : k < 2
  · obtain ⟨v, hv⟩ : ∃ v : Int, (k = 0 ∧ v = 1) ∨ (k = 1 ∧ v = 3) := by
     rcases (by omega : k = 0 ∨ k = 1) with rfl | rfl
     · exact ⟨1, .inl ⟨rfl, rfl⟩⟩
     · exact ⟨3, .inr ⟨rfl, rfl⟩⟩
    have c1 : wr.cell? ⟨w.heap.size + 1, k, none⟩ = some (.int .i64 v) := by
     rcases hv with ⟨rfl, rfl⟩ | ⟨rfl, rfl⟩
     · exact za dd 0 rfl
     · exact za dd 1 rfl
    have htk : Qy (wt.take (k + 1)) = Qy (wt.take k) ++ #[Value.int .i64 2, .int .i64 v, .int .i64 3, .int .i64 0, .int .i64 0, .int .i64 0, .int .i64 0, .int .i64 0].toList := by
     rcases hv with ⟨rfl, rfl⟩ | ⟨rfl, rfl⟩ <;> rfl
    have HTK := zH htk
    have hk0 : (0 : Int) ≤ (k : Int) := by omega
    have hk1 : (k : Int) < 2 := by omega
    clear dd hv htk
    go_wp2_with (at_builtin; go_must (refine yx kMv_ok rfl _ _ (by rfl) w1.heap.size (.slice Ao k co) k (Qy (wt.take k)) (by rfl) (HO.out.alloc _) wr.heap.size #[.int .i64 2, .int .i64 v, .int .i64 3, .int .i64 0, .int .i64 0, .int .i64 0, .int .i64 0, .int .i64 0] (by rfl) (zh wr _) rfl (by simp [Value.oneCell']) (by omega) (by simp; omega) _ rfl ?_); intro g' cap' w4 hr4 hg4 hat4 hlt4
                 have HR4 : Hid (OwnR kMv w4 w1.heap.size (.slice (some ⟨g', 0, none⟩) (k + 1) cap') (k + 1) (Qy (wt.take (k + 1)))) := by rw [HTK.out]; exact hr4
                 have HB4 : Hid (Below w1.heap.size w1 w4) := hb.out.trans (((zI wr _).mono hsz).grown hg4 (by simp; omega) (fun k hk => (HO.out.lt k hk).1))
                 clear hr4 hg4 hat4)
    go_roundw
    case rel => exact ⟨k + 1, by omega, by go_num, HR4, HB4⟩
    case measure => simp [intOf]; omega
  · obtain rfl : k = 2 := by omega
    have HO2 : Hid (OwnR kMv wr w1.heap.size (.slice Ao 2 co) 2 (Qy wt)) := HO.out
    obtain ⟨w3, hw3⟩ : ∃ w3, w3 = wr := ⟨_, rfl⟩
    rw [← hw3] at HO2 hb hsz ⊢
    clear dd HO hw3 hlt
    go_upto_region 8 with fail
    obtain ⟨a0, ha0, e0, hs0, hb0⟩ := zi w3 #[.int .i64 0, .int .i64 0] 3
    obtain ⟨a1, ha1, e1, hs1, hb1⟩ := zi a0 #[.int .i64 0, .int .i64 0] 3
    obtain ⟨a2, ha2, e2, hs2, hb2⟩ := zi a1 #[.slice (some ⟨w3.heap.size + 1, 0, none⟩) 2 2] 38
    obtain ⟨a3, ha3, e3, hs3, hb3⟩ := zi a2 #[.int .i64 0, .int .i64 1] 3
    obtain ⟨a4, ha4, e4, hs4, hb4⟩ := zi a3 #[.int .i64 0, .int .i64 0] 3
    obtain ⟨a5, ha5, e5, hs5, hb5⟩ := zi a4 #[.slice (some ⟨w3.heap.size + 1 + 1 + 1 + 1, 0, none⟩) 2 2] 38
    obtain ⟨a6, ha6, e6, hs6, hb6⟩ := zi a5 #[.slice (some ⟨w3.heap.size, 0, none⟩) 2 2, .slice (some ⟨w3.heap.size + 1 + 1, 0, none⟩) 1 1, .slice none 0 0, .slice (some ⟨w3.heap.size + 1 + 1 + 1, 0, none⟩) 2 2, .slice (some ⟨w3.heap.size + 1 + 1 + 1 + 1 + 1, 0, none⟩) 1 1, .slice none 0 0] 168
    obtain ⟨a7, ha7, e7, hs7, hb7⟩ := zi a6 #[.int .i64 2, .int .i64 2, .int .i64 1, .slice (some ⟨w3.heap.size + 1 + 1 + 1 + 1 + 1 + 1, 0, none⟩) 2 2] 24
    rw [ha0, ha1, ha2, ha3, ha4, ha5, ha6, ha7]
    rw [hs0] at e1
    rw [hs0] at hs1
    rw [hs1] at e2
    rw [hs1] at hs2
    rw [hs2] at e3
    rw [hs2] at hs3
    rw [hs3] at e4
    rw [hs3] at hs4
    rw [hs4] at e5
    rw [hs4] at hs5
    rw [hs5] at e6
    rw [hs5] at hs6
    rw [hs6] at e7
    rw [hs6] at hs7
    have D0 : Hid (a7.heap[w3.heap.size]? = some (.cells #[.int .i64 0, .int .i64 0] 3 (0, 0))) := (hb7.block _ (by omega)).trans ((hb6.block _ (by omega)).trans ((hb5.block _ (by omega)).trans ((hb4.block _ (by omega)).trans ((hb3.block _ (by omega)).trans ((hb2.block _ (by omega)).trans ((hb1.block _ (by omega)).trans (e0)))))))
    have D1 : Hid (a7.heap[w3.heap.size + 1]? = some (.cells #[.int .i64 0, .int .i64 0] 3 (0, 0))) := (hb7.block _ (by omega)).trans ((hb6.block _ (by omega)).trans ((hb5.block _ (by omega)).trans ((hb4.block _ (by omega)).trans ((hb3.block _ (by omega)).trans ((hb2.block _ (by omega)).trans (e1))))))
    have D2 : Hid (a7.heap[w3.heap.size + 1 + 1]? = some (.cells #[.slice (some ⟨w3.heap.size + 1, 0, none⟩) 2 2] 38 (0, 0))) := (hb7.block _ (by omega)).trans ((hb6.block _ (by omega)).trans ((hb5.block _ (by omega)).trans ((hb4.block _ (by omega)).trans ((hb3.block _ (by omega)).trans (e2)))))
    have D3 : Hid (a7.heap[w3.heap.size + 1 + 1 + 1]? = some (.cells #[.int .i64 0, .int .i64 1] 3 (0, 0))) := (hb7.block _ (by omega)).trans ((hb6.block _ (by omega)).trans ((hb5.block _ (by omega)).trans ((hb4.block _ (by omega)).trans (e3))))
    have D4 : Hid (a7.heap[w3.heap.size + 1 + 1 + 1 + 1]? = some (.cells #[.int .i64 0, .int .i64 0] 3 (0, 0))) := (hb7.block _ (by omega)).trans ((hb6.block _ (by omega)).trans ((hb5.block _ (by omega)).trans (e4)))
    have D5 : Hid (a7.heap[w3.heap.size + 1 + 1 + 1 + 1 + 1]? = some (.cells #[.slice (some ⟨w3.heap.size + 1 + 1 + 1 + 1, 0, none⟩) 2 2] 38 (0, 0))) := (hb7.block _ (by omega)).trans ((hb6.block _ (by omega)).trans (e5))
    have D6 : Hid (a7.heap[w3.heap.size + 1 + 1 + 1 + 1 + 1 + 1]? = some (.cells #[.slice (some ⟨w3.heap.size, 0, none⟩) 2 2, .slice (some ⟨w3.heap.size + 1 + 1, 0, none⟩) 1 1, .slice none 0 0, .slice (some ⟨w3.heap.size + 1 + 1 + 1, 0, none⟩) 2 2, .slice (some ⟨w3.heap.size + 1 + 1 + 1 + 1 + 1, 0, none⟩) 1 1, .slice none 0 0] 168 (0, 0))) := (hb7.block _ (by omega)).trans (e6)
    have D7 : Hid (a7.heap[w3.heap.size + 1 + 1 + 1 + 1 + 1 + 1 + 1]? = some (.cells #[.int .i64 2, .int .i64 2, .int .i64 1, .slice (some ⟨w3.heap.size + 1 + 1 + 1 + 1 + 1 + 1, 0, none⟩) 2 2] 24 (0, 0))) := e7
    have HB8 : Hid (Below w3.heap.size w3 a7) := (((((((hb0).trans (hb1.mono (by omega))).trans (hb2.mono (by omega))).trans (hb3.mono (by omega))).trans (hb4.mono (by omega))).trans (hb5.mono (by omega))).trans (hb6.mono (by omega))).trans (hb7.mono (by omega))
    clear ha0 e0 hb0 ha1 e1 hb1 ha2 e2 hb2 ha3 e3 hb3 ha4 e4 hb4 ha5 e5 hb5 ha6 e6 hb6 ha7 e7 hb7
    have HO7 := zH (HO2.out.below HB8.out (Nat.le_refl _))
    have HB7 := zH (hb.out.trans (HB8.out.mono hsz))
    have hs9 : a7.heap.size = w3.heap.size + 8 := by omega
    have x0 := za D7.out 0 rfl
    have x1 := za D7.out 1 rfl
    have x2 := za D7.out 2 rfl
    have x3 := za D7.out 3 rfl
    clear HO2 HB8 hs1 hs2 hs3 hs4 hs5 hs6 hs7
    go_wp2_with fail
    obtain ⟨a8, ha8, e8, hs8, hb8⟩ := zi a7 #[.slice Ao 2 co] 198
    rw [ha8]
    have hss : a8.heap.size = w3.heap.size + 9 := by omega
    have S : Nat → Prop := fun k => w1.heap.size ≤ k ∧ k < a8.heap.size
    have N0 := (hb8.block _ (by omega)).trans D0.out
    have N1 := (hb8.block _ (by omega)).trans D1.out
    have N2 := (hb8.block _ (by omega)).trans D2.out
    have N3 := (hb8.block _ (by omega)).trans D3.out
    have N4 := (hb8.block _ (by omega)).trans D4.out
    have N5 := (hb8.block _ (by omega)).trans D5.out
    have N6 := (hb8.block _ (by omega)).trans D6.out
    have i0 : IAtS (fun k => w1.heap.size ≤ k ∧ k < a8.heap.size) a8 _ [0, 0] := vG (by omega) N0
    have i1 : IAtS (fun k => w1.heap.size ≤ k ∧ k < a8.heap.size) a8 _ [0, 0] := vG (by omega) N1
    have i3 : IAtS (fun k => w1.heap.size ≤ k ∧ k < a8.heap.size) a8 _ [0, 1] := vG (by omega) N3
    have i4 : IAtS (fun k => w1.heap.size ≤ k ∧ k < a8.heap.size) a8 _ [0, 0] := vG (by omega) N4
    have l2 := Xt (v := [0, 0]) (S := fun k => w1.heap.size ≤ k ∧ k < a8.heap.size) (by omega) N2 i1
    have l5 := Xt (v := [0, 0]) (S := fun k => w1.heap.size ≤ k ∧ k < a8.heap.size) (by omega) N5 i4
    have hO8 := HO7.out.below hb8 (Nat.le_refl _)
    have m8 : MAtS (fun k => w1.heap.size ≤ k ∧ k < a8.heap.size) a8 Ao wt := ex_moves hO8 fun b h1 h2 => ⟨h1, h2⟩
    have hCL : CAtL w1.heap.size a8.heap.size a8 (some ⟨w3.heap.size + 1 + 1 + 1 + 1 + 1 + 1, 0, none⟩) Zr.t.cases := by
     refine ⟨[.slice (some ⟨w3.heap.size, 0, none⟩) 2 2, .slice (some ⟨w3.heap.size + 1 + 1, 0, none⟩) 1 1, .slice none 0 0, .slice (some ⟨w3.heap.size + 1 + 1 + 1, 0, none⟩) 2 2, .slice (some ⟨w3.heap.size + 1 + 1 + 1 + 1 + 1, 0, none⟩) 1 1, .slice none 0 0], rfl, fun _ => ⟨_, 0, rfl, by omega, fun j u hu => ?_⟩, by simp [Value.oneCell'], fun i hi => ?_⟩
     · rw [Nat.zero_add]
       exact za N6 j (by simpa using hu)
     · have h2 : i = 0 ∨ i = 1 := by have : i < 2 := hi; omega
       rcases h2 with rfl | rfl
       · refine ⟨[.slice (some ⟨w3.heap.size, 0, none⟩) 2 2, .slice (some ⟨w3.heap.size + 1 + 1, 0, none⟩) 1 1, .slice none 0 0], ⟨_, 2, _, 1, none, 0, rfl, i0, l2, LAtS.nil _ _ _⟩, fun j u hu => ?_⟩
         have hj : j < 3 := (List.getElem?_eq_some_iff.1 hu).1
         rw [← hu]
         rcases (by omega : j = 0 ∨ j = 1 ∨ j = 2) with rfl | rfl | rfl <;> rfl
       · refine ⟨[.slice (some ⟨w3.heap.size + 1 + 1 + 1, 0, none⟩) 2 2, .slice (some ⟨w3.heap.size + 1 + 1 + 1 + 1 + 1, 0, none⟩) 1 1, .slice none 0 0], ⟨_, 2, _, 1, none, 0, rfl, i3, l5, LAtS.nil _ _ _⟩, fun j u hu => ?_⟩
         have hj : j < 3 := (List.getElem?_eq_some_iff.1 hu).1
         rw [← hu]
         rcases (by omega : j = 0 ∨ j = 1 ∨ j = 2) with rfl | rfl | rfl <;> rfl
    have hSL : SAtL w1.heap.size a8.heap.size a8 (some ⟨a7.heap.size, 0, none⟩) Zr.a.sts := by
     refine ⟨[.slice Ao 2 co], rfl, fun _ => ⟨_, 0, rfl, by omega, fun j u hu => ?_⟩, by simp [Value.oneCell'], fun i hi => ?_⟩
     · rw [Nat.zero_add]
       exact za e8 j (by simpa using hu)
     · obtain rfl : i = 0 := by have : i < 1 := hi; omega
       exact ⟨[.slice Ao 2 co], ⟨Ao, co, rfl, m8⟩, fun j u hu => by rw [← hu]; congr 1; omega⟩
    have hCA : CAt a8 a8.heap.size (some ⟨w3.heap.size + 1 + 1 + 1 + 1 + 1 + 1, 0, none⟩) Zr.t.cases := fun _ => ⟨_, 0, rfl, zd N6, fun i hi => by
     have h2 : i = 0 ∨ i = 1 := by have : i < 2 := hi; omega
     rcases h2 with rfl | rfl
     · exact ⟨_, _, _, za N6 0 rfl, za N6 1 rfl, za N6 2 rfl, ⟨_, 2, rfl, i0.iat⟩, ⟨_, 1, rfl, l2.lat⟩, ⟨none, 0, rfl, LAt.nil _ _ _⟩⟩
     · exact ⟨_, _, _, za N6 3 rfl, za N6 4 rfl, za N6 5 rfl, ⟨_, 2, rfl, i3.iat⟩, ⟨_, 1, rfl, l5.lat⟩, ⟨none, 0, rfl, LAt.nil _ _ _⟩⟩⟩
    have hSA : SAt a8 a8.heap.size (some ⟨a7.heap.size, 0, none⟩) Zr.a.sts := fun _ => ⟨_, 0, rfl, zd e8, fun i hi => by
     obtain rfl : i = 0 := by have : i < 1 := hi; omega
     refine ⟨Ao, co, za e8 0 rfl, fun _ => ?_⟩
     obtain ⟨b, off, e, _, hb', hc⟩ := m8 (by decide)
     exact ⟨b, off, e, hb', hc⟩⟩
    have hbd := Zf Zr Yy _ 2 _ 1 a8 w1.heap.size a8.heap.size (Nat.le_refl _) hCA hSA hCL hSL
    have HR : Hid (zQ Zr = (zX, 0)) := Prod.ext rfl ex_ok
    rw [HR.out] at hbd
    have hargs : Zr.vs (some ⟨w3.heap.size + 1 + 1 + 1 + 1 + 1 + 1, 0, none⟩) 2 (some ⟨a7.heap.size, 0, none⟩) 1 = #[.int .i64 2, .int .i64 2, .int .i64 1, .slice (some ⟨w3.heap.size + 1 + 1 + 1 + 1 + 1 + 1, 0, none⟩) 2 2, .int .i64 2, .slice (some ⟨a7.heap.size, 0, none⟩) 1 1, .int .i64 1] := rfl
    rw [hargs, hs9] at hbd
    have HBD := zH hbd
    have hBB := zH (HB7.out.trans (hb8.mono HB7.out.size))
    have HD08 : Hid (a8.heap[w.heap.size]? = some (.cells #[.int .i64 0, .int .i64 0, .int .i64 0, .slice none 0 0, .int .i64 0, .slice none 0 0, .int .i64 0, .int .i64 0, .slice none 0 0, .slice none 0 0] 35 (0, 0))) := (hBB.out.block _ (by omega)).trans HD0.out
    clear ha8 e8 hb8 S N0 N1 N2 N3 N4 N5 N6 i0 i1 i3 i4 l2 l5 hO8 m8 hCL hSL hCA hSA HR hargs hbd x0 x1 x2 x3 HO7 D0 D1 D2 D3 D4 D5 D6 D7
    refine HBD.out.mono ?_
    rintro e w9 ⟨A2, kc2, SV2, ks2, AV, kv, AX, kx, rfl, hSY, hv1, hv2, hb9⟩
    have h4 : ((zX.xs.length : Int) == 4) = true := by rw [JB.1]; decide
    have h44 : (zX.xs.length : Int) = 4 := by rw [JB.1]; rfl
    obtain ⟨T, hT⟩ : ∃ T, zX = T := ⟨_, rfl⟩
    rw [hT] at hSY h4 h44
    have HT := zH hT
    have HSY := zH hSY
    have HB9 := zH (hBB.out.trans (hb9.mono hBB.out.size))
    have HB89 := zH hb9
    rw [hT]
    have hs89 := hb9.size
    unfold Sy.vs_
    clear hb9 hSY hv1 hv2 HBD hT
    go_upto_region 9 with fail
    obtain ⟨W10, hW10, d10, hs10, hb10⟩ := zi w9 #[.int .i64 T.p.t.n, .int .i64 T.p.t.ins, .int .i64 T.p.t.outs, .slice A2 T.p.t.cases.length kc2, .int .i64 T.p.a.n, .slice SV2 T.p.a.sts.length ks2, .int .i64 T.p.k, .int .i64 T.n, .slice AV T.vs.length kv, .slice AX T.xs.length kx] 35
    rw [hW10]
    have HD10 := zH d10
    have HB10 := zH (HB9.out.trans (hb10.mono HB9.out.size))
    have HD0T : Hid (W10.heap[w.heap.size]? = some (.cells #[.int .i64 0, .int .i64 0, .int .i64 0, .slice none 0 0, .int .i64 0, .slice none 0 0, .int .i64 0, .int .i64 0, .slice none 0 0, .slice none 0 0] 35 (0, 0))) := (hb10.block _ (by omega)).trans ((HB89.out.block _ (zd HD08.out)).trans HD08.out)
    have HSM : Hid (∀ k, k < w9.heap.size → W10.heap[k]? = w9.heap[k]?) := fun k hk => hb10.block k hk
    have hz10 : w.heap.size < w9.heap.size := by omega
    clear hW10 d10 hb10
    refine zr [(0, true), (1, true), (2, true), (3, true), (4, true), (5, true), (6, true), (7, true), (8, true), (9, false), (10, false)] (fun X => X.heap[w9.heap.size]? = some (.cells #[.int .i64 T.p.t.n, .int .i64 T.p.t.ins, .int .i64 T.p.t.outs, .slice A2 T.p.t.cases.length kc2, .int .i64 T.p.a.n, .slice SV2 T.p.a.sts.length ks2, .int .i64 T.p.k, .int .i64 T.n, .slice AV T.vs.length kv, .slice AX T.xs.length kx] 35 (0, 0))) (by kernel_rfl) (by kernel_rfl) HD10.out ?_
    repeat
     apply zA rfl
     · rintro K' hK' X u
       obtain ⟨q0, q1, q2, q3, q4, q5, q6, q7, q8, q9⟩ := zx u
       clear u
       go_simp
       exact hK'
    have HB11 : Hid (Below w1.heap.size w1 W10.drew) := HB10.out.drew
    have HD11 : Hid (W10.drew.heap[w.heap.size]? = some (.cells #[.int .i64 0, .int .i64 0, .int .i64 0, .slice none 0 0, .int .i64 0, .slice none 0 0, .int .i64 0, .int .i64 0, .slice none 0 0, .slice none 0 0] 35 (0, 0))) := HD0T.out
    have HX11 : Hid (W10.drew.heap[w9.heap.size]? = some (.cells #[.int .i64 T.p.t.n, .int .i64 T.p.t.ins, .int .i64 T.p.t.outs, .slice A2 T.p.t.cases.length kc2, .int .i64 T.p.a.n, .slice SV2 T.p.a.sts.length ks2, .int .i64 T.p.k, .int .i64 T.n, .slice AV T.vs.length kv, .slice AX T.xs.length kx] 35 (0, 0))) := HD10.out
    have HSM11 : Hid (∀ k, k < w9.heap.size → W10.drew.heap[k]? = w9.heap[k]?) := HSM.out
    have hz11 : Hid (W10.drew.heap.size = w9.heap.size + 1) := hs10
    obtain ⟨W11, hW11⟩ : ∃ W11, W10.drew = W11 := ⟨_, rfl⟩
    rw [hW11] at HB11 HD11 HX11 HSM11 hz11 ⊢
    clear hW11 HB10 HD0T HD10 HSM
    obtain ⟨r0, r1, r2, r3, r4, r5, r6, r7, r8, r9⟩ := zx HD11.out
    have g0 := zb HD11.out 0
    have g1 := zb HD11.out 1
    have g2 := zb HD11.out 2
    have g3 := zb HD11.out 3
    have g4 := zb HD11.out 4
    have g5 := zb HD11.out 5
    have g6 := zb HD11.out 6
    have g7 := zb HD11.out 7
    have g8 := zb HD11.out 8
    have g9 := zb HD11.out 9
    have l1 := zd HD11.out
    refine zC rfl ?_
    intro K' hK'
    go_simp
    obtain ⟨WF, hWF, f1, f2, f3, f4⟩ := YU HD11.out (.int .i64 T.p.t.n) (.int .i64 T.p.t.ins) (.int .i64 T.p.t.outs) (.slice A2 T.p.t.cases.length kc2) (.int .i64 T.p.a.n) (.slice SV2 T.p.a.sts.length ks2) (.int .i64 T.p.k) (.int .i64 T.n) (.slice AV T.vs.length kv) (.slice AX T.xs.length kx)
    rw [hWF]
    have hkp := (f2 w9.heap.size (by omega)).trans HX11.out
    refine hK' _ _ hkp ?_
    clear hK' K' r0 r1 r2 r3 r4 r5 r6 r7 r8 r9 g0 g1 g2 g3 g4 g5 g6 g7 g8 g9 l1 hWF
    refine zC rfl ?_
    intro K' hK'
    go_simp
    refine hK' _ _ hkp ?_
    refine zG ?_
    clear hK' K'
    obtain ⟨c0, c1, c2, c3, c4, c5, c6, c7, c8, c9⟩ := zx f1
    go_wp2_with fail
    refine bodyPost_ret (v := .tuple #[.agg #[.int .i64 T.p.t.n, .int .i64 T.p.t.ins, .int .i64 T.p.t.outs, .slice A2 T.p.t.cases.length kc2, .int .i64 T.p.a.n, .slice SV2 T.p.a.sts.length ks2, .int .i64 T.p.k, .int .i64 T.n, .slice AV T.vs.length kv, .slice AX T.xs.length kx], .bool true]) (by simp [results, Tryz.results62, go_sem, c0, c1, c2, c3, c4, c5, c6, c7, c8, c9]) rfl ?_
    have hbw := HB1.out
    refine ⟨A2, kc2, SV2, ks2, AV, kv, AX, kx, by rw [HT.out]; rfl, ?_, ?_⟩
    · rw [HT.out]
      refine HSY.out WF (by have := hz11.out; omega) fun k hk hl => ?_
      exact (f2 k (by omega)).trans (HSM11.out k hl)
    · exact (HB1.out.trans (HB11.out.mono (by omega))).trans (f3 _ (Nat.le_refl _))
end
section
open Go.RowKit Go.Shelf
attribute [local go_sem] Oper.semAt_some
def yU : Value := .agg #[.int .i64 0, .slice none 0 0, .map none, .map none]
def JO (s : Sy) (g : Int) (w : World) (e : Ending) (w' : World) : Prop := Below w.heap.size w w' ∧ ((zK s g ≠ 0 ∧ e = .returned (.tuple #[yU, .int .i64 (zK s g)])) ∨
 (zK s g = 0 ∧ ∃ Ap kp bC bM, e = .returned (.tuple #[.agg (stC (ptn s) Ap (psG s g).length kp bC bM), .int .i64 0]) ∧ ∀ W, (∀ k, w.heap.size ≤ k → k < w'.heap.size → W.heap[k]? = w'.heap[k]?) → StAt W w'.heap.size Ap bC bM (ptn s) (psG s g) (zY s)))
theorem Qg {w : World} {g : Nat} {x0 x1 x2 x3 : Value} {t : TypeId} (h : w.heap[g]? = some (.cells #[x0, x1, x2, x3] t (0, 0))) (y0 y1 y2 y3 : Value) :
  ∃ W, ((((w.setCell ⟨g, 0, none⟩ y0).setCell ⟨g, 1, none⟩ y1).setCell ⟨g, 2, none⟩ y2).setCell ⟨g, 3, none⟩ y3) = W ∧ W.heap[g]? = some (.cells #[y0, y1, y2, y3] t (0, 0)) ∧ (∀ k, k ≠ g → W.heap[k]? = w.heap[k]?) ∧ ∀ B, B ≤ g → Below B w W := by
 refine ⟨_, rfl, ?_, fun k hk => ?_, fun B hB => ?_⟩
 · have a1 := heap_setCell_same w g 0 _ _ y0 h
   have a2 := heap_setCell_same _ g 1 _ _ y1 a1
   have a3 := heap_setCell_same _ g 2 _ _ y2 a2
   have a4 := heap_setCell_same _ g 3 _ _ y3 a3
   exact a4
 · exact (Below.heap_setCell _ ⟨g, 3, none⟩ y3 k hk).trans ((Below.heap_setCell _ ⟨g, 2, none⟩ y2 k hk).trans ((Below.heap_setCell _ ⟨g, 1, none⟩ y1 k hk).trans (Below.heap_setCell _ ⟨g, 0, none⟩ y0 k hk)))
 · exact ((((Below.refl B w).setCell (by show B ≤ g; omega) y0).setCell (by show B ≤ g; omega) y1).setCell (by show B ≤ g; omega) y2).setCell (by show B ≤ g; omega) y3
theorem gq {W W9 : World} {base : Nat} {A : Option Addr} {n c : Nat} {xs : List Int} (ho : Own W base (.slice A n c) xs) (h : ∀ k, base ≤ k → k < W.heap.size → W9.heap[k]? = W.heap[k]?) : IAt W9 W.heap.size A xs := fun h0 => by
 obtain ⟨A', c', e', _, _, hI⟩ := ho.form
 simp only [Value.slice.injEq] at e'
 obtain ⟨e1', -, -⟩ := e'
 subst e1'
 obtain ⟨b, off, e, hlt, hc⟩ := hI h0
 subst e
 have hb := (ho.lt b rfl).1
 exact ⟨b, off, rfl, hlt, fun i hi => (World.cell?_of_block (h b hb hlt)).trans (hc i hi)⟩
theorem Jr (w : World) (c1 : Array Value) (t1 : TypeId) : ∃ W0, (w.alloc (.cells c1 t1)).drew = W0 ∧ W0.heap[w.heap.size]? = some (.cells c1 t1 (0, 0)) ∧ W0.heap.size = w.heap.size + 1 ∧ Below w.heap.size w W0 :=
 ⟨_, rfl, zh w _, by show (w.alloc _).heap.size = _; simp, (zI w _).drew⟩
set_option maxRecDepth 100000 in
theorem Y8 (s : Sy) (hs : LowS s) (hf : xb s.p) (g : Int) (A SV AV AX : Option Addr) (kc ks kv kx : Nat) (w : World) (hS : SyAt w w.heap.size A SV AV AX s) :
  Calls Tryz.prog 65 #[.agg (s.vs_ A kc SV ks AV kv AX kx), .int .i64 g] w (JO s g w) := by
 obtain ⟨w1, hw1, d0, d1, hs1, hB⟩ := yj w (s.vs_ A kc SV ks AV kv AX kx) #[.int .i64 0, .slice none 0 0, .map none, .map none] 35 126
 have HV := zH (Z7 s hs hf A SV AV AX kc ks kv kx w1 (hS.up hB))
 have HS1 := zH (hS.up hB)
 have HVF := zH (fun h => qd hf h)
 have HXP := zH (fun h => Z4 (s := s) hf h)
 have HCL := zH (fun (p : Nat) (X : World) (hX : Below w.heap.size w X) => uU s hs hf (p : Int) A SV AV AX kc ks kv kx X ((hS.keep hX).more hX.size))
 have HRE : Hid (zK s g = if yE s ≠ 0 then yE s else if g < 0 ∨ 2 ^ s.n.toNat ≤ g then 2 else 0) := rfl
 have HPN : Hid (ptn s = s.xs.length * (s.p.k.toNat + 1)) := rfl
 have HKL := zH (fun q => (by unfold zY; rw [jj, Jm]; rfl : (zY s q).length = ptn s))
 have HCE : Hid (∀ p : Int, XU s p = if yE s ≠ 0 then ([], yE s) else if p < 0 ∨ s.n ≤ p then ([], 2) else (zY s p.toNat, 0)) := fun _ => rfl
 obtain ⟨CLS, hCLS⟩ : ∃ CLS, zY s = CLS := ⟨_, rfl⟩
 unfold JO
 rw [hCLS] at HKL HCE ⊢
 obtain ⟨r, hr⟩ : ∃ r, yE s = r := ⟨_, rfl⟩
 rw [hr] at HV HVF HXP HRE HCE
 obtain ⟨re, hre⟩ : ∃ re, zK s g = re := ⟨_, rfl⟩
 rw [hre] at HRE ⊢
 have HPS : Hid (psG s g = zk g.toNat s.n.toNat) := rfl
 obtain ⟨PS, hPS⟩ : ∃ PS, psG s g = PS := ⟨_, rfl⟩
 rw [hPS] at HPS ⊢
 obtain ⟨PN, hPN⟩ : ∃ PN, ptn s = PN := ⟨_, rfl⟩
 rw [hPN] at HPN HKL ⊢
 unfold Sy.vs_ at hw1 d0 HV HCL ⊢
 have HW1 := zH hw1
 have HB := zH hB
 have HD := zH d0
 have HD1 := zH d1
 obtain ⟨p0, p1, p2, p3, p4, p5, p6, p7, p8, p9⟩ := zx d0
 clear hw1 d0 d1 hB hS hr hre hCLS hPN hPS hs hf
 go_enter Tryz.func65, Tryz.ntmps65
 go_wp2_with fail
 rw [HW1.out]
 go_wp2_with fail
 refine HV.out.mono ?_
 rintro e w2 ⟨rfl, hb2⟩
 have HB2 := zH (HB.out.trans (hb2.mono (by omega)))
 have HG2 := zH hb2
 have d0 := (hb2.block _ (by omega : w.heap.size < w1.heap.size)).trans HD.out
 have d1 := (hb2.block _ (by omega : w.heap.size + 1 < w1.heap.size)).trans HD1.out
 clear p0 p1 p2 p3 p4 p5 p6 p7 p8 p9 hb2 HV HW1 HD HD1
 have c0 := za d1 0 rfl
 have c1 := za d1 1 rfl
 have c2 := za d1 2 rfl
 have c3 := za d1 3 rfl
 have f0 := zb d1 0
 have f1 := zb d1 1
 have f2 := zb d1 2
 have f3 := zb d1 3
 have l1 := zd d1
 by_cases h0 : r = 0
 case neg =>
  have hR : Hid (re = r) := HRE.out.trans (if_pos h0)
  have e0 : (r != 0) = true := by simpa using h0
  have HD1 := zH d1
  clear HRE HVF d0 d1 HCL HCE HKL HXP HPN
  go_wp2_with fail
  obtain ⟨W, hW, e1, _, e3⟩ := Qg HD1.out (.int .i64 0) (.slice none 0 0) (.map none) (.map none)
  rw [hW]
  have q0 := za e1 0 rfl
  have q1 := za e1 1 rfl
  have q2 := za e1 2 rfl
  have q3 := za e1 3 rfl
  refine bodyPost_ret (v := .tuple #[yU, .int .i64 r]) (by simp [results, Tryz.results65, go_sem, q0, q1, q2, q3, yU]) rfl ?_
  rw [hR.out]
  exact ⟨HB2.out.trans (e3 _ (by omega)), .inl ⟨h0, rfl⟩⟩
 case pos =>
 subst h0
 obtain ⟨hsb, K, N, hF⟩ := HVF.out rfl
 clear hsb
 have hRE : re = if g < 0 ∨ 2 ^ s.n.toNat ≤ g then 2 else 0 := HRE.out.trans (if_neg (by simp))
 have hn := hF.n
 have hn1 := hF.n1
 have hn5 := hF.n5
 have hk := hF.k
 have hk6 := hF.k6
 have hlx := hF.lx
 have hpos := HXP.out rfl
 rw [hn, Int.toNat_natCast] at hRE
 have hPS := HPS.out
 rw [hn, Int.toNat_natCast] at hPS
 have HPS2 := zH hPS
 have HRE2 := zH hRE
 have HN := zH hn
 have HK := zH hk
 have hPN := HPN.out
 rw [hk, Int.toNat_natCast] at hPN
 have HPN2 := zH hPN
 have hPNl : 1 ≤ PN ∧ PN ≤ 600 := by
  have h1 := Nat.mul_le_mul hlx (show K + 1 ≤ 7 by omega)
  have h2 := Nat.mul_le_mul hpos (show 1 ≤ K + 1 by omega)
  omega
 have HCE2 : Hid (∀ p : Nat, p < N → XU s (p : Int) = (CLS p, 0)) := fun p hp => by
  rw [HCE.out, if_neg (by simp), if_neg (by rw [hn]; omega), Int.toNat_natCast]
 have HDD := zH d0
 have HD1 := zH d1
 have q7 : w2.cell? ⟨w.heap.size, 7, none⟩ = some (.int .i64 (N : Int)) := by rw [← hn]; exact za d0 7 rfl
 clear HRE HVF hRE hF hn HPN hPN HCE hk d0 d1 HPS hPS
 by_cases h1 : g < 0
 case pos =>
  have hR : Hid (re = 2) := HRE2.out.trans (if_pos (.inl h1))
  clear HRE2 HCL HCE2 HKL HXP HPN2 HN HK
  go_wp2_with fail
  obtain ⟨W, hW, e1, _, e3⟩ := Qg HD1.out (.int .i64 0) (.slice none 0 0) (.map none) (.map none)
  rw [hW]
  have q0 := za e1 0 rfl
  have q1 := za e1 1 rfl
  have q2 := za e1 2 rfl
  have q3 := za e1 3 rfl
  refine bodyPost_ret (v := .tuple #[yU, .int .i64 2]) (by simp [results, Tryz.results65, go_sem, q0, q1, q2, q3, yU]) rfl ?_
  rw [hR.out]
  exact ⟨HB2.out.trans (e3 _ (by omega)), .inl ⟨by decide, rfl⟩⟩
 case neg =>
 obtain ⟨G, rfl⟩ := Int.eq_ofNat_of_zero_le (show 0 ≤ g by omega)
 rw [Int.toNat_natCast] at HPS2
 have hwT : wrap64 ((2 : Int) ^ N) = ((2 ^ N : Nat) : Int) := by
  obtain e | e | e | e | e : N = 1 ∨ N = 2 ∨ N = 3 ∨ N = 4 ∨ N = 5 := by omega
  all_goals (rw [e]; decide +kernel)
 have hT32 : 2 ^ N ≤ 32 := by
  obtain e | e | e | e | e : N = 1 ∨ N = 2 ∨ N = 3 ∨ N = 4 ∨ N = 5 := by omega
  all_goals (rw [e]; decide)
 have hG0 : ¬ ((G : Int) < 0) := by omega
 by_cases h2 : G < 2 ^ N
 case neg =>
  have hR : Hid (re = 2) := HRE2.out.trans (if_pos (.inr (by exact_mod_cast Nat.le_of_not_lt h2)))
  have hTG : wrap64 ((2 : Int) ^ N) ≤ (G : Int) := by rw [hwT]; omega
  clear HRE2 HCL HCE2 HKL HXP HPN2 HN HK hwT h2
  go_wp2_with fail
  obtain ⟨W, hW, e1, _, e3⟩ := Qg HD1.out (.int .i64 0) (.slice none 0 0) (.map none) (.map none)
  rw [hW]
  have q0 := za e1 0 rfl
  have q1 := za e1 1 rfl
  have q2 := za e1 2 rfl
  have q3 := za e1 3 rfl
  refine bodyPost_ret (v := .tuple #[yU, .int .i64 2]) (by simp [results, Tryz.results65, go_sem, q0, q1, q2, q3, yU]) rfl ?_
  rw [hR.out]
  exact ⟨HB2.out.trans (e3 _ (by omega)), .inl ⟨by decide, rfl⟩⟩
 case pos =>
  have hR : Hid (re = 0) := HRE2.out.trans (if_neg (by
   rintro (h | h)
   · omega
   · have : (2 ^ N : Nat) ≤ G := by exact_mod_cast h
     omega))
  have hTG : ¬ (wrap64 ((2 : Int) ^ N) ≤ (G : Int)) := by rw [hwT]; omega
  have q6 : w2.cell? ⟨w.heap.size, 6, none⟩ = some (.int .i64 (K : Int)) := by rw [← HK.out]; exact za HDD.out 6 rfl
  have q9 := za HDD.out 9 rfl
  have hPNI : (s.xs.length : Int) * ((K : Int) + 1) = (PN : Int) := by rw [HPN2.out]; push_cast; rfl
  have HWM : Hid (wrap64 ((s.xs.length : Int) * ((K : Int) + 1)) = (PN : Int)) := by
   show wrap64 _ = _
   rw [hPNI]
   exact IntWalk.wrap64_in _ (by omega)
  clear hPNI
  have hmm := @run_makeMap Tryz.prog
  have hG32 : G < 32 := by omega
  clear HRE2 hwT hT32
  go_upto_region 7 with fail
  rw [HWM.out]
  obtain ⟨a3, h3⟩ : ∃ a3, w2.alloc (.map #[] 0) = a3 := ⟨_, rfl⟩
  have m3 : MapOf (Value.int .i64) a3 w2.heap.size 0 (fun _ => none) := by rw [← h3]; exact MapOf.made w2
  have y3 : a3.heap.size = w2.heap.size + 1 := by rw [← h3]; simp
  have z3 : Below w2.heap.size w2 a3 := by rw [← h3]; exact zI _ _
  rw [h3]
  obtain ⟨a4, h4⟩ : ∃ a4, a3.alloc (.map #[] 0) = a4 := ⟨_, rfl⟩
  have m4 : MapOf qY a4 a3.heap.size 0 (fun _ => none) := by rw [← h4]; exact MapOf.made a3
  have y4 : a4.heap.size = a3.heap.size + 1 := by rw [← h4]; simp
  have z4 : Below a3.heap.size a3 a4 := by rw [← h4]; exact zI _ _
  rw [h4]
  obtain ⟨a5, h5, x5, y5, z5⟩ := zi a4 #[.int .i64 (PN : Int), .slice none 0 0, .map (some w2.heap.size), .map (some (w2.heap.size + 1))] 126
  rw [h5]
  have hb25 : Below w2.heap.size w2 a5 := (z3.trans (z4.mono (by omega))).trans (z5.mono (by omega))
  have hRS : RdS w.heap.size (w2.heap.size + 1 + 1) w2.heap.size (w2.heap.size + 1) PN #[.int .i64 s.p.t.n, .int .i64 s.p.t.ins, .int .i64 s.p.t.outs, .slice A s.p.t.cases.length kc, .int .i64 s.p.a.n, .slice SV s.p.a.sts.length ks, .int .i64 s.p.k, .int .i64 s.n, .slice AV s.vs.length kv, .slice AX s.xs.length kx] (.slice none 0 0) (fun _ => none) (fun _ => none) (zk G 0) (zk G 0) CLS (vE CLS (zk G 0)) w a5 := by
   refine ⟨HB2.out.trans (hb25.mono (by omega)), (hb25.block _ (by omega)).trans HDD.out, (hb25.block _ (by omega)).trans HD1.out, ?_, Own.nil _ _, ⟨0, m3.same ((z5.block _ (by omega)).trans (z4.block _ (by omega)))⟩, ⟨0, ?_⟩, fun p hp => ?_, fun x => ⟨?_, fun v z e => (by cases e)⟩, fun x y v u z e => (by cases e), by omega, by omega, by omega, by omega⟩
   · rw [show w2.heap.size + 1 + 1 = a4.heap.size by omega]; exact x5
   · rw [← y3]; exact m4.same (z5.block _ (by omega))
   · simp [zk] at hp
   · have : vE CLS (zk G 0) x = [] := by unfold vE; rw [if_neg (by simp [zk])]
     rw [this]
     exact Own.nil _ _
  obtain ⟨bX, hbX⟩ : ∃ bX, w2.heap.size + 1 + 1 = bX := ⟨_, rfl⟩
  obtain ⟨bC, hbC⟩ : ∃ bC, w2.heap.size = bC := ⟨_, rfl⟩
  obtain ⟨bM, hbM⟩ : ∃ bM, bC + 1 = bM := ⟨_, rfl⟩
  rw [hbX] at hRS ⊢
  rw [hbC] at hRS ⊢
  rw [hbM] at hRS ⊢
  have q7 : a5.cell? ⟨w.heap.size, 7, none⟩ = some (.int .i64 (N : Int)) := by rw [← HN.out]; exact za hRS.b0 7 rfl
  have HRS := zH hRS
  clear h3 m3 y3 z3 h4 m4 y4 z4 h5 x5 y5 z5 hb25 hRS hbX hbC hbM c0 c1 c2 c3 f0 f1 f2 f3 q6 q9 HDD HD1 hmm hTG hG0 h1 l1 HG2 HB2 HWM
  go_wp2_with fail
  go_loopw [44] (fun i wr => ∃ k : Nat, k ≤ N ∧ i = .int .i64 (k : Int) ∧ ∃ V f fM, Hid (RdS w.heap.size bX bC bM PN #[.int .i64 s.p.t.n, .int .i64 s.p.t.ins, .int .i64 s.p.t.outs, .slice A s.p.t.cases.length kc, .int .i64 s.p.a.n, .slice SV s.p.a.sts.length ks, .int .i64 s.p.k, .int .i64 s.n, .slice AV s.vs.length kv, .slice AX s.xs.length kx] V f fM (zk G k) (zk G k) CLS (vE CLS (zk G k)) w wr)) (fun i _ => N - (intOf i).toNat)
  case atStart => exact ⟨0, by omega, rfl, _, _, _, HRS.out⟩
  case round =>
   obtain ⟨k, hk, rfl, V, f, fM, hRS⟩ := hrel
   clear HRS q7
   by_cases hlt : k < N
   · have hb0 := bit_test0 hG32 (show k < 5 by omega)
     have hk0 : (0 : Int) ≤ (k : Int) := by omega
     have hk1 : (k : Int) < (N : Int) := by omega
     have hG00 : (0 : Int) ≤ (G : Int) := by omega
     by_cases hbit : G.testBit k = true
     case neg =>
      have hbf : G.testBit k = false := by simpa using hbit
      rw [hbf] at hb0
      have hE : zk G (k + 1) = zk G k := by rw [qN, if_neg hbit]
      have hRS2 : Hid (RdS w.heap.size bX bC bM PN #[.int .i64 s.p.t.n, .int .i64 s.p.t.ins, .int .i64 s.p.t.outs, .slice A s.p.t.cases.length kc, .int .i64 s.p.a.n, .slice SV s.p.a.sts.length ks, .int .i64 s.p.k, .int .i64 s.n, .slice AV s.vs.length kv, .slice AX s.xs.length kx] V f fM (zk G (k + 1)) (zk G (k + 1)) CLS (vE CLS (zk G (k + 1))) w wr) := by rw [hE]; exact hRS
      clear hRS hE hbit hbf
      go_wp2_with fail
      go_roundw
      case rel => exact ⟨k + 1, by omega, by go_num, V, f, fM, hRS2.out⟩
      case measure => simp [intOf]; omega
     case pos =>
      rw [hbit] at hb0
      have hE : zk G (k + 1) = zk G k ++ [k] := by rw [qN, if_pos hbit]
      have HE := zH hE
      have hnk : k ∉ zk G k := by simp [zk]
      have HNK := zH hnk
      have hbl : (zk G k).length ≤ 5 := by
       have := List.length_filter_le (fun p => G.testBit p) (List.range k)
       unfold zk; simp at this; omega
      obtain ⟨AV0, cV0, rfl, _, _, _⟩ := hRS.out.own.form
      rw [zw] at hRS
      have hc := HCL.out k wr hRS.out.below
      rw [HCE2.out k hlt] at hc
      have HC := zH hc
      obtain ⟨p0, p1, p2, p3, p4, p5, p6, p7, p8, p9⟩ := zx hRS.out.b0
      clear hE hnk hbit hc HCL
      go_wp2_with fail
      refine HC.out.mono ?_
      rintro e w3 ⟨A3, c3, rfl, ho3, hb3⟩
      have hRS3 := hRS.out.on hb3
      have hcl := HKL.out k
      have ho3' : Own w3 w.heap.size (.slice A3 PN c3) (CLS k) := by rw [← hcl]; exact ho3.low hRS.out.below.size
      have hbs3 := hb3.size
      have hnew3 : ∀ z, (Value.slice A3 PN c3).ownBlock = some z → wr.heap.size ≤ z := fun z e => (ho3.lt z (by rw [hcl]; exact e)).1
      have HO3 := zH ho3'
      have HNW3 := zH hnew3
      have HVl := zH (hRS.out.own.lt)
      have HRl := zH (fun (x : Int × Int) (v : Value) (hx : fM x = some v) (z : Nat) (hz : v.ownBlock = some z) => (by have := (hRS.out.rowM x).1; rw [hx] at this; exact (this.lt z hz).2 : z < wr.heap.size))
      have HRS3 := zH hRS3
      have HBXl := zH (zd hRS.out.bx)
      rw [hcl]
      have x1 := za hRS3.bx 1 rfl
      clear p0 p1 p2 p3 p4 p5 p6 p7 p8 p9 HC hRS3 hRS hcl ho3 ho3' hnew3 hb3
      go_upto_region 15 with (at_builtin; go_must (refine yx gH rfl _ _ (by rfl) w.heap.size (.slice AV0 (zk G k).length cV0) (zk G k).length ((zM (zk G k)).map (Value.int .i64)) (by rfl) (by have := HRS3.out.own; unfold Own at this; rw [zw] at this; exact World.ownsRow.alloc this _) w3.heap.size #[.int .i64 (k : Int)] (by rfl) (zh w3 _) rfl (by simp [Value.oneCell']) (by omega) (by have := HRS3.out.below.size; simp; omega) _ rfl ?_); intro g' cap' w4 hr4 hg4 hat4 hlt4
                              have hg34 := yH hg4
                              have hx4 := (hg34.block bX (zd HRS3.out.bx) (fun e => (HRS3.out.clear HRS3.out.kinds.2.2.1).1 e.symm)).trans HRS3.out.bx
                              have y1 := za hx4 1 rfl
                              have f1 := zb hx4 1
                              have l1 := zd hx4
                              have HR4 := zH hr4
                              have HG34 := zH hg34
                              have HAT4 := zH hat4
                              clear hr4 hg4 hat4 hg34 hx4)
      have hown4 : Own w4 w.heap.size (.slice (some ⟨g', 0, none⟩) ((zk G k).length + 1) cap') (zM (zk G k ++ [k])) := by
       have h4 := HR4.out
       unfold OwnR at h4
       unfold Own
       rw [zw, List.length_append, List.length_singleton, show (zM (zk G k ++ [k])).map (Value.int .i64) = (zM (zk G k)).map (Value.int .i64) ++ (#[Value.int .i64 (k : Int)]).toList by simp [zM]]
       exact h4
      have hat5 : (Value.slice (some ⟨g', 0, none⟩) ((zk G k).length + 1) cap').ownBlock = (Value.slice AV0 (zk G k).length cV0).ownBlock ∨ ∃ z, (Value.slice (some ⟨g', 0, none⟩) ((zk G k).length + 1) cap').ownBlock = some z ∧ w3.heap.size ≤ z := by
       rcases HAT4.out with h | h
       · exact .inl h.symm
       · exact .inr ⟨g', rfl, by rw [h]; simp⟩
      have hRS5 := HRS3.out.proc (p := k) HG34.out hown4 hat5
      obtain ⟨w5, hw5⟩ : ∃ w5, w4.setCell ⟨bX, 1, none⟩ (.slice (some ⟨g', 0, none⟩) ((zk G k).length + 1) cap') = w5 := ⟨_, rfl⟩
      rw [hw5] at hRS5 ⊢
      obtain ⟨g3, hg3⟩ : ∃ g3, A3 = some ⟨g3, 0, none⟩ := by
       rcases HO3.out.2 with ⟨e, h0⟩ | ⟨g, cap, cur, e, _⟩
       · injection e with _ e1 _
         have := hPNl.1
         omega
       · injection e with e1 _ _
         exact ⟨g, e1⟩
      subst hg3
      have hg3w : wr.heap.size ≤ g3 := HNW3.out g3 rfl
      have hg3l : g3 < w3.heap.size := (HO3.out.lt g3 rfl).2
      have hbXl := HBXl.out
      have h53 : w5.heap[g3]? = w3.heap[g3]? := by
       rw [← hw5]
       exact (Below.heap_setCell w4 ⟨bX, 1, none⟩ _ g3 (by show g3 ≠ bX; omega)).trans (HG34.out.block g3 hg3l (fun e => by have := (HVl.out g3 e.symm).2; omega))
      have HO5 : Hid (Own w5 w.heap.size (.slice (some ⟨g3, 0, none⟩) PN c3) (CLS k)) := xj HO3.out fun z e => by
       have : g3 = z := by simpa [Value.ownBlock] using e
       subst this
       exact h53
      have HV5 : Hid ((Value.slice (some ⟨g', 0, none⟩) ((zk G k).length + 1) cap').ownBlock ≠ some g3) := fun e => by
       have e9 : g' = g3 := by simpa [Value.ownBlock] using e
       rcases HAT4.out with h | h
       · have := (HVl.out g' h).2; omega
       · simp at h; omega
      have HM5 : Hid (∀ x v, fM x = some v → v.ownBlock ≠ some g3) := fun x v hx e => by have := HRl.out x v hx g3 e; omega
      have htC : Tryz.prog.underlying 123 = some (.map 3 38) := Tryz.underlying123
      have HTM : Hid (Tryz.prog.underlying 124 = some (.map 75 38)) := Tryz.underlying124
      obtain ⟨mc, hmc⟩ := hRS5.mC
      obtain ⟨w6, hrun6, hm6, hg6⟩ := hmc.put qo htC (k : Int) (.slice (some ⟨g3, 0, none⟩) PN c3)
      have hRS6 := hRS5.put (p := k) hg6 hm6 HO5.out HV5.out HM5.out
      rw [← memP_zero (cls := CLS) HNK.out] at hRS6
      have hFk : qe f (k : Int) (.slice (some ⟨g3, 0, none⟩) PN c3) (k : Int) = some (.slice (some ⟨g3, 0, none⟩) PN c3) := by simp [qe]
      obtain ⟨F, hF⟩ : ∃ F, qe f (k : Int) (.slice (some ⟨g3, 0, none⟩) PN c3) = F := ⟨_, rfl⟩
      rw [hF] at hRS6 hFk
      have HRS6 := zH hRS6
      have HFK := zH hFk
      have z2 := za hRS5.bx 2 rfl
      clear hRS6 hFk hF hm6 hg6 hmc htC hRS5 hw5 hown4 hat5 h53 HO5 HV5 HM5 HBXl HR4 HG34 HAT4 HRS3 HVl HRl HNW3 HO3 hg3w hg3l hbXl y1 f1 l1 x1 hlt4
      go_wp2_with fail
      go_loopw [74] (fun i wq => ∃ j : Nat, j ≤ PN ∧ i = .int .i64 (j : Int) ∧ ∃ fM, Hid (RdS w.heap.size bX bC bM PN #[.int .i64 s.p.t.n, .int .i64 s.p.t.ins, .int .i64 s.p.t.outs, .slice A s.p.t.cases.length kc, .int .i64 s.p.a.n, .slice SV s.p.a.sts.length ks, .int .i64 s.p.k, .int .i64 s.n, .slice AV s.vs.length kv, .slice AX s.xs.length kx] (.slice (some ⟨g', 0, none⟩) ((zk G k).length + 1) cap') F fM (zk G k ++ [k]) (zk G k ++ [k]) CLS (uf CLS (zk G k) k j) w wq)) (fun i _ => PN - (intOf i).toNat)
      case atStart => exact ⟨0, by omega, rfl, fM, HRS6.out⟩
      case round =>
       obtain ⟨j, hj, rfl, fM, hRj⟩ := hrel
       clear HRS6 hrun6 z2
       by_cases hjl : j < PN
       · obtain ⟨g9, c9, e9, ho9, hv9, hm9⟩ := hRj.out.rowC k (by simp)
         have e99 := HFK.out.symm.trans e9
         simp only [Option.some.injEq, Value.slice.injEq, Addr.mk.injEq, and_true, true_and] at e99
         obtain ⟨e91, e92⟩ := e99
         subst e91
         subst e92
         have hcl := HKL.out k
         have hjc : j < (CLS k).length := by omega
         obtain ⟨A8, c8, e8, _, _, hI8⟩ := ho9.form
         simp only [Value.slice.injEq] at e8
         obtain ⟨e81, -, -⟩ := e8
         subst e81
         obtain ⟨b8, o8, e82, _, z8⟩ := hI8.at_ j hjc
         simp only [Option.some.injEq, Addr.mk.injEq, and_true] at e82
         obtain ⟨rfl, rfl⟩ := e82
         obtain ⟨y, hy⟩ : ∃ y, (CLS k)[j] = y := ⟨_, rfl⟩
         rw [hy, Nat.zero_add] at z8
         have hsuc := memP_succ (dn := zk G k) hjc
         rw [hy] at hsuc
         have HSUC := zH hsuc
         obtain ⟨A4, c4, e4, hle4, hm4, _⟩ := (hRj.out.rowM (y, (k : Int))).1.form
         have hml : (uf CLS (zk G k) k j (y, (k : Int))).length ≤ 700 := by
          have : uf CLS (zk G k) k j (y, (k : Int)) = kU ((CLS k).take j) y := if_pos rfl
          rw [this]
          unfold kU
          refine Nat.le_trans (List.length_filter_le _ _) ?_
          simp; omega
         have hrow := (hRj.out.rowM (y, (k : Int))).1
         rw [e4] at hrow
         rw [zw] at e4 hrow hle4
         obtain ⟨ML, hML⟩ : ∃ ML, uf CLS (zk G k) k j (y, (k : Int)) = ML := ⟨_, rfl⟩
         rw [hML] at e4 hrow hml
         have HML := zH hML
         have HROW := zH hrow
         have HE4 := zH e4
         obtain ⟨mm, hmm⟩ := hRj.out.mM
         have HMM := zH hmm
         have HLK : Hid (∀ X : World, X.heap[bM]? = wr.heap[bM]? → (Instr.lookup 124 (.map (some bM)) (.agg #[.int .i64 y, .int .i64 (k : Int)]) false).run Tryz.prog X = .ok (.slice A4 ML.length c4) X) := fun X hX => by
          have := (HMM.out.same hX).look wM HTM.out (z := .slice none 0 0) (by kernel_rfl) (y, (k : Int))
          rw [HE4.out] at this
          exact this
         have hj0 : (0 : Int) ≤ (j : Int) := by omega
         have hj1 : (j : Int) < (PN : Int) := by omega
         clear e9 ho9 hv9 hm9 hcl hI8 hsuc hML hrow e4 hmm hle4 hm4 hy hjc
         go_wp2_with fail
         refine zr [(0, true), (1, true), (2, true), (3, true), (4, true), (5, true), (6, true), (7, true), (8, true), (9, true), (10, true), (11, true), (12, false), (13, false), (14, false)] (fun X => X.heap[bX]? = some (.cells #[.int .i64 (PN : Int), .slice (some ⟨g', 0, none⟩) ((zk G k).length + 1) cap', .map (some bC), .map (some bM)] 126 (0, 0)) ∧ X.heap[bM]? = wr.heap[bM]?) (by kernel_rfl) (by kernel_rfl) ⟨hRj.out.bx, rfl⟩ ?_
         clear z8
         repeat
          apply zA rfl
          · rintro K' hK' X ⟨u1, u2⟩
            have u3 : X.cell? ⟨bX, 3, none⟩ = some (.map (some bM)) := za u1 3 rfl
            have hlk := HLK.out X u2
            clear u1 u2
            go_simp
            exact hK'
         have hbX2 := zd hRj.out.bx
         have hbM2 := HMM.out.lt
         have hwB := hRj.out.below.size
         refine zC rfl ?_
         intro K' hK'
         go_simp
         obtain ⟨W1, hW1, d1, hs1, hb1⟩ := Jr wr #[.int .i64 (j : Int)] 3
         rw [hW1]
         have m1 := (hb1.block _ hbX2).trans hRj.out.bx
         have m2 := hb1.block _ hbM2
         refine hK' _ _ ⟨m1, m2⟩ ?_
         clear hK' K' hW1
         refine zC rfl ?_
         intro K' hK'
         rw [if_pos (by rfl)]
         have hro1 := HROW.out.below hb1 (Nat.le_refl _)
         have HRO1 : Hid (OwnR kIn W1 w.heap.size (.slice A4 ML.length c4) ML.length ((zM ML).map (Value.int .i64))) := by
          have h9 := hro1
          unfold Own at h9
          rw [zw] at h9
          exact h9
         refine kA gH (.tmp 89) (.tmp 91) (by rfl) w.heap.size (.slice A4 ML.length c4) ML.length ((zM ML).map (Value.int .i64)) (by rfl) HRO1.out wr.heap.size #[.int .i64 (j : Int)] (by rfl) d1 rfl (by simp [Value.oneCell']) (by omega) (by omega) _ rfl ?_
         intro g'' cap'' W2 hr2 hg2 hat2 hlt2
         have hVne : ∀ q, q = bX ∨ q = bM → (Value.slice A4 ML.length c4).ownBlock ≠ some q := fun q hq e => by
          have h7 : ((fM (y, (k : Int))).getD (.slice none 0 0)).ownBlock = some q := by rw [HE4.out]; exact e
          rcases hq with rfl | rfl
          · exact (hRj.out.clear hRj.out.kinds.2.2.1).2.2 _ h7
          · exact (hRj.out.clear hRj.out.kinds.2.2.2.2).2.2 _ h7
         have n1 := (hg2.block bX (by omega) (fun e => hVne bX (.inl rfl) e.symm)).trans m1
         have n2 := (hg2.block bM (by omega) (fun e => hVne bM (.inr rfl) e.symm)).trans m2
         refine hK' _ _ ⟨n1, n2⟩ ?_
         clear hK' K'
         obtain ⟨W3, hrun3, hm3, hg3⟩ := (HMM.out.same n2).put wM HTM.out (y, (k : Int)) (.slice (some ⟨g'', 0, none⟩) (ML.length + 1) cap'')
         refine yW rfl (by kernel_rfl) ?_
         intro K' hK'
         simp only [qY] at hrun3
         go_simp
         refine hK' (fun _ => True) _ _ trivial ?_
         refine zG ?_
         clear hK' K' hrun3
         have hg02 : wr.grownBy W2 ((fM (y, (k : Int))).getD (.slice none 0 0)).ownBlock := by
          rw [HE4.out]
          exact ⟨hg2.os.trans hb1.os, hg2.tape.trans hb1.tape, hg2.output.trans hb1.output, by have := hg2.size; omega, fun q hq hn => (hg2.block q (by omega) hn).trans (hb1.block q hq)⟩
         have ho2 : Own W2 w.heap.size (.slice (some ⟨g'', 0, none⟩) (ML.length + 1) cap'') (zM (uf CLS (zk G k) k j (y, (k : Int)) ++ [j])) := by
          rw [HML.out]
          unfold Own
          rw [zw, List.length_append, List.length_singleton, show (zM (ML ++ [j])).map (Value.int .i64) = (zM ML).map (Value.int .i64) ++ (#[Value.int .i64 (j : Int)]).toList by simp [zM]]
          exact hr2
         have hat9 : (Value.slice (some ⟨g'', 0, none⟩) (ML.length + 1) cap'').ownBlock = ((fM (y, (k : Int))).getD (.slice none 0 0)).ownBlock ∨ ∃ z, (Value.slice (some ⟨g'', 0, none⟩) (ML.length + 1) cap'').ownBlock = some z ∧ wr.heap.size ≤ z := by
          rcases hat2 with h | h
          · rw [HE4.out]; exact .inl h.symm
          · exact .inr ⟨g'', rfl, by omega⟩
         have hRn := hRj.out.member (x0 := (y, (k : Int))) (i := j) hg02 ho2 hat9 hg3 hm3
         rw [HSUC.out] at hRn
         have HRN := zH hRn
         clear hg02 ho2 hat9 hRn hm3 hg3 hr2 hg2 hat2 hlt2 n1 n2 hVne HRO1 hro1 m1 m2 d1 hs1 hb1 HLK HMM HE4 HROW HML hRj hbX2 hbM2 hwB
         go_wp2_with fail
         go_roundw
         case rel => exact ⟨j + 1, by omega, by go_num, _, HRN.out⟩
         case measure => simp [intOf]; omega
       · obtain rfl : j = PN := by omega
         have hRe := hRj.out
         rw [memP_end (HKL.out k), ← HE.out] at hRe
         have hll : (zk G k).length + 1 = (zk G (k + 1)).length := by rw [HE.out]; simp
         rw [hll] at hRe
         have HRe := zH hRe
         clear hRe hRj HFK hll
         go_wp2_with fail
         go_roundw
         case rel => exact ⟨k + 1, by omega, by go_num, _, _, _, HRe.out⟩
         case measure => simp [intOf]; omega
   · obtain rfl : k = N := by omega
     have hRS9 := hRS.out
     rw [HPS2.out.symm] at hRS9
     have hlen9 : ∀ p ∈ PS, (CLS p).length = PN := fun p _ => HKL.out p
     obtain ⟨AV0, cV0, rfl, _, _, hI9⟩ := hRS9.own.form
     rw [zw] at hRS9
     have HRS9 := zH hRS9
     have HI9 := zH hI9
     have c0 := za hRS9.bx 0 rfl
     have c1 := za hRS9.bx 1 rfl
     have c2 := za hRS9.bx 2 rfl
     have c3 := za hRS9.bx 3 rfl
     have f0 := zb hRS9.b1 0
     have f1 := zb hRS9.b1 1
     have f2 := zb hRS9.b1 2
     have f3 := zb hRS9.b1 3
     have l1 := zd hRS9.b1
     have g0 := za hRS9.b1 0 rfl
     have g1 := za hRS9.b1 1 rfl
     have g2 := za hRS9.b1 2 rfl
     have g3 := za hRS9.b1 3 rfl
     have HD9 := zH hRS9.b1
     clear hRS hRS9 hI9 HCL HCE2 HPS2
     go_wp2_with fail
     obtain ⟨W, hW, e1, e2, e3⟩ := Qg HD9.out (.int .i64 (PN : Int)) (.slice AV0 PS.length cV0) (.map (some bC)) (.map (some bM))
     rw [hW]
     have q0 := za e1 0 rfl
     have q1 := za e1 1 rfl
     have q2 := za e1 2 rfl
     have q3 := za e1 3 rfl
     refine bodyPost_ret (v := .tuple #[.agg #[.int .i64 (PN : Int), .slice AV0 PS.length cV0, .map (some bC), .map (some bM)], .int .i64 0]) (by simp [results, Tryz.results65, go_sem, q0, q1, q2, q3]) rfl ?_
     have hsz : W.heap.size = wr.heap.size := by rw [← hW]; simp [World.setCell]
     have hrowk : ∀ {v : Value} {xs : List Int}, Own wr w.heap.size v xs → Own W w.heap.size v xs := fun {v xs} ho => xj ho fun z e => e2 z (by
      rintro rfl
      rcases ho.2 with ⟨rfl, _⟩ | ⟨g, cap, cur, rfl, hb, hgg, rest⟩
      · cases e
      · have : g = w.heap.size + 1 := by simpa [Value.ownBlock] using e
        subst this
        exact HRS9.out.kinds.2.1 _ hgg)
     obtain ⟨a1, a2, a3, a4⟩ := HRS9.out.apart
     obtain ⟨mC, hmC⟩ := HRS9.out.mC
     obtain ⟨mM, hmM⟩ := HRS9.out.mM
     refine ⟨HRS9.out.below.trans (e3 _ (by omega)), .inr ⟨hR.out, AV0, cV0, bC, bM, rfl, fun W9 h9 => ⟨?_, ?_, ?_, ⟨mC, f, (hmC.same (e2 bC a3)).same (h9 bC (by have := HRS9.out.lC; omega) (by rw [hsz]; exact hmC.lt)), fun p hp => ?_⟩, ⟨mM, fM, (hmM.same (e2 bM a4)).same (h9 bM (by have := HRS9.out.lM; omega) (by rw [hsz]; exact hmM.lt)), fun p hp q => ?_⟩, hlen9⟩⟩⟩
     · exact gq (hrowk HRS9.out.own) h9
     · rw [hsz]; exact hmC.lt
     · rw [hsz]; exact hmM.lt
     · obtain ⟨g, c, ef, ho, _, _⟩ := HRS9.out.rowC p hp
       exact ⟨_, c, ef, gq (hrowk ho) h9⟩
     · have ho := (HRS9.out.rowM (q, (p : Int))).1
       have hmd : vE CLS PS (q, (p : Int)) = kU (CLS p) q := by
        unfold vE
        rw [if_pos ⟨by omega, by simpa using hp⟩]
        simp
       rw [hmd] at ho
       obtain ⟨A', c', e', _, _, _⟩ := ho.form
       rw [e'] at ho
       rw [zw] at e'
       exact ⟨A', c', e', gq (hrowk ho) h9⟩
end
section
open Go.RowKit Go.Shelf
attribute [local go_sem] Oper.semAt_some
theorem Xm (n : Nat) (Ap : Option Addr) (m kp bC bM : Nat) (i : Int) (w : World) : Calls Tryz.prog 74 #[.agg (stC n Ap m kp bC bM), .int .i64 i] w fun e w' =>
  e = .returned (.func (.func 131) #[] #[.pointer (some ⟨w.heap.size, 0, none⟩), .pointer (some ⟨w.heap.size + 1, 0, none⟩)]) ∧ (w.alloc (.cells (stC n Ap m kp bC bM) 126)).alloc (.cells #[.int .i64 i] 3) = w' := by
 unfold stC
 go_enter Tryz.func74, Tryz.ntmps74
 go_wp2
 go_ret
 exact ⟨rfl, rfl⟩
def qc (l : List Nat) (p t : Nat) : List (Nat × Nat) := (l.drop t).map fun k => (k, p)
theorem Ys {l : List Nat} {p t : Nat} (h : t < l.length) : qc l p t = (l[t], p) :: qc l p (t + 1) := by
 unfold qc; rw [List.drop_eq_getElem_cons h]; rfl
theorem Xs {l : List Nat} {p t : Nat} (h : t = l.length) : qc l p t = [] := by subst h; unfold qc; rw [List.drop_length]; rfl
theorem nbr_drop {ps : List Nat} {cls : Nat → List Int} {i j : Nat} (h : j < ps.length) : ya (ps.drop j) cls i = qc (kU (cls ps[j]) ((cls ps[j]).getD i 0)) ps[j] 0 ++ ya (ps.drop (j + 1)) cls i := by
 rw [List.drop_eq_getElem_cons h]
 unfold ya qc
 rw [List.flatMap_cons, List.drop_zero]
theorem wk (l : List Nat) (i : Nat) (h : i < (zM l).length) : (zM l)[i] = ((l[i]'(by simpa [zM] using h) : Nat) : Int) := by simp [zM]
set_option maxRecDepth 100000 in
theorem ZH (n i : Nat) (hn : n ≤ 100000) (hi : i < n) (Ap : Option Addr) (kp bC bM : Nat) (ps : List Nat) (hpl : ps.length ≤ 100) (cls : Nat → List Int) (B bx bp : Nat) (w : World) (hx : w.heap[bx]? = some (.cells (stC n Ap ps.length kp bC bM) 126 (0, 0)))
  (hp : w.heap[bp]? = some (.cells #[.int .i64 (i : Int)] 3 (0, 0))) (hS : StAt w B Ap bC bM n ps cls) (hB : B ≤ w.heap.size) :
  Ja Tryz.prog 131 #[.pointer (some ⟨bx, 0, none⟩), .pointer (some ⟨bp, 0, none⟩)] (fun x : Nat × Nat => #[.agg #[.int .i64 x.1, .int .i64 x.2]]) (fun k => k < B ∨ k = bx ∨ k = bp) (ya ps cls i) w := fun n' hn' l J Jx W hW hJ hJx hY h0 => by
 have hbx : bx < w.heap.size := zd hx
 have hbp : bp < w.heap.size := zd hp
 have hx0 := (hW.block bx hbx).trans hx
 have hp0 := (hW.block bp hbp).trans hp
 have HS0 := zH (hS.same (w' := W) fun k hk => hW.block k (by omega))
 have HY := zH hY
 have H0 := zH h0
 have HX0 := zH hx0
 have HP0 := zH hp0
 have hBs : B ≤ W.heap.size := Nat.le_trans hB hW.size
 have hxW : bx < W.heap.size := Nat.lt_of_lt_of_le hbx hW.size
 have hpW : bp < W.heap.size := Nat.lt_of_lt_of_le hbp hW.size
 have hz3 : ∀ W : World, (zeroValue 38).run Tryz.prog W = .ok (.slice none 0 0) W := fun W => by kernel_rfl
 have ht1 : Tryz.prog.underlying 123 = some (.map 3 38) := Tryz.underlying123
 have ht2 : Tryz.prog.underlying 124 = some (.map 75 38) := Tryz.underlying124
 have q1 : W.cell? ⟨bx, 1, none⟩ = some (.slice Ap ps.length kp) := za hx0 1 rfl
 clear hY hS hJx h0 hx0 hp0 hx hp hW hB hbx hbp
 refine callsIn_of_wp Tryz.func131 rfl trivial ?_ rfl
 simp only [Tryz.ntmps131, List.size_toArray, List.length_cons, List.length_nil, Nat.reduceAdd, Nat.reduceSub, Array.replicate_succ, Array.replicate_zero, List.push_toArray, List.append_toArray, List.nil_append, List.cons_append]
 gi_wp2
 gi_loopw [11] (fun q wr => ∃ j : Nat, j ≤ ps.length ∧ q = .int .i64 (j : Int) ∧ ∃ pre : List { x : Nat × Nat // x ∈ ya ps cls i }, Hid (pre.map (·.1) ++ ya (ps.drop j) cls i = ya ps cls i) ∧ Hid (J pre wr) ∧ Hid (StAt wr B Ap bC bM n ps cls) ∧ Hid (wr.heap[bx]? = some (.cells (stC n Ap ps.length kp bC bM) 126 (0, 0))) ∧ Hid (wr.heap[bp]? = some (.cells #[.int .i64 (i : Int)] 3 (0, 0))) ∧ W.heap.size ≤ wr.heap.size) (fun q _ => ps.length - (intOf q).toNat)
 case atStart => exact ⟨0, by omega, rfl, [], by simp [Hid], H0, HS0, HX0, HP0, Nat.le_refl _⟩
 case round =>
  obtain ⟨j, hj, rfl, pre, hpr, hJ0, hSr, hXr, hPr, hsz⟩ := hrel
  clear q1 HX0 HP0 HS0 H0
  by_cases hlt : j < ps.length
  · have hdr := nbr_drop (cls := cls) (i := i) hlt
    obtain ⟨p, hpp⟩ : ∃ p, ps[j] = p := ⟨_, rfl⟩
    have hpm : p ∈ ps := by rw [← hpp]; exact List.getElem_mem hlt
    rw [hpp] at hdr
    have hpr2 := hpr.out
    rw [hdr] at hpr2
    have hcl := hSr.out.len p hpm
    obtain ⟨kk, hkk⟩ : ∃ kk, (cls p).getD i 0 = kk := ⟨_, rfl⟩
    obtain ⟨ml, hml⟩ : ∃ ml, kU (cls p) kk = ml := ⟨_, rfl⟩
    rw [hkk, hml] at hpr2
    have HP := zH hpr2
    obtain ⟨bpr, opr, ePr, hbpr, zp⟩ := hSr.out.procs.at_ j (by simpa [zM] using hlt)
    rw [wk, hpp] at zp
    subst ePr
    have hj0 : (0 : Int) ≤ (j : Int) := by omega
    have hj1 : (j : Int) < (ps.length : Int) := by omega
    obtain ⟨m1, f1, hM1, hf1⟩ := hSr.out.cl
    obtain ⟨A1, c1, e1, hI1⟩ := hf1 p hpm
    obtain ⟨m2, f2, hM2, hf2⟩ := hSr.out.mb
    obtain ⟨A2, c2, e2, hI2⟩ := hf2 p hpm kk
    rw [hml] at e2 hI2
    have hlk1 := (show MapOf (Value.int .i64) wr.drew bC m1 f1 from hM1).look qo ht1 (hz3 _) (p : Int)
    rw [e1] at hlk1
    simp only [Option.getD_some] at hlk1
    have hlk2 := (show MapOf qY wr.drew bM m2 f2 from hM2).look wM ht2 (hz3 _) (kk, (p : Int))
    rw [e2] at hlk2
    simp only [qY] at hlk2
    obtain ⟨b1, o1, eA1, hb1, zc⟩ := hI1.at_ i (by omega)
    subst eA1
    have hgv : (cls p)[i]'(by omega) = kk := by rw [← hkk, zF (by omega)]
    rw [hgv] at zc
    have hI2' := zH hI2
    have hmlen : ml.length ≤ 100000 := by
     rw [← hml]; unfold kU
     refine Nat.le_trans (List.length_filter_le _ _) ?_
     simp; omega
    have g1 : wr.drew.cell? ⟨bx, 2, none⟩ = some (.map (some bC)) := za hXr.out 2 rfl
    have g2 : wr.drew.cell? ⟨bx, 3, none⟩ = some (.map (some bM)) := za hXr.out 3 rfl
    have g3 : wr.drew.cell? ⟨bp, 0, none⟩ = some (.int .i64 (i : Int)) := za hPr.out 0 rfl
    have g4 : wr.drew.cell? ⟨b1, o1 + i, none⟩ = some (.int .i64 kk) := zc
    have hi0 : (0 : Int) ≤ (i : Int) := by omega
    have hi1 : (i : Int) < (n : Int) := by omega
    clear hdr hpr hpr2 hM1 hf1 hM2 hf2 e1 e2 hI1 hI2 zc hgv hcl hkk hml hpp
    gi_wp2_with fail
    refine wpIn_wide.2 ?_
    refine zr [(0, true), (1, true), (2, true), (3, true), (4, true), (5, true), (6, true), (7, true), (8, true), (9, true), (10, true), (11, true), (12, true), (13, true)] (fun X => X = wr.drew) (by kernel_rfl) (by kernel_rfl) rfl ?_
    repeat
     apply zA rfl
     · rintro K' hK' X rfl
       go_simp
       exact hK'
    refine zG ?_
    clear hlk1 hlk2 g1 g2 g3 g4 zp
    obtain ⟨wq, hwq⟩ : ∃ wq, wr.drew = wq := ⟨_, rfl⟩
    have hszq : W.heap.size ≤ wq.heap.size := by rw [← hwq]; exact hsz
    have HSq : Hid (StAt wq B (some ⟨bpr, opr, none⟩) bC bM n ps cls) := by rw [← hwq]; exact hSr.out.same fun _ _ => rfl
    have HXq : Hid (wq.heap[bx]? = some (.cells (stC n (some ⟨bpr, opr, none⟩) ps.length kp bC bM) 126 (0, 0))) := by rw [← hwq]; exact hXr.out
    have HPq : Hid (wq.heap[bp]? = some (.cells #[.int .i64 (i : Int)] 3 (0, 0))) := by rw [← hwq]; exact hPr.out
    have HIq : Hid (IAt wq B A2 (zM ml)) := by rw [← hwq]; exact hI2'.out.sameB fun _ _ => rfl
    have HJq : Hid (J pre wq) := by rw [← hwq]; exact hJ pre wr wr.drew none hJ0.out ⟨rfl, rfl, rfl, Nat.le_refl _, fun _ _ _ => rfl⟩ (fun r e => by cases e)
    rw [hwq]
    clear hwq hSr hXr hPr hI2' hJ0 hsz hb1
    gi_wp2_with fail
    gi_loopw [28] (fun q wr => ∃ t : Nat, t ≤ ml.length ∧ q = .int .i64 (t : Int) ∧ ∃ pre : List { x : Nat × Nat // x ∈ ya ps cls i }, Hid (pre.map (·.1) ++ (qc ml p t ++ ya (ps.drop (j + 1)) cls i) = ya ps cls i) ∧ Hid (J pre wr) ∧ Hid (StAt wr B (some ⟨bpr, opr, none⟩) bC bM n ps cls) ∧ Hid (IAt wr B A2 (zM ml)) ∧ Hid (wr.heap[bx]? = some (.cells (stC n (some ⟨bpr, opr, none⟩) ps.length kp bC bM) 126 (0, 0))) ∧ Hid (wr.heap[bp]? = some (.cells #[.int .i64 (i : Int)] 3 (0, 0))) ∧ W.heap.size ≤ wr.heap.size) (fun q _ => ml.length - (intOf q).toNat)
    case atStart => exact ⟨0, by omega, rfl, pre, HP, HJq, HSq, HIq, HXq, HPq, hszq⟩
    case round =>
     clear HP HSq HIq HXq HPq HJq
     obtain ⟨t, htl, rfl, pre, hpr, hJ0, hSr, hIr, hXr, hPr, hsz⟩ := hrel
     by_cases hlt2 : t < ml.length
     · obtain ⟨b2, o2, eA2, hb2, z2⟩ := hIr.out.at_ t (by simpa [zM] using hlt2)
       rw [wk] at z2
       subst eA2
       have hp2 : pre.map (·.1) ++ ((ml[t], p) :: (qc ml p (t + 1) ++ ya (ps.drop (j + 1)) cls i)) = ya ps cls i := by
        have := hpr.out
        rw [Ys hlt2, List.cons_append] at this
        exact this
       obtain ⟨v, hv⟩ : ∃ v, ml[t] = v := ⟨_, rfl⟩
       rw [hv] at hp2 z2
       have hmem : (v, p) ∈ ya ps cls i := by rw [← hp2]; simp
       have hlen : pre.length < (ya ps cls i).length := by
        have := congrArg List.length hp2
        simp only [List.length_append, List.length_map, List.length_cons] at this
        omega
       obtain ⟨fn, tmps, assign, body, hy, hR⟩ := HY.out pre ⟨(v, p), hmem⟩ _ hJ0.out hlen
       dsimp only at hy
       have HP2 : Hid ((pre ++ [(⟨(v, p), hmem⟩ : { x : Nat × Nat // x ∈ ya ps cls i })]).map (·.1) ++ (qc ml p (t + 1) ++ ya (ps.drop (j + 1)) cls i) = ya ps cls i) := by
        rw [List.map_append, List.append_assoc]
        exact hp2
       have HR := zH hR
       have ht0 : (0 : Int) ≤ (t : Int) := by omega
       have ht3 : (t : Int) < (ml.length : Int) := by omega
       clear hp2 hpr hR hv
       gi_wp2_with fail
       refine HR.out.mono ?_
       rintro e W3 (⟨rfl, hJ3, hk3⟩ | ⟨rfl, hJx3⟩)
       · have hs1 : wr.heap.size ≤ W3.heap.size := hk3.size
         have S3 := zH (hSr.out.same (fun k hk => hk3.same k (.inl hk) (by omega)))
         have I3 := zH (hIr.out.sameB (fun k hk => hk3.same k (.inl hk) (by omega)))
         have X3 := zH ((hk3.same bx (.inr (.inl rfl)) (by omega)).trans hXr.out)
         have P3 := zH ((hk3.same bp (.inr (.inr rfl)) (by omega)).trans hPr.out)
         have J3 := zH hJ3
         have hsz3 : W.heap.size ≤ W3.heap.size := by omega
         clear hk3 hJ3 hs1 z2
         gi_wp2_with fail
         go_roundw
         case rel => exact ⟨t + 1, by omega, by go_num, _, HP2, J3, S3, I3, X3, P3, hsz3⟩
         case measure => simp [intOf]; omega
       · gi_wp2_with fail
         refine bodyPost_ret (results_none rfl _ _ _) rfl ?_
         refine ⟨⟨_, rfl⟩, .inr ⟨_, ?_, hJx3⟩⟩
         exact ⟨_, HP2.out⟩
     · obtain rfl : t = ml.length := by omega
       have HP : Hid (pre.map (·.1) ++ ya (ps.drop (j + 1)) cls i = ya ps cls i) := by have := hpr.out; rwa [Xs rfl, List.nil_append] at this
       clear hpr
       gi_wp2_with fail
       go_roundw
       case rel => exact ⟨j + 1, by omega, by go_num, pre, HP, hJ0, hSr, hXr, hPr, hsz⟩
       case measure => simp [intOf]; omega
  · obtain rfl : ps.length = j := by omega
    have HP : Hid (pre.map (·.1) = ya ps cls i) := by have := hpr.out; rwa [List.drop_length, show ya [] cls i = [] from rfl, List.append_nil] at this
    clear hpr
    gi_wp2_with fail
    go_end0
    exact ⟨⟨_, rfl⟩, .inl ⟨pre, HP.out, hJ0.out⟩⟩
end
section
open Go.RowKit
theorem made_row (n : Nat) : madeCells #[.int .i64 0] (n * 1) = ((List.replicate n 0).map (Value.int .i64)).toArray := by
 unfold madeCells
 apply Array.ext
 · simp
 · intro i h1 h2
   simp [Nat.mod_one]
theorem make_rowN (n : Nat) (hn : n ≤ 100000) (W : World) : (Instr.makeSlice 38 (.int .i64 n) (.int .i64 n)).run Tryz.prog W = .ok (.slice (some ⟨W.heap.size, 0, none⟩) n n) (W.alloc (.cells ((List.replicate n 0).map (Value.int .i64)).toArray 3)) := by
 obtain ⟨i0, hi, hz0, hz1, hz2⟩ := yz gH
 have hb : i0.bytes = 8 := hz2
 have hs : i0.size = 1 := hz1
 have h := run_make (P := Tryz.prog) W 38 3 i0 (.int .i64 0) Tryz.underlying38 hi hz0 .i64 .i64 (n : Int) (n : Int) (by omega) (Int.le_refl _) (by rw [hb]; omega) (by omega)
 rw [h, hs]
 simp only [Int.toNat_natCast]
 rw [show (Value.int .i64 0).cells = #[.int .i64 0] from rfl, made_row]
set_option maxRecDepth 100000 in
theorem ja (n b : Nat) (h1 : 1 ≤ n) (h5 : n ≤ 100000) (u : Int) (w : World) (hb : w.heap[b]? = some (.cells #[.int .i64 u] 3 (0, 0))) :
  Calls Tryz.prog 118 #[.slice (some ⟨b, 0, none⟩) 1 1, .int .i64 n] w fun e w' => ∃ g, e = .returned (.slice (some ⟨g, 0, none⟩) n n) ∧ w.heap.size ≤ g ∧ RowAt w' g (List.replicate n u) ∧ Below w.heap.size w w' := by
 have hmk := make_rowN n h5
 obtain ⟨ar, har⟩ : ∃ ar : List Value, (List.replicate n 0).map (Value.int .i64) = ar := ⟨_, rfl⟩
 rw [har] at hmk
 have hal : ar.length = n := by rw [← har]; simp
 have hc := za hb 0 rfl
 have hbl := zd hb
 have hm := Tryz.bits_Mul 1 n (by omega) (by omega) w
 have e1 : (1 * n / 18446744073709551616 : Nat) = 0 := by omega
 have e2 : (1 * n % 18446744073709551616 : Nat) = n := by omega
 rw [e1, e2] at hm
 have hn0 : ¬ (n : Int) < 0 := by omega
 clear har e1 e2
 go_enter Tryz.func118, Tryz.ntmps118
 go_wp2_with fail
 refine hm.mono ?_
 rintro e w1 ⟨rfl, hw1⟩
 obtain rfl := hw1
 clear hm
 obtain ⟨W0, hW0, b0, hsz, hB0⟩ := zi w1 ar.toArray 3
 have hx : W0.cell? ⟨b, 0, none⟩ = some (.int .i64 u) := (hB0.cell (p := ⟨b, 0, none⟩) hbl).trans hc
 have BB := zH hB0
 have BX := zH b0
 have HX := zH hx
 clear hc hB0 b0 hx hb
 go_wp2_with ((refine wpList_copy_splice rfl (.tmp 31) (.tmp 32) 38 38 rfl 3 Tryz.underlying38 vp (some ⟨w1.heap.size, 0, none⟩) (some ⟨b, 0, none⟩) n n 1 1 rfl rfl w1.heap.size 0 ar 3 BX.out [.int .i64 u] (by simp [Nat.min_def]; omega) (fun _ => ⟨rfl, _, rfl, Yk HX.out⟩) (by simp; omega) (by simp [Value.oneCell']) w1.heap.size w1 BB.out (Nat.le_refl _) ?_); intro w2 hr2 hb2)
 obtain ⟨g, hg⟩ : ∃ g, w1.heap.size = g := ⟨_, rfl⟩
 have s1 := xT (cur := ar) (x := .int .i64 u) (k := 0) (m := 1) (n := n) hal (by simp) (by omega)
 have S1 := zH s1
 have HGG := zH hg
 rw [hg] at hr2 hb2 ⊢
 clear s1 BX HX BB hW0 hsz hmk hg
 go_loopw [8] (fun l wr => ∃ (k : Nat) (cur : List Value), 1 ≤ k ∧ k ≤ n ∧ l = .int .i64 k ∧ Hid (cur.length = n) ∧ Hid (cur.take k = List.replicate k (.int .i64 u)) ∧ Hid (wr.heap[g]? = some (.cells cur.toArray 3 (0, 0))) ∧ Below g w1 wr) (fun l _ => n - (intOf l).toNat)
 case atStart => exact ⟨1, splice ar 0 [.int .i64 u], by omega, h1, rfl, S1.out.2, S1.out.1, hr2, hb2⟩
 case round =>
  obtain ⟨k, cur, hk1, hkn, rfl, hcl, hct, hcell, hbl2⟩ := hrel
  by_cases hlt : k < n
  · clear S1 hr2 hb2
    have hk0 : (0 : Int) ≤ (k : Int) := by omega
    have hk2 : (k : Int) ≤ (n : Int) := by omega
    have hne : ¬ n = k := by omega
    have hne' : ¬ k = n := by omega
    go_upto_region 9 with fail
    obtain ⟨d, hd⟩ : ∃ d, n - k = d := ⟨_, rfl⟩
    obtain ⟨m, hm⟩ : ∃ m, Nat.min k d = m := ⟨_, rfl⟩
    have hm0 : min k d = m := hm
    have hm1 : 1 ≤ m := by omega
    have hm2 : k + m ≤ n := by omega
    have hm3 : m ≤ k := by omega
    clear hm0
    have hsrc : ∀ j v, (List.replicate m (Value.int .i64 u))[j]? = some v → wr.cell? ((⟨g, 0, none⟩ : Addr).add j) = some v := by
     intro j v hj
     have hjm : j < m := by have := (List.getElem?_eq_some_iff.1 hj).1; simpa using this
     rw [List.getElem?_replicate, if_pos hjm] at hj
     cases hj
     rw [Addr.add_lit, Nat.zero_add]
     refine za hcell.out j ?_
     rw [List.getElem?_toArray]
     have h2 := congrArg (fun l => l[j]?) hct.out
     simp only [List.getElem?_take, List.getElem?_replicate] at h2
     rwa [if_pos (by omega), if_pos (by omega)] at h2
    have SP := zH (xT (cur := cur) (x := Value.int .i64 u) (k := k) (m := m) (n := n) hcl.out hct.out hm2)
    have HSRC := zH hsrc
    have HM := zH hm
    have HBL2 := zH hbl2
    have hs1 : IntKind.i64.wrap ((k : Int) + (m : Int)) = (k : Int) + (m : Int) := IntWalk.i64_in _ (by omega)
    have HS1 := zH hs1
    clear hsrc hm hbl2 hs1
    go_region_law ((refine step_copy_splice (by rfl) (.tmp 41) (.tmp 44) 38 38 (by rfl) 3 Tryz.underlying38 vp (some ⟨g, k, none⟩) (some ⟨g, 0, none⟩) d d k n (by simp [go_sem]) (by simp [go_sem]) g k cur 3 hcell.out (List.replicate m (.int .i64 u)) (by rw [List.length_replicate]; exact HM.out.symm) (fun _ => ⟨rfl, _, rfl, HSRC.out⟩) (by rw [List.length_replicate, hcl.out]; exact hm2) (by intro v hv; rw [List.eq_of_mem_replicate hv]; rfl) g w1 HBL2.out.drew (Nat.le_refl _) ?_; intro w3 hr3 hb3; rw [List.length_replicate]))
    all_goals
     rw [HS1.out]
     go_wp2_with fail
     go_frame
     go_roundw
     case rel =>
      (repeat apply Exists.intro)
      exact ⟨⟨k + m, splice cur k (List.replicate m (.int .i64 u)), by omega, by omega, rfl, SP.out.2, SP.out.1, hr3, hb3⟩, by first | rfl | (go_frame; rfl) | (simp [Act.put]; done)⟩
     case measure => simp [intOf]; omega
  · obtain rfl : k = n := by omega
    go_wp2_with fail
    go_ret
    refine ⟨g, rfl, by have := HGG.out; omega, ?_, by have := HGG.out; rw [this]; exact hbl2⟩
    unfold RowAt
    have e := hct.out
    rw [List.take_of_length_le (by have := hcl.out; omega)] at e
    rw [hcell.out, e]; simp
end
section
open Go.RowKit
def Tail (w : World) (base : Nat) (v : Value) (xs : List Int) : Prop :=
 (v = .slice none 0 0 ∧ xs = []) ∨ ∃ g off cap cur, v = .slice (some ⟨g, off, none⟩) xs.length cap ∧ base ≤ g ∧ w.heap[g]? = some (.cells cur 3 (0, 0)) ∧ xs.length ≤ cap ∧ cap ≤ maxLen ∧ (0 < cap → cur.size = off + cap) ∧
  ∀ (i : Nat) (h : i < xs.length), cur[off + i]? = some (.int .i64 xs[i])
theorem Tail.of_own {w : World} {base : Nat} {v : Value} {xs : List Int} (h : Own w base v xs) : Tail w base v xs := by
 rcases h.2 with ⟨hv, h0⟩ | ⟨g, cap, cur, hv, hb, hg, hle, hcm, hcs, htk⟩
 · exact .inl ⟨hv, List.eq_nil_of_length_eq_zero h0⟩
 · refine .inr ⟨g, 0, cap, cur, hv, hb, hg, hle, hcm, fun _ => by omega, fun i hi => ?_⟩
   rw [Nat.zero_add]
   have h2 := congrArg (fun l => l[i]?) htk
   simp only [List.getElem?_take, List.getElem?_map] at h2
   rw [if_pos (by omega), List.getElem?_eq_getElem hi] at h2
   simpa using h2
theorem Tail.form {w : World} {base : Nat} {v : Value} {xs : List Int} (h : Tail w base v xs) : ∃ A cap, v = .slice A xs.length cap ∧ xs.length ≤ cap ∧ cap ≤ maxLen ∧ IAt w w.heap.size A xs := by
 rcases h with ⟨rfl, rfl⟩ | ⟨g, off, cap, cur, rfl, hb, hg, hle, hcm, _, hat⟩
 · exact ⟨none, 0, rfl, Nat.le_refl _, Nat.zero_le _, IAt.nil _ _ _⟩
 · exact ⟨_, _, rfl, hle, hcm, fun _ => ⟨g, off, rfl, zd hg, fun i hi => za hg (off + i) (hat i hi)⟩⟩
theorem Tail.lt {w : World} {base : Nat} {v : Value} {xs : List Int} (h : Tail w base v xs) : ∀ k, v.ownBlock = some k → base ≤ k ∧ k < w.heap.size := by
 rcases h with ⟨rfl, _⟩ | ⟨g, off, cap, cur, rfl, hb, hg, _⟩
 · intro k e; cases e
 · intro k e
   have : g = k := by simpa [Value.ownBlock] using e
   subst this
   exact ⟨hb, zd hg⟩
theorem Tail.cells {w : World} {base : Nat} {v : Value} {xs : List Int} (h : Tail w base v xs) : ∀ k, v.ownBlock = some k → ∃ cur, w.heap[k]? = some (.cells cur 3 (0, 0)) := by
 rcases h with ⟨rfl, _⟩ | ⟨g, off, cap, cur, rfl, hb, hg, _⟩
 · intro k e; cases e
 · intro k e
   have : g = k := by simpa [Value.ownBlock] using e
   subst this
   exact ⟨_, hg⟩
theorem Tail.same {w w' : World} {base : Nat} {v : Value} {xs : List Int} (h : Tail w base v xs) (hs : ∀ k, v.ownBlock = some k → w'.heap[k]? = w.heap[k]?) : Tail w' base v xs := by
 rcases h with h | ⟨g, off, cap, cur, rfl, hb, hg, r⟩
 · exact .inl h
 · exact .inr ⟨g, off, cap, cur, rfl, hb, (hs g rfl).trans hg, r⟩
theorem Tail.cut {w : World} {base : Nat} {A : Option Addr} {cap : Nat} {x : Int} {xs : List Int} (h : Tail w base (.slice A (xs.length + 1) cap) (x :: xs)) :
  ∃ A', (∀ X : World, (Instr.slice 38 (.slice A (xs.length + 1) cap) (some (.int .i64 1)) none none).run Tryz.prog X = .ok (.slice A' xs.length (cap - 1)) X) ∧ Tail w base (.slice A' xs.length (cap - 1)) xs ∧ (Value.slice A' xs.length (cap - 1)).ownBlock = (Value.slice A (xs.length + 1) cap).ownBlock := by
 rcases h with ⟨_, h⟩ | ⟨g, off, cap', cur, hv, hb, hg, hle, hcm, hcs, hat⟩
 · cases h
 · injection hv with e1 e2 e3
   subst e1; subst e3
   simp only [List.length_cons] at hle hat
   refine ⟨if cap = 1 then some ⟨g, off, none⟩ else (some (⟨g, off, none⟩ : Addr)).map (·.add 1), fun X => ?_, .inr ?_, ?_⟩
   · have hu : Tryz.prog.underlying 38 = some (.slice 3) := Tryz.underlying38
     have hs : (sizeOf 3).run Tryz.prog X = .ok 1 X := by kernel_rfl
     simp [Instr.slice, Instr.sliceBounds, run_underlying hu, go_sem]
     exact fun h => absurd h (by omega)
   · by_cases h1 : cap = 1
     · subst h1
       have h0 : xs.length = 0 := by omega
       refine ⟨g, off, 0, cur, by simp, hb, hg, by omega, Nat.zero_le _, fun h => by omega, fun i hi => by omega⟩
     · rw [if_neg h1]
       refine ⟨g, off + 1, cap - 1, cur, by simp [Addr.add], hb, hg, by omega, by omega, fun _ => by have := hcs (by omega); omega, fun i hi => ?_⟩
       have := hat (i + 1) (by omega)
       rw [show off + 1 + i = off + (i + 1) by omega]
       simpa using this
   · by_cases h1 : cap = 1
     · subst h1; rfl
     · rw [if_neg h1]; simp [Value.ownBlock, Addr.add]
theorem wb (w : World) (base : Nat) (ty : TypeId) (v : Value) (xs : List Int) (u : Int) (h : Tail w base v xs) (a : Addr) (ha : w.cell? a = some (.int .i64 u)) (hlen : xs.length < 8796093022208) (hbase : base ≤ w.heap.size) :
  ∃ v' w', (Builtin.append_ #[38, 38] ty #[v, .slice (some a) 1 1]).run Tryz.prog w = .ok v' w' ∧ Tail w' base v' (xs ++ [u]) ∧ w.grownBy w' v.ownBlock ∧ (v'.ownBlock = v.ownBlock ∨ v'.ownBlock = some w.heap.size) := by
 obtain ⟨i, hi, hz, hsz, hby⟩ := info_parts gI
 have ht : Tryz.prog.underlying 38 = some (.slice 3) := Tryz.underlying38
 have hnews : ∀ j y, [Value.int .i64 u][j]? = some y → w.cell? (a.add j) = some y := by
  intro j y hj
  have h0 : j = 0 := by have := (List.getElem?_eq_some_iff.1 hj).1; simp at this; omega
  subst h0
  simp at hj; subst hj
  rw [show a.add 0 = a by cases a; rename_i b o f; cases f <;> simp [Addr.add]]
  exact ha
 have grown : ∀ (old : Nat), old < xs.length + 1 → ∀ (row : Option Nat),
   Tail (w.drew.alloc (.cells ((xs.map (Value.int .i64)).toArray ++ [Value.int .i64 u].toArray ++ Builtin.zeroCells (Value.int .i64 0).cells (grownCap w (xs.length + 1) old 3 - (xs.length + 1))) 3)) base (.slice (some ⟨w.heap.size, 0, none⟩) (xs.length + 1) (grownCap w (xs.length + 1) old 3)) (xs ++ [u]) ∧
   w.grownBy (w.drew.alloc (.cells ((xs.map (Value.int .i64)).toArray ++ [Value.int .i64 u].toArray ++ Builtin.zeroCells (Value.int .i64 0).cells (grownCap w (xs.length + 1) old 3 - (xs.length + 1))) 3)) row := by
  intro old ho row
  have hge := grownCap_ge w (xs.length + 1) old 3
  have hcm : grownCap w (xs.length + 1) old 3 ≤ maxLen := grownCap_le_maxLen w (xs.length + 1) old 3 (by unfold maxLen; omega)
  refine ⟨.inr ⟨w.heap.size, 0, _, _, by simp, hbase, heap_alloc_new w.drew _, by simp; exact hge, hcm, fun _ => ?_, fun j hj => ?_⟩, ⟨rfl, rfl, rfl, by simp, fun k hk _ => Below.heap_alloc w.drew _ k hk⟩⟩
  · simp only [Array.size_append, List.size_toArray, size_zeroCells, List.length_map, List.length_cons, List.length_nil]
    have : (Value.int .i64 0).cells.size = 1 := rfl
    rw [this]; omega
  · have hj' : j < xs.length + 1 := by simpa using hj
    rw [Nat.zero_add, Array.getElem?_append_left (by simp; omega), List.append_toArray, List.getElem?_toArray, ← List.map_singleton (f := Value.int .i64), ← List.map_append, List.getElem?_map, List.getElem?_eq_getElem hj]
    rfl
 rcases h with ⟨rfl, rfl⟩ | ⟨g, off, cap, cur, rfl, hb, hg, hle, hcm, hcs, hat⟩
 · have hr := run_append_nil (P := Tryz.prog) w 38 ty 3 i (.int .i64 0) ht hi hz a 1 1 [.int .i64 u] (by rw [hsz]; rfl) hnews (by omega) (by omega) (by rw [hby]; omega)
   have hgr := grown 0 (by simp) (Value.ownBlock (.slice none 0 0))
   simp only [List.length_nil, List.map_nil, Nat.zero_add, List.nil_append] at hgr
   refine ⟨_, _, hr, ?_, ?_, Or.inr rfl⟩
   · exact hgr.1
   · exact hgr.2
 · by_cases hroom : xs.length + 1 ≤ cap
   · have hsize := hcs (by omega)
     have hf := run_firstCells_some (P := Tryz.prog) w i.size 1 a 1 1 [.int .i64 u] (by rw [hsz]; rfl) hnews
     have hst := run_storeCells_at Tryz.prog g (off + xs.length * i.size) 3 [.int .i64 u] 0 cur w hg (by rw [hsz]; simp; omega) (by simp [Value.oneCell'])
     simp only [Nat.add_zero] at hst
     refine ⟨.slice (some ⟨g, off, none⟩) (xs.length + 1) cap, w.setRow g (cur.toList.take (off + xs.length * i.size) ++ [Value.int .i64 u] ++ cur.toList.drop (off + xs.length * i.size + [Value.int .i64 u].length)).toArray, ?_, .inr ⟨g, off, cap, (cur.toList.take (off + xs.length * i.size) ++ [Value.int .i64 u] ++ cur.toList.drop (off + xs.length * i.size + [Value.int .i64 u].length)).toArray, by simp, hb, setRow_heap w g cur _ 3 _ hg, by simpa using hroom, hcm, fun _ => ?_, fun j hj => ?_⟩, ⟨rfl, rfl, rfl, by simp, fun k _ hk => setRow_other w g k _ (fun e => hk (by simp [Value.ownBlock, e]))⟩, Or.inl rfl⟩
     · simp [Builtin.append_, run_underlying ht, sizeOf, typeInfo, hi, Builtin.lenOf, hroom, hf, Addr.add_lit, hst]
     · rw [hsz]; simp; omega
     · have hj' : j < xs.length + 1 := by simpa using hj
       rw [hsz, Nat.mul_one, List.getElem?_toArray]
       have hlt : (cur.toList.take (off + xs.length)).length = off + xs.length := by simp; omega
       by_cases e : j = xs.length
       · subst e
         rw [List.append_assoc, List.getElem?_append_right (by omega), hlt]
         simp
       · rw [List.append_assoc, List.getElem?_append_left (by omega), List.getElem?_take, if_pos (by omega), Array.getElem?_toList, hat j (by omega), List.getElem_append_left (by omega)]
   · have holds : ∀ j y, (xs.map (Value.int .i64))[j]? = some y → w.cell? ((⟨g, off, none⟩ : Addr).add j) = some y := by
      intro j y hj
      have hjl : j < xs.length := by have := (List.getElem?_eq_some_iff.1 hj).1; simpa using this
      rw [List.getElem?_map, List.getElem?_eq_getElem hjl] at hj
      simp at hj; subst hj
      rw [Addr.add_lit]
      exact za hg (off + j) (hat j hjl)
     have hr := run_append_grow (P := Tryz.prog) w 38 ty 3 i (.int .i64 0) ht hi hz ⟨g, off, none⟩ xs.length cap (xs.map (Value.int .i64)) (by rw [hsz]; simp) holds a 1 1 [.int .i64 u] (by rw [hsz]; rfl) hnews (by omega) (by omega) (growslice_fits (by omega) (by rw [hby]; omega))
     have hgr := grown cap (by omega) (Value.ownBlock (.slice (some ⟨g, off, none⟩) xs.length cap))
     exact ⟨_, _, hr, hgr.1, hgr.2, Or.inr rfl⟩
theorem Zk {F : Fence} {n : Nat} (w : World) {ops : Array Oper} {rest : List Oper} {o : Oper} {a : Act} {Q : Exit → Act → World → Prop} (hgd : o.guard = none) (s x : Operand)
  (hop : o.op = .call { callee := .builtin .append, args := #[s, x], argTypes := #[38, 38] }) (base : Nat) (v : Value) (xs : List Int) (u : Int) (hs : a.eval s = v) (hown : Tail w base v xs)
  (ad : Addr) (hx : a.eval x = .slice (some ad) 1 1) (ha : w.cell? ad = some (.int .i64 u)) (hlen : xs.length < 8796093022208) (hb : base ≤ w.heap.size)
  (h : ∀ v' w1, Tail w1 base v' (xs ++ [u]) → w.grownBy w1 v.ownBlock → (v'.ownBlock = v.ownBlock ∨ v'.ownBlock = some w.heap.size) → wpListIn F n Tryz.prog ops Q rest (a.put o.dst v') w1) :
  wpListIn F n Tryz.prog ops Q (o :: rest) a w := by
 refine wpListIn_plain hgd fun K hK' => ?_
 obtain ⟨v', w', hrun, r1, r2, r3⟩ := wb w base o.type v xs u hown ad ha hlen hb
 unfold Oper.wpIn
 refine ⟨by simp [Oper.about, hop, resolve, Target.leads, Sem.run_pure], ?_⟩
 rw [Oper.semAt_plain F _ _ (by rw [hop]; intro c hc'; cases hc')]
 simp [execOp, hop, resolve, invoke, builtin, hs, hx, hrun, Result.andThen]
 exact hK' _ _ (h v' w' r1 r2 r3)
end
end Go.Proofs.YtdkmpccfnnpnbaaGreat
