/- Part PlainG. Part ShelfB. Part OwnSort. Part LawGa. What each part says stands at its head; no part has a condition beyond its own statements. -/
import Derived.Test.YtdfnmapmnmecnaaDoorMg
import Derived.Lib.SlicesCompact
import Derived.Test.YtdfnmapmnmecnaaDoorMa
import Derived.Shelf.Strings.Builder1
import Derived.Shelf.Small.Bits
import Derived.Shelf.Small.Wraps
import Derived.Shelf.Strings.BuilderF
import Derived.Shelf.Strings.BuilderK
import Derived.Shelf.Strconv.Itoa0
import Derived.Shelf.Strconv.Itoa1
import Derived.Shelf.LaysM
import Derived.Shelf.Strconv.Itoa2
import Derived.Shelf.Strconv.Itoa3
import Derived.Shelf.Sort.Plain
import Derived.Shelf.Bits.Mul64
import Derived.Shelf.Slices.Turned
import Derived.Shelf.Slices.Equal
import Derived.Ground.Names2Prog
import Derived.Shelf.Slices.Clone
import Derived.Shelf.Slices.CompactI
import Derived.Shelf.Slices.SearchI
import Derived.Shelf.Slices.Cells
import Derived.Shelf.Slices.In.SortNone
import Derived.Shelf.Slices.Empties2
import Derived.Ground.SlgnProg
import Derived.Shelf.SlicesE.Clone
import Derived.Test.YtdfnmapmnmecnaaDoorProg
import Derived.Test.YtdfnmapmnmecnaaDoorPa
import Derived.Sort.OwnSortedInts
import Derived.Lib.RowBridge
import Derived.Test.YtdfnmapmnmecnaaDoorPb
import Derived.Test.YtdfnmapmnmecnaaDoorMd

/- The plain law of ViewsGather: sorting and compacting what was gathered gives the past. No walk in sight. -/
namespace Go.Proofs.YtdfnmapmnmecnaaDoor

theorem asc_ext : ∀ {l m : List Int}, l.Pairwise (· < ·) → m.Pairwise (· < ·) → (∀ x, x ∈ l ↔ x ∈ m) → l = m
  | [], [], _, _, _ => rfl
  | [], b :: m, _, _, h => by have := (h b).2 (by simp); cases this
  | a :: l, [], _, _, h => by have := (h a).1 (by simp); cases this
  | a :: l, b :: m, hl, hm, h => by
    obtain ⟨h1, h2⟩ := List.pairwise_cons.1 hl
    obtain ⟨h3, h4⟩ := List.pairwise_cons.1 hm
    have e : a = b := by
      rcases List.mem_cons.1 ((h a).1 (by simp)) with e | e
      · exact e
      rcases List.mem_cons.1 ((h b).2 (by simp)) with e' | e'
      · exact e'.symm
      have := h3 a e
      have := h1 b e'
      omega
    subst e
    rw [asc_ext h2 h4 fun x => ?_]
    constructor
    · intro hx
      rcases List.mem_cons.1 ((h x).1 (by simp [hx])) with e | e
      · have := h1 x hx; omega
      · exact e
    · intro hx
      rcases List.mem_cons.1 ((h x).2 (by simp [hx])) with e | e
      · have := h3 x hx; omega
      · exact e

theorem compactUpTo_sorted {zs : List Int} (h : zs.Pairwise (· ≤ ·)) : ∀ m, m ≤ zs.length → (Lib.compactUpTo zs.toArray m).Pairwise (· < ·) ∧ ∀ x, x ∈ Lib.compactUpTo zs.toArray m ↔ ∃ j, ∃ (hj : j < zs.length), j < m ∧ zs[j] = x
  | 0, _ => by
    have e : Lib.compactUpTo zs.toArray 0 = [] := by simp [Lib.compactUpTo]
    rw [e]
    exact ⟨List.Pairwise.nil, fun x => by simp⟩
  | m + 1, hm => by
    obtain ⟨h1, h2⟩ := compactUpTo_sorted h m (by omega)
    have hle : ∀ i j (hi : i < zs.length) (hj : j < zs.length), i ≤ j → zs[i] ≤ zs[j] := fun i j hi hj hij => by
      rcases Nat.lt_or_eq_of_le hij with h3 | h3
      · exact List.pairwise_iff_getElem.1 h i j hi hj h3
      · subst h3; exact Int.le_refl _
    have hg : ∀ j (hj : j < zs.length), zs.toArray[j]! = zs[j] := fun j hj => by simp [hj]
    rw [Lib.compactUpTo_succ]
    by_cases hk : Lib.keeps zs.toArray m = true
    · rw [if_pos hk, hg m (by omega)]
      have hlt : ∀ x, x ∈ Lib.compactUpTo zs.toArray m → x < zs[m] := fun x hx => by
        obtain ⟨j, hj, hjm, rfl⟩ := (h2 x).1 hx
        have hm0 : m ≠ 0 := by omega
        have hne : zs[m] ≠ zs[m - 1] := fun e => by
          have := Lib.keeps_neg (d := zs.toArray) (m := m) (by omega) (by rw [hg m (by omega), hg (m - 1) (by omega)]; exact e)
          rw [this] at hk; cases hk
        have a1 := hle j (m - 1) hj (by omega) (by omega)
        have a2 := hle (m - 1) m (by omega) (by omega) (by omega)
        omega
      refine ⟨List.pairwise_append.2 ⟨h1, List.pairwise_singleton _ _, fun x hx y hy => ?_⟩, fun x => ?_⟩
      · have : y = zs[m] := by simpa using hy
        subst this
        exact hlt x hx
      · rw [List.mem_append, h2]
        constructor
        · rintro (⟨j, hj, hjm, e⟩ | e)
          · exact ⟨j, hj, by omega, e⟩
          · exact ⟨m, by omega, by omega, by simpa using Eq.symm (by simpa using e)⟩
        · rintro ⟨j, hj, hjm, e⟩
          by_cases ej : j = m
          · subst ej; exact .inr (by simp [e])
          · exact .inl ⟨j, hj, by omega, e⟩
    · rw [if_neg hk, List.append_nil]
      refine ⟨h1, fun x => ?_⟩
      rw [h2]
      have hm0 : m ≠ 0 := fun e => hk (by subst e; simp [Lib.keeps])
      have hne : zs[m] = zs[m - 1] := by
        rcases Decidable.em (zs[m] = zs[m - 1]) with e | e
        · exact e
        · exact absurd (Lib.keeps_pos (d := zs.toArray) (m := m) (by rw [hg m (by omega), hg (m - 1) (by omega)]; exact e)) hk
      constructor
      · rintro ⟨j, hj, hjm, e⟩
        exact ⟨j, hj, by omega, e⟩
      · rintro ⟨j, hj, hjm, e⟩
        by_cases ej : j = m
        · subst ej; exact ⟨j - 1, by omega, by omega, by rw [← hne]; exact e⟩
        · exact ⟨j, hj, by omega, e⟩
theorem compact_sorted {zs : List Int} (h : zs.Pairwise (· ≤ ·)) : (Lib.compact zs).Pairwise (· < ·) ∧ ∀ x, x ∈ Lib.compact zs ↔ x ∈ zs := by
  obtain ⟨h1, h2⟩ := compactUpTo_sorted h zs.length (Nat.le_refl _)
  refine ⟨h1, fun x => ?_⟩
  unfold Lib.compact
  rw [h2, List.mem_iff_getElem]
  exact ⟨fun ⟨j, hj, _, e⟩ => ⟨j, hj, e⟩, fun ⟨j, hj, e⟩ => ⟨j, hj, hj, e⟩⟩

/-- What is gathered of the first q places: the view itself, and the pasts of what it heard. -/
def gather (vs : List Vw) (i q : Nat) : List Int := (i : Int) :: (heardTo (getV vs i) q).flatMap fun x => castL (pastL vs [x.2.toNat])
theorem gather_zero (vs : List Vw) (i : Nat) : gather vs i 0 = [(i : Int)] := by
  have : heardTo (getV vs i) 0 = [] := by unfold heardTo; split <;> simp
  simp [gather, this]
theorem gather_yes {vs : List Vw} {i q : Nat} (hr : 0 < (getV vs i).r) (hq : 0 ≤ (getV vs i).h q) : gather vs i (q + 1) = gather vs i q ++ castL (pastL vs [((getV vs i).h q).toNat]) := by
  simp [gather, heardTo_yes hr hq]
theorem gather_no {vs : List Vw} {i q : Nat} (h : ¬ (0 < (getV vs i).r ∧ 0 ≤ (getV vs i).h q)) : gather vs i (q + 1) = gather vs i q := by simp [gather, heardTo_no h]
theorem gather_len (vs : List Vw) (i q : Nat) : (gather vs i q).length ≤ 1 + q * vs.length := by
  induction q with
  | zero => rw [gather_zero]; simp
  | succ q ih =>
    by_cases h : 0 < (getV vs i).r ∧ 0 ≤ (getV vs i).h q
    · rw [gather_yes h.1 h.2, List.length_append]
      have := past_len vs [((getV vs i).h q).toNat]
      have e : (q + 1) * vs.length = q * vs.length + vs.length := by rw [Nat.add_mul, Nat.one_mul]
      omega
    · rw [gather_no h]
      have e : (q + 1) * vs.length = q * vs.length + vs.length := by rw [Nat.add_mul, Nat.one_mul]
      omega
theorem mem_castG {x : Int} {l : List Nat} : x ∈ castL l ↔ ∃ y : Nat, y ∈ l ∧ x = (y : Int) := by
  unfold castL
  rw [List.mem_map]
  exact ⟨fun ⟨y, h, e⟩ => ⟨y, h, e.symm⟩, fun ⟨y, h, e⟩ => ⟨y, h, e.symm⟩⟩
theorem mem_gather {vs : List Vw} (ha : Acyc vs) {i : Nat} (hi : i < vs.length) (x : Int) : x ∈ gather vs i 5 ↔ x ∈ castL (pastL vs [i]) := by
  have hk : ∀ c, c ∈ kids (getV vs i) ↔ ∃ y, y ∈ heardTo (getV vs i) 5 ∧ y.2.toNat = c := fun c => by
    unfold kids heardL
    rw [List.mem_map]
  rw [mem_castG]
  unfold gather
  rw [List.mem_cons, List.mem_flatMap]
  constructor
  · rintro (e | ⟨y, hy, hx⟩)
    · exact ⟨i, (past_gather ha hi).2 (.inl rfl), e⟩
    · obtain ⟨z, hz, e⟩ := mem_castG.1 hx
      exact ⟨z, (past_gather ha hi).2 (.inr ⟨y.2.toNat, (hk _).2 ⟨y, hy, rfl⟩, hz⟩), e⟩
  · rintro ⟨y, hy, rfl⟩
    rcases (past_gather ha hi).1 hy with e | ⟨c, hc, hy⟩
    · exact .inl (by rw [e])
    · obtain ⟨z, hz, rfl⟩ := (hk c).1 hc
      exact .inr ⟨z, hz, mem_castG.2 ⟨y, hy, rfl⟩⟩
theorem cast_asc (vs : List Vw) (l : List Nat) : (castL (pastL vs l)).Pairwise (· < ·) := by
  unfold castL pastL
  rw [List.pairwise_map]
  refine List.Pairwise.imp ?_ ((List.pairwise_lt_range).filter _)
  intro a b h
  omega
def sorted5 (vs : List Vw) (i : Nat) : List Int := (gather vs i 5).mergeSort fun x y => decide (x ≤ y)
theorem sorted5_len (vs : List Vw) (i : Nat) : (sorted5 vs i).length = (gather vs i 5).length := by unfold sorted5; exact List.length_mergeSort _
theorem gather_law {vs : List Vw} (ha : Acyc vs) {i : Nat} (hi : i < vs.length) : Lib.compact (sorted5 vs i) = castL (pastL vs [i]) := by
  have hs : (sorted5 vs i).Pairwise (· ≤ ·) := by
    have := List.pairwise_mergeSort (le := fun x y : Int => decide (x ≤ y)) (fun a b c h1 h2 => by simp at *; omega) (fun a b => by simp; omega) (gather vs i 5)
    exact this.imp fun h => by simpa using h
  obtain ⟨h1, h2⟩ := compact_sorted hs
  refine asc_ext h1 (cast_asc vs [i]) fun x => ?_
  rw [h2]
  unfold sorted5
  rw [List.mem_mergeSort]
  exact mem_gather ha hi x
end Go.Proofs.YtdfnmapmnmecnaaDoor

/-
  DERIVED: THE SHELF's CONTRACTS AT THIS DUMP, IN PLAIN WORDS (tools/lay-plain.mjs out of 'TrydShelf.lean', which tools/lay-shelf.mjs wrote): THE SAME DECLARATIONS UNDER THE SAME NAMES: 'import', 'namespace', 'open', 'def', 'theorem' AND NOTHING ELSE: no command of the shelf's: FOR A HAND-IN. Each laying: the table of numbers ('.._ren') and one theorem, a field a fact of the dump's own or the kernel's comparison; each contract: ONE APPLICATION.
-/
namespace Go.Proofs
open Go.Shelf
def Tryd.lays189_ren : Go.Shelf.Ren := ⟨fun | 189 => 34 | 125 => 62 | 257 => 61 | 128 => 84 | 129 => 85 | 294 => 75 | 295 => 76 | 296 => 77 | 297 => 78 | 298 => 79 | 299 => 80 | 216 => 81 | 300 => 82 | 301 => 83 | 328 => 91 | 329 => 92 | 330 => 93 | 331 => 94 | 332 => 95 | 215 => 96 | 343 => 99 | n => n, fun | 28 => 37 | 3 => 3 | 46 => 96 | 0 => 0 | 51 => 127 | 53 => 129 | 4 => 4 | 183 => 119 | 182 => 118 | 131 => 124 | 5 => 5 | 9 => 9 | 218 => 134 | 222 => 138 | 228 => 144 | 229 => 58 | n => n, fun | n => n⟩
theorem Tryd.lays189 : Go.Proofs.Lays.n189 Tryd.prog Tryd.lays189_ren := {
  mixed := by kernel_rfl
  f125 := Tryd.func62.trans (congrArg some (by kernel_rfl))
  f128 := Tryd.func84.trans (congrArg some (by kernel_rfl))
  f129 := Tryd.func85.trans (congrArg some (by kernel_rfl))
  f189 := Tryd.func34.trans (congrArg some (by kernel_rfl))
  f215 := Tryd.func96.trans (congrArg some (by kernel_rfl))
  f216 := Tryd.func81.trans (congrArg some (by kernel_rfl))
  f257 := Tryd.func61.trans (congrArg some (by kernel_rfl))
  f294 := Tryd.func75.trans (congrArg some (by kernel_rfl))
  f295 := Tryd.func76.trans (congrArg some (by kernel_rfl))
  f296 := Tryd.func77.trans (congrArg some (by kernel_rfl))
  f297 := Tryd.func78.trans (congrArg some (by kernel_rfl))
  f298 := Tryd.func79.trans (congrArg some (by kernel_rfl))
  f299 := Tryd.func80.trans (congrArg some (by kernel_rfl))
  f300 := Tryd.func82.trans (congrArg some (by kernel_rfl))
  f301 := Tryd.func83.trans (congrArg some (by kernel_rfl))
  f328 := Tryd.func91.trans (congrArg some (by kernel_rfl))
  f329 := Tryd.func92.trans (congrArg some (by kernel_rfl))
  f330 := Tryd.func93.trans (congrArg some (by kernel_rfl))
  f331 := Tryd.func94.trans (congrArg some (by kernel_rfl))
  f332 := Tryd.func95.trans (congrArg some (by kernel_rfl))
  f343 := Tryd.func99.trans (congrArg some (by kernel_rfl))
  t0 := Tryd.underlying0
  a0 := Tryd.isAgg0
  z0 := Tryd.sizeOf0
  v0 := Tryd.zeroValue0
  t3 := Tryd.underlying3
  a3 := Tryd.isAgg3
  z3 := Tryd.sizeOf3
  v3 := Tryd.zeroValue3
  t4 := Tryd.underlying4
  a4 := Tryd.isAgg4
  z4 := Tryd.sizeOf4
  v4 := Tryd.zeroValue4
  t5 := Tryd.underlying5
  a5 := Tryd.isAgg5
  z5 := Tryd.sizeOf5
  v5 := Tryd.zeroValue5
  t9 := Tryd.underlying9
  a9 := Tryd.isAgg9
  z9 := Tryd.sizeOf9
  v9 := Tryd.zeroValue9
  t28 := Tryd.underlying37
  a28 := Tryd.isAgg37
  z28 := Tryd.sizeOf37
  v28 := Tryd.zeroValue37
  t46 := Tryd.underlying96
  a46 := Tryd.isAgg96
  z46 := Tryd.sizeOf96
  v46 := Tryd.zeroValue96
  t51 := Tryd.underlying127
  a51 := Tryd.isAgg127
  z51 := Tryd.sizeOf127
  v51 := Tryd.zeroValue127
  t53 := Tryd.underlying129
  a53 := Tryd.isAgg129
  z53 := Tryd.sizeOf129
  v53 := Tryd.zeroValue129
  t131 := Tryd.underlying124
  a131 := Tryd.isAgg124
  z131 := Tryd.sizeOf124
  v131 := Tryd.zeroValue124
  t182 := Tryd.underlying118
  a182 := Tryd.isAgg118
  z182 := Tryd.sizeOf118
  v182 := Tryd.zeroValue118
  t183 := Tryd.underlying119
  a183 := Tryd.isAgg119
  z183 := Tryd.sizeOf119
  v183 := Tryd.zeroValue119
  t218 := Tryd.underlying134
  a218 := Tryd.isAgg134
  z218 := Tryd.sizeOf134
  v218 := Tryd.zeroValue134
  t222 := Tryd.underlying138
  a222 := Tryd.isAgg138
  z222 := Tryd.sizeOf138
  v222 := Tryd.zeroValue138
  t228 := Tryd.underlying144
  a228 := Tryd.isAgg144
  z228 := Tryd.sizeOf144
  v228 := Tryd.zeroValue144
  t229 := Tryd.underlying58
  a229 := Tryd.isAgg58
  z229 := Tryd.sizeOf58
  v229 := Tryd.zeroValue58 }
open Go.Sort Go.RowKit in
theorem Tryd.slices_Sort_int (blk off cap : Nat) (zs : List Int) (w : World) (hH : Holds (Value.int .i64) w blk off zs.toArray) (hblk : blk < w.heap.size) (hsz : zs.length < 4611686018427387904) :
    Calls Tryd.prog 34 #[.slice (some ⟨blk, off, none⟩) zs.length cap] w fun e w' =>
      e = .returned (.tuple #[]) ∧ ∃ n os, w' = grow (putRow (Value.int .i64) (Sort.ahead w n) blk off (zs.mergeSort fun x y => decide (x ≤ y)).toArray) os := Any.slices_Sort_int Tryd.lays189 blk off cap zs w hH hblk hsz
def Tryd.laysNm220_ren : Go.Shelf.Ren := ⟨fun | 20 => 36 | n => n, fun | 22 => 37 | 3 => 3 | 4 => 4 | 0 => 0 | n => n, fun | n => n⟩
theorem Tryd.laysNm220 : Go.Proofs.Lays2.n20 Tryd.prog Tryd.laysNm220_ren := {
  mixed := by kernel_rfl
  f20 := Tryd.func36.trans (congrArg some (by kernel_rfl))
  t0 := Tryd.underlying0
  a0 := Tryd.isAgg0
  z0 := Tryd.sizeOf0
  v0 := Tryd.zeroValue0
  t3 := Tryd.underlying3
  a3 := Tryd.isAgg3
  z3 := Tryd.sizeOf3
  v3 := Tryd.zeroValue3
  t4 := Tryd.underlying4
  a4 := Tryd.isAgg4
  z4 := Tryd.sizeOf4
  v4 := Tryd.zeroValue4
  t22 := Tryd.underlying37
  a22 := Tryd.isAgg37
  z22 := Tryd.sizeOf37
  v22 := Tryd.zeroValue37
  i3 := by kernel_rfl }
open Go.RowKit Go.Lib Go.Sort in
/-- slices.Compact at []int: "Compact replaces consecutive runs of equal elements with a single copy. This is like the uniq command found on Unix. Compact modifies the contents of the slice s and returns the modified slice, which may have a smaller length. Compact zeroes the elements between the new length and the original length. The result preserves the nilness of s.": IT RETURNS THE SLICE CUT TO 'Lib.compact zs'; ITS CELLS HOLD 'Lib.compact zs', THEN ZERO VALUES up to the old length; all else is as it was, but for the count of draws. IN THE WORDS OF slices.Sort's CONTRACT ('Holds', 'putRow'): so the everyday 'slices.Sort(xs); xs = slices.Compact(xs)' goes from the one contract to the other. It asks 'zs.length ≤ cap' (every slice's: the reslicing 's[:k]' looks at it). Length 0, nil: '.._empty'. (LAID: no walk: one application.) -/
theorem Tryd.slices_Compact_int (blk off cap : Nat) (zs : List Int) (w : World) (hH : Holds (Value.int .i64) w blk off zs.toArray) (hsz : zs.length ≤ 9223372036854775807) (hcap : zs.length ≤ cap) :
    Calls Tryd.prog 36 #[.slice (some ⟨blk, off, none⟩) zs.length cap] w fun e w' => e = .returned (.slice (some ⟨blk, off, none⟩) (Lib.compact zs).length cap) ∧ ∃ q, w' = putRow (Value.int .i64) (Sort.ahead w q) blk off (Lib.compact zs ++ List.replicate (zs.length - (Lib.compact zs).length) 0).toArray := Any.slices_Compact_int Tryd.laysNm220 blk off cap zs w hH hsz hcap
end Go.Proofs

/- slices.Sort and slices.Compact at a slice of integers of the call's own; append of a slice of integers to such a one. -/
namespace Go.Proofs.YtdfnmapmnmecnaaDoor
open Go.RowKit

theorem own_parts {w : World} {base : Nat} {v : Value} {xs : List Int} (h : Own w base v xs) (hne : 0 < xs.length) : ∃ g cap cur, v = .slice (some ⟨g, 0, none⟩) xs.length cap ∧ base ≤ g ∧ w.heap[g]? = some (.cells cur 3 (0, 0)) ∧ xs.length ≤ cap ∧ cap ≤ maxLen ∧ cur.size = cap * 1 ∧ cur.toList.take xs.length = xs.map (Value.int .i64) := by
  rcases h.2 with ⟨_, e⟩ | ⟨g, cap, cur, hv, hb, hg, h1, h2, h3, h4⟩
  · omega
  · exact ⟨g, cap, cur, hv, hb, hg, h1, h2, h3, by rw [Nat.mul_one] at h4; exact h4⟩

theorem sort_own {w : World} {base : Nat} {v : Value} {xs : List Int} (h : Own w base v xs) (hne : 0 < xs.length) (hl : xs.length ≤ 1000000) :
    Calls Tryd.prog 34 #[v] w fun e w' => e = .returned (.tuple #[]) ∧ Own w' base v (xs.mergeSort fun x y => decide (x ≤ y)) ∧ w.grownBy w' v.ownBlock := by
  obtain ⟨g, cap, cur, rfl, hb, hg, h1, h2, h3, h4⟩ := own_parts h hne
  refine (Tryd.slices_Sort_int g 0 cap xs w (holds_of_blockI hg h4) (blk_lt hg) (by omega)).mono ?_
  rintro e w' ⟨rfl, n, os, rfl⟩
  refine ⟨rfl, ?_, grownBy_sortedI _⟩
  have := ownsRow_sortedI (w := w) (base := base) (n := n) (os := os) (ss := xs) (ts := xs.mergeSort fun x y => decide (x ≤ y)) (List.length_mergeSort _) hb hg h1 h2 h3
  unfold Own
  rw [List.length_mergeSort]
  exact this

theorem compact_own {w : World} {base : Nat} {v : Value} {xs : List Int} (h : Own w base v xs) (hne : 0 < xs.length) (hl : xs.length ≤ 1000000) :
    Calls Tryd.prog 36 #[v] w fun e w' => ∃ v', e = .returned v' ∧ Own w' base v' (Lib.compact xs) ∧ w.grownBy w' v.ownBlock := by
  obtain ⟨g, cap, cur, rfl, hb, hg, h1, h2, h3, h4⟩ := own_parts h hne
  refine (Tryd.slices_Compact_int g 0 cap xs w (holds_of_blockI hg h4) (by omega) h1).mono ?_
  rintro e w' ⟨rfl, n, rfl⟩
  have hcl := Lib.compact_length_le xs
  have e0 : Sort.putRow (Value.int .i64) (Sort.ahead w n) g 0 (Lib.compact xs ++ List.replicate (xs.length - (Lib.compact xs).length) 0).toArray = Sort.grow (Sort.putRow (Value.int .i64) (Sort.ahead w n) g 0 (Lib.compact xs ++ List.replicate (xs.length - (Lib.compact xs).length) 0).toArray) #[] := by simp
  refine ⟨_, rfl, ?_, by rw [e0]; exact grownBy_sortedI _⟩
  have hlen : (Lib.compact xs ++ List.replicate (xs.length - (Lib.compact xs).length) (0 : Int)).length = xs.length := by simp; omega
  refine ⟨by simp, .inr ⟨g, cap, _, rfl, hb, by rw [e0]; exact heap_sortedI _ hg, by omega, h2, by simp [Sort.putCells, h3], ?_⟩⟩
  have ht := take_putCellsI cur (Lib.compact xs ++ List.replicate (xs.length - (Lib.compact xs).length) (0 : Int)) (by omega)
  rw [hlen] at ht
  have h5 := congrArg (List.take (Lib.compact xs).length) ht
  rw [List.take_take, Nat.min_eq_left hcl] at h5
  rw [Nat.mul_one, h5]
  simp [List.map_append]

theorem wpList_appn {ops : Array Oper} {rest : List Oper} {o : Oper} {a : Act} {Q : Exit → Act → World → Prop} {W : World} (hgd : o.guard = none) (s x : Operand)
    (hop : o.op = .call { callee := .builtin .append, args := #[s, x], argTypes := #[37, 37] }) (base : Nat) (v : Value) (xs us : List Int) (hs : a.eval s = v) (hown : Own W base v xs)
    (A : Option Addr) (cap : Nat) (hx : a.eval x = .slice A us.length cap) (hA : IAt W W.heap.size A us) (hu : 0 < us.length) (hlen : xs.length + us.length ≤ 1000000) (hb : base ≤ W.heap.size)
    (h : ∀ v' w1, Own w1 base v' (xs ++ us) → W.grownBy w1 v.ownBlock → Below base W w1 → wpList Tryd.prog ops Q rest (a.put o.dst v') w1) :
    wpList Tryd.prog ops Q (o :: rest) a W := by
  obtain ⟨i0, hi, hz0, hz1, hz2⟩ := info_parts info_int
  obtain ⟨b, off, rfl, hbW, hc⟩ := hA hu
  refine wpList_append_own _ hgd s x 37 hop base 3 i0 (.int .i64 0) 1 8 Tryd.underlying37 hi hz0 hz1 hz2 rfl (by decide) v xs.length _ hs hown ⟨b, off, none⟩ us.length cap (us.map (Value.int .i64)) hx (by simp)
    (fun j u hj => ?_) (by simp [Value.oneCell']) (by unfold maxLen; omega) (by omega) hb ?_
  · have hj' : j < us.length := by
      have := (List.getElem?_eq_some_iff.1 hj).1
      simpa using this
    have e : u = .int .i64 us[j] := by simpa [hj'] using hj.symm
    subst e
    have hadd : (⟨b, off, none⟩ : Addr).add j = ⟨b, off + j, none⟩ := by unfold Addr.add; split <;> simp_all
    rw [hadd]
    exact hc j hj'
  · intro v' w1 hown1 hgrow _
    refine h v' w1 ?_ hgrow ((Below.refl base W).grown hgrow hb fun k hk => (hown.lt k hk).1)
    unfold Own
    rw [List.length_append, List.map_append]
    exact hown1
theorem own_view {w : World} {base : Nat} {v : Value} {xs : List Int} (h : Own w base v xs) {k : Nat} {cs : Array Value} (hk : w.heap[k]? = some (.cells cs 27 (0, 0))) : v.ownBlock ≠ some k := by
  intro e
  rcases h.2 with ⟨rfl, _⟩ | ⟨g, cap, cur, rfl, _, hg, _⟩
  · cases e
  · have : g = k := by simpa [Value.ownBlock] using e
    subst this
    rw [hg] at hk
    cases hk

theorem eq_own {w : World} {b1 b2 : Nat} {v u : Value} {xs : List Int} (h1 : Own w b1 v xs) (h2 : Own w b2 u xs) (hne : 0 < xs.length) (hl : xs.length ≤ 1000000) :
    Calls Tryd.prog 35 #[v, u] w fun e w' => e = .returned (.bool true) ∧ Below w.heap.size w w' := by
  obtain ⟨b, off, cap, rfl, _, hc⟩ := own_slice h1 hne
  obtain ⟨b', off', cap', rfl, _, hc'⟩ := own_slice h2 hne
  refine (Tryd.slices_Equal_int b off xs.length cap b' off' xs.length cap' xs xs w (Nat.le_refl _) (Nat.le_refl _) (by omega) (by omega) hc hc').mono ?_
  rintro e w' ⟨rfl, q, rfl⟩
  exact ⟨by simp, belN (Below.refl _ _) q⟩
end Go.Proofs.YtdfnmapmnmecnaaDoor

/- law: ViewsGather: answers true for every table and index. -/
namespace Go.Proofs.YtdfnmapmnmecnaaDoor
open Go.RowKit

theorem VAt.allAt {w : World} {B b off : Nat} {vs : List Vw} (h : VAt w B (some ⟨b, off, none⟩) vs) {k : Nat} (hk : k < vs.length) :
    w.cell? ⟨b, off + k * 8, none⟩ = some (.int .i64 vs[k].p) ∧ w.cell? ⟨b, off + k * 8 + 1, none⟩ = some (.int .i64 vs[k].r) ∧
      w.cell? ⟨b, off + k * 8 + 2, none⟩ = some (.int .i64 vs[k].i) ∧ w.cell? ⟨b, off + k * 8 + 3, none⟩ = some (.int .i64 vs[k].h0) ∧ w.cell? ⟨b, off + k * 8 + 4, none⟩ = some (.int .i64 vs[k].h1) ∧
      w.cell? ⟨b, off + k * 8 + 5, none⟩ = some (.int .i64 vs[k].h2) ∧ w.cell? ⟨b, off + k * 8 + 6, none⟩ = some (.int .i64 vs[k].h3) ∧ w.cell? ⟨b, off + k * 8 + 7, none⟩ = some (.int .i64 vs[k].h4) := by
  obtain ⟨b', off', e, _, h0⟩ := h.row k hk
  cases e
  exact h0
theorem zeros_yes {vs : List Vw} {l : List Nat} {q : Nat} (hq : q < l.length) (hr : (getV vs l[q]).r = 0) : zeros vs (l.take (q + 1)) = zeros vs (l.take q) + 1 := by
  unfold zeros
  rw [List.take_succ_eq_append_getElem hq, List.filter_append, List.length_append]
  simp [hr]
theorem zeros_no {vs : List Vw} {l : List Nat} {q : Nat} (hq : q < l.length) (hr : (getV vs l[q]).r ≠ 0) : zeros vs (l.take (q + 1)) = zeros vs (l.take q) := by
  unfold zeros
  rw [List.take_succ_eq_append_getElem hq, List.filter_append, List.length_append]
  simp [hr]
theorem zeros_le (vs : List Vw) (l : List Nat) : zeros vs l ≤ l.length := List.length_filter_le _ _
theorem count_yes {l : List Int} {a : Int} {q : Nat} (hq : q < l.length) (hr : l[q] = a) : (l.take (q + 1)).count a = (l.take q).count a + 1 := by
  rw [List.take_succ_eq_append_getElem hq, List.count_append, hr]
  simp
theorem count_no {l : List Int} {a : Int} {q : Nat} (hq : q < l.length) (hr : l[q] ≠ a) : (l.take (q + 1)).count a = (l.take q).count a := by
  rw [List.take_succ_eq_append_getElem hq, List.count_append]
  simp [hr]
set_option maxRecDepth 100000 in
set_option maxHeartbeats 8000000 in
theorem law_gather (n : Int) (A : Option Addr) (cap : Nat) (vs : List Vw) (i : Int) (w : World) (hA : VAt w w.heap.size A vs) (hc : vs.length ≤ cap) (hm : cap ≤ maxLen) (hl : vs.length ≤ 2199023255552) :
    Calls Tryd.prog 10 #[.agg #[.int .i64 n, .slice A vs.length cap], .int .i64 i] w (RetTrue w) := by
  have HA := Lib.hid hA
  have HC := Lib.hid hc
  have HM := Lib.hid hm
  clear hA hc hm
  go_enter Tryd.func10, Tryd.ntmps10
  go_wp2_with fail
  obtain ⟨W0, hW0, d0, hsz, hB0⟩ := onebox w #[.int .i64 n, .slice A vs.length cap] 24
  rw [hW0]
  clear hW0
  refine (good_any n A cap vs W0 ((HA.out.keep hB0).more hB0.size) HC.out HM.out hl).mono ?_
  rintro e w1 ⟨rfl, hb⟩
  have DT := Lib.hid d0
  have B := Lib.hid hB0
  clear d0 hB0 hsz
  replace DT := Lib.hid ((hb.block _ (blk_lt DT.out)).trans DT.out)
  replace B := Lib.hid (B.out.trans (hb.mono B.out.size))
  clear hb
  have dT := DT.out
  have cT0 := blk_cell dT 0 rfl
  have cT1 := blk_cell dT 1 rfl
  have lT := blk_lt dT
  clear dT
  obtain ⟨gg, hgg⟩ : ∃ gg, goodB n vs = gg := ⟨_, rfl⟩
  rw [hgg]
  have HG := Lib.hid hgg
  clear hgg
  cases gg
  · go_wp2_with fail
    refine (awake_any w1).mono ?_
    rintro e wz ⟨rfl, hbz⟩
    go_wp2_with fail
    go_ret
    exact ⟨rfl, B.out.trans (hbz.mono B.out.size)⟩
  · have hfew := few_len (good_few HG.out)
    have HTA : Hid (TArg w1 A cap vs) := (show TArg w A cap vs from ⟨HA.out, HC.out, HM.out, by omega⟩).keep B.out
    have HWF := Lib.hid (good_wf HG.out)
    clear HA HC HM hl
    by_cases hi0 : i < 0
    · have g1 : decide (i < 0) = true := by simpa using hi0
      clear hi0
      go_wp2_with fail
      refine (awake_any w1).mono ?_
      rintro e wz ⟨rfl, hbz⟩
      go_wp2_with fail
      go_ret
      exact ⟨rfl, B.out.trans (hbz.mono B.out.size)⟩
    · obtain ⟨j, rfl⟩ := Int.eq_ofNat_of_zero_le (show 0 ≤ i by omega)
      clear hi0
      have g1 : decide ((j : Int) < 0) = false := decide_eq_false (by omega)
      by_cases hj : j < vs.length
      · have g2 : decide (vs.length ≤ j) = false := decide_eq_false (by omega)
        have g3 : decide ((j : Int) ≥ (vs.length : Int)) = false := decide_eq_false (by omega)
        obtain ⟨N, rfl⟩ := Int.eq_ofNat_of_zero_le (show 0 ≤ n by have := HWF.out.1; omega)
        have hN5 : N ≤ 5 := by have := HWF.out.2.1; omega
        have hc := vpast_any (N : Int) A cap vs j _ HTA.out
        rw [past_e HG.out hj] at hc
        have HCL := Lib.hid hc
        clear hc
        go_wp2_with fail
        refine HCL.out.mono ?_
        rintro e w2 ⟨vl, rfl, ho, hb⟩
        clear HCL
        replace B := Lib.hid B.out
        have OL : Hid (Own w2 w.heap.size vl (castL (pastL vs [j]))) := ho.low B.out.size
        clear ho g1 g2 g3
        clear cT0 cT1 lT
        replace DT := Lib.hid ((hb.block _ (blk_lt DT.out)).trans DT.out)
        replace B := Lib.hid (B.out.trans (hb.mono B.out.size))
        replace HTA := Lib.hid (HTA.out.keep hb)
        clear hb
        have dT := DT.out
        have cT0 := blk_cell dT 0 rfl
        have cT1 := blk_cell dT 1 rfl
        have lT := blk_lt dT
        clear dT
        have hc := vinputs_any (N : Int) A cap vs j _ HTA.out
        rw [inputs_e HG.out hj] at hc
        have HCL := Lib.hid hc
        clear hc
        go_wp2_with fail
        refine HCL.out.mono ?_
        rintro e w3 ⟨vi, rfl, ho, hb⟩
        clear HCL
        have OI : Hid (Own w3 w.heap.size vi (knows N vs j)) := ho.low B.out.size
        clear ho
        clear cT0 cT1 lT
        replace DT := Lib.hid ((hb.block _ (blk_lt DT.out)).trans DT.out)
        replace B := Lib.hid (B.out.trans (hb.mono B.out.size))
        replace HTA := Lib.hid (HTA.out.keep hb)
        replace OL := Lib.hid (OL.out.below hb (Nat.le_refl _))
        clear hb
        have dT := DT.out
        have cT0 := blk_cell dT 0 rfl
        have cT1 := blk_cell dT 1 rfl
        have lT := blk_lt dT
        clear dT
        obtain ⟨AI, capI, rfl, hlcI, hcmI, hII⟩ := OI.out.form
        have kl : (knows N vs j).length = N := knows_length N vs j
        rw [kl]
        have KL := Lib.hid kl
        clear hII kl hlcI hcmI
        have e1 : ((N : Int) != (N : Int)) = false := by simp
        have x2 : (j : Int) < (vs.length : Int) := by omega
        have x4 : (0 : Int) ≤ (j : Int) := by omega
        obtain ⟨b, off, rfl, hb1, p0, p1, p2, p3, p4, p5, p6, p7⟩ := HTA.out.rows.row j hj
        have HB3 := Lib.hid B.out
        have HT3 := Lib.hid HTA.out
        have HL3 := Lib.hid OL.out
        have HI3 := Lib.hid OI.out
        have HD3 := Lib.hid DT.out
        have lw3 : w.heap.size < w3.heap.size := blk_lt DT.out
        go_wp2_with fail
        obtain ⟨W4, hW4, dw, dv, hs4, hB4⟩ := twoboxes w3 #[.int .i64 (j : Int)] vs[j].cells 3 27
        have hown0 : Own W4 w3.heap.size (.slice (some ⟨w3.heap.size, 0, none⟩) 1 1) (gather vs j 0) := by
          rw [gather_zero, ← hW4]
          exact Own.alloc (show Own (w3.alloc (.cells #[.int .i64 (j : Int)] 3)) w3.heap.size (.slice (some ⟨w3.heap.size, 0, none⟩) 1 1) [(j : Int)] from World.ownsRow_lit w3 _ 1 (Nat.le_refl _) (by unfold maxLen; omega) rfl) _
        unfold Vw.cells at hW4
        rw [hW4]
        have hw4 : Below w3.heap.size w3 W4 := hB4
        clear hW4 cT0 cT1 lT p0 p1 p2 p3 p4 p5 p6 p7 dw hs4 hB4 e1 x2 x4
        have hrj := begE_ok (HWF.out.begv hj)
        rw [getV_eq hj] at hrj
        have hr0 : 0 ≤ vs[j].r := hrj.2.2.1
        have hr6 : vs[j].r ≤ 6 := hrj.2.2.2.1
        clear hrj
        go_loopw [9, 70] (fun v x wr => ∃ q : Nat, q ≤ 5 ∧ x = .int .i64 q ∧ Own wr w3.heap.size v (gather vs j q) ∧ Below w3.heap.size w3 wr ∧ wr.heap[w3.heap.size + 1]? = some (.cells #[.int .i64 vs[j].p, .int .i64 vs[j].r, .int .i64 vs[j].i, .int .i64 vs[j].h0, .int .i64 vs[j].h1, .int .i64 vs[j].h2, .int .i64 vs[j].h3, .int .i64 vs[j].h4] 27 (0, 0))) (fun _ x _ => 5 - (intOf x).toNat)
        case atStart => exact ⟨0, by omega, rfl, hown0, hw4, dv⟩
        case round =>
          clear hown0 hw4 dv
          obtain ⟨q, hq, rfl, how, hbl, hdv⟩ := hrel
          have HBL := Lib.hid hbl
          have OW := Lib.hid how
          have DV := Lib.hid hdv
          replace DT := Lib.hid ((hbl.block _ lw3).trans HD3.out)
          replace B := Lib.hid (HB3.out.trans (hbl.mono HB3.out.size))
          replace HTA := Lib.hid (HT3.out.keep hbl)
          replace OL := Lib.hid (HL3.out.below hbl (Nat.le_refl _))
          replace OI := Lib.hid (HI3.out.below hbl (Nat.le_refl _))
          have lwr := hbl.size
          clear hbl how hdv
          have dT := DT.out
          have cT0 := blk_cell dT 0 rfl
          have cT1 := blk_cell dT 1 rfl
          have lT := blk_lt dT
          clear dT
          have dV := DV.out
          have cV0 := blk_cell dV 0 rfl
          have cV1 := blk_cell dV 1 rfl
          have cV2 := blk_cell dV 2 rfl
          have cV3 := blk_cell dV 3 rfl
          have cV4 := blk_cell dV 4 rfl
          have cV5 := blk_cell dV 5 rfl
          have cV6 := blk_cell dV 6 rfl
          have cV7 := blk_cell dV 7 rfl
          have lV := blk_lt dV
          clear dV
          by_cases hq5 : q < 5
          · have hix : ∀ X : World, (Instr.index 25 (.agg #[.int .i64 vs[j].h0, .int .i64 vs[j].h1, .int .i64 vs[j].h2, .int .i64 vs[j].h3, .int .i64 vs[j].h4]) (.int .i64 (q : Int))).run Tryd.prog X = .ok (.int .i64 (vs[j].h q)) X := fun X => arr_index vs[j] q hq5 X
            obtain ⟨H, hH⟩ : ∃ H, vs[j].h q = H := ⟨_, rfl⟩
            rw [hH] at hix
            have HH := Lib.hid hH
            by_cases hyes : 0 < vs[j].r ∧ 0 ≤ H
            · have hgy := gather_yes (vs := vs) (i := j) (q := q) (by rw [getV_eq hj]; exact hyes.1) (by rw [getV_eq hj, hH]; exact hyes.2)
              rw [getV_eq hj, hH] at hgy
              obtain ⟨c, rfl⟩ := Int.eq_ofNat_of_zero_le hyes.2
              rw [Int.toNat_natCast] at hgy
              have hck : c ∈ kids (getV vs j) := by
                rw [getV_eq hj]
                exact mem_kids.2 ⟨hyes.1, q, hq5, by rw [hH]; omega, by rw [hH]; simp⟩
              have hcj := HWF.out.acyc j hj c hck
              have hcl : c < vs.length := by omega
              have HGY := Lib.hid hgy
              have g1 : decide (vs[j].r > 0) = true := decide_eq_true hyes.1
              have g2 : decide ((c : Int) ≥ 0) = true := decide_eq_true (by omega)
              have hgl := gather_len vs j q
              have hgl2 : (gather vs j q).length ≤ 301 := by
                have : q * vs.length ≤ 5 * 60 := Nat.mul_le_mul hq hfew
                omega
              clear hgy hH hck hgl hcj
              obtain ⟨hyes1, hyes2⟩ := hyes
              have hc := vpast_any (N : Int) _ cap vs c _ HTA.out
              rw [past_e HG.out hcl] at hc
              have HCL := Lib.hid hc
              clear hc
              go_wp2_with fail
              refine HCL.out.mono ?_
              rintro e w5 ⟨vp, rfl, ho, hb⟩
              clear HCL
              have OP : Hid (Own w5 wr.heap.size vp (castL (pastL vs [c]))) := Lib.hid ho
              clear ho
              clear cV0 cV1 cV2 cV3 cV4 cV5 cV6 cV7 lV
              clear cT0 cT1 lT
              replace DT := Lib.hid ((hb.block _ (blk_lt DT.out)).trans DT.out)
              replace DV := Lib.hid ((hb.block _ (blk_lt DV.out)).trans DV.out)
              replace B := Lib.hid (B.out.trans (hb.mono B.out.size))
              replace HBL := Lib.hid (HBL.out.trans (hb.mono HBL.out.size))
              replace HTA := Lib.hid (HTA.out.keep hb)
              replace OL := Lib.hid (OL.out.below hb (Nat.le_refl _))
              replace OI := Lib.hid (OI.out.below hb (Nat.le_refl _))
              replace OW := Lib.hid (OW.out.below hb (Nat.le_refl _))
              clear hb
              have dT := DT.out
              have cT0 := blk_cell dT 0 rfl
              have cT1 := blk_cell dT 1 rfl
              have lT := blk_lt dT
              clear dT
              have dV := DV.out
              have cV0 := blk_cell dV 0 rfl
              have cV1 := blk_cell dV 1 rfl
              have cV2 := blk_cell dV 2 rfl
              have cV3 := blk_cell dV 3 rfl
              have cV4 := blk_cell dV 4 rfl
              have cV5 := blk_cell dV 5 rfl
              have cV6 := blk_cell dV 6 rfl
              have cV7 := blk_cell dV 7 rfl
              have lV := blk_lt dV
              clear dV
              obtain ⟨AP, capP, rfl, hlcP, hcmP, hIP⟩ := OP.out.form
              have HIP := Lib.hid hIP
              have hpp : 0 < (castL (pastL vs [c])).length := by
                have : c ∈ pastL vs [c] := (past_gather HWF.out.acyc hcl).2 (.inl rfl)
                have := List.length_pos_of_mem this
                simpa [castL] using this
              have hpl : (castL (pastL vs [c])).length ≤ 60 := by have := past_len vs [c]; omega
              have hbs : w3.heap.size ≤ w5.heap.size := HBL.out.size
              clear hIP hlcP hcmP
              go_wp2_with (at_builtin; refine wpList_appn rfl _ _ rfl w3.heap.size u9 (gather vs j q) (castL (pastL vs [c])) rfl OW.out AP capP rfl HIP.out hpp (by omega) hbs ?_; intro v' w6 hown6 hg6 hb6; have HO6 := Lib.hid hown6; have HB6 := Lib.hid hb6; have HG6 := Lib.hid hg6; clear hown6 hb6 hg6)
              go_roundw
              case rel => exact ⟨q + 1, by omega, by go_num, by rw [HGY.out]; exact HO6.out, HBL.out.trans HB6.out, grown_heap HG6.out DV.out (own_view OW.out DV.out)⟩
              case measure => simp [intOf]; omega
            · have hgn := gather_no (vs := vs) (i := j) (q := q) (by rw [getV_eq hj, hH]; exact hyes)
              have HGN := Lib.hid hgn
              clear hgn hH
              by_cases hr1 : 0 < vs[j].r
              · have g1 : decide (vs[j].r > 0) = true := decide_eq_true hr1
                have g2 : decide (H ≥ 0) = false := decide_eq_false (by omega)
                clear hyes hr1
                go_wp2_with fail
                go_roundw
                case rel => exact ⟨q + 1, by omega, by go_num, by rw [HGN.out]; exact OW.out, HBL.out, DV.out⟩
                case measure => simp [intOf]; omega
              · have g1 : decide (vs[j].r > 0) = false := decide_eq_false (by omega)
                clear hyes hr1
                go_wp2_with fail
                go_roundw
                case rel => exact ⟨q + 1, by omega, by go_num, by rw [HGN.out]; exact OW.out, HBL.out, DV.out⟩
                case measure => simp [intOf]; omega
          · obtain rfl : q = 5 := by omega
            have hgp : 0 < (gather vs j 5).length := by simp [gather]
            have hgl : (gather vs j 5).length ≤ 1000000 := by have := gather_len vs j 5; omega
            have hc := sort_own OW.out hgp hgl
            have HCL := Lib.hid hc
            clear hc
            go_wp2_with fail
            refine HCL.out.mono ?_
            rintro e w5 ⟨rfl, ho, hg⟩
            clear HCL
            clear cV0 cV1 cV2 cV3 cV4 cV5 cV6 cV7 lV
            clear cT0 cT1 lT
            replace HBL := Lib.hid (HBL.out.grown hg HBL.out.size (fun k hk => (OW.out.lt k hk).1))
            clear OW hg DV
            have OW : Hid (Own w5 w3.heap.size u9 (sorted5 vs j)) := ho
            clear ho
            replace DT := Lib.hid ((HBL.out.block _ lw3).trans HD3.out)
            replace B := Lib.hid (HB3.out.trans (HBL.out.mono HB3.out.size))
            replace HTA := Lib.hid (HT3.out.keep HBL.out)
            replace OL := Lib.hid (HL3.out.below HBL.out (Nat.le_refl _))
            replace OI := Lib.hid (HI3.out.below HBL.out (Nat.le_refl _))
            have dT := DT.out
            have cT0 := blk_cell dT 0 rfl
            have cT1 := blk_cell dT 1 rfl
            have lT := blk_lt dT
            clear dT
            have hsl : 0 < (sorted5 vs j).length := by rw [sorted5_len]; exact hgp
            have hsl2 : (sorted5 vs j).length ≤ 1000000 := by rw [sorted5_len]; exact hgl
            have hc := compact_own OW.out hsl hsl2
            have HCL := Lib.hid hc
            clear hc
            go_wp2_with fail
            refine HCL.out.mono ?_
            rintro e w6 ⟨vc, rfl, ho, hg⟩
            clear HCL
            clear cT0 cT1 lT
            replace HBL := Lib.hid (HBL.out.grown hg HBL.out.size (fun k hk => (OW.out.lt k hk).1))
            clear OW hg
            rw [gather_law HWF.out.acyc hj] at ho
            have OW : Hid (Own w6 w3.heap.size vc (castL (pastL vs [j]))) := ho
            clear ho hgp hgl hsl hsl2
            replace DT := Lib.hid ((HBL.out.block _ lw3).trans HD3.out)
            replace B := Lib.hid (HB3.out.trans (HBL.out.mono HB3.out.size))
            replace HTA := Lib.hid (HT3.out.keep HBL.out)
            replace OL := Lib.hid (HL3.out.below HBL.out (Nat.le_refl _))
            replace OI := Lib.hid (HI3.out.below HBL.out (Nat.le_refl _))
            have dT := DT.out
            have cT0 := blk_cell dT 0 rfl
            have cT1 := blk_cell dT 1 rfl
            have lT := blk_lt dT
            clear dT
            have hpp : 0 < (castL (pastL vs [j])).length := by
              have : j ∈ pastL vs [j] := (past_gather HWF.out.acyc hj).2 (.inl rfl)
              have := List.length_pos_of_mem this
              simpa [castL] using this
            have hpl : (castL (pastL vs [j])).length ≤ 60 := by have := past_len vs [j]; omega
            have hc := eq_own OW.out OL.out hpp (by omega)
            have HCL := Lib.hid hc
            clear hc
            go_wp2_with fail
            refine HCL.out.mono ?_
            rintro e w7 ⟨rfl, hb⟩
            clear HCL
            clear OW
            clear cT0 cT1 lT
            replace DT := Lib.hid ((hb.block _ (blk_lt DT.out)).trans DT.out)
            replace B := Lib.hid (B.out.trans (hb.mono B.out.size))
            replace HBL := Lib.hid (HBL.out.trans (hb.mono HBL.out.size))
            replace HTA := Lib.hid (HTA.out.keep hb)
            replace OL := Lib.hid (OL.out.below hb (Nat.le_refl _))
            replace OI := Lib.hid (OI.out.below hb (Nat.le_refl _))
            clear hb
            have dT := DT.out
            have cT0 := blk_cell dT 0 rfl
            have cT1 := blk_cell dT 1 rfl
            have lT := blk_lt dT
            clear dT
            obtain ⟨AL, capL, rfl, hlcL, hcmL, hIL⟩ := OL.out.form
            obtain ⟨lp, hlp⟩ : ∃ lp, (castL (pastL vs [j])).length = lp := ⟨_, rfl⟩
            rw [hlp] at hpl
            rw [hlp]
            have HLP := Lib.hid hlp
            have HIL := Lib.hid hIL
            clear hlp hlcL hcmL hIL hpp
            have HB7 := Lib.hid B.out
            have HT7 := Lib.hid HTA.out
            have HI7 := Lib.hid OI.out
            have HD7 := Lib.hid DT.out
            have lw7 : w.heap.size < w7.heap.size := blk_lt DT.out
            have lpl : (pastL vs [j]).length = lp := by have := HLP.out; simpa [castL] using this
            have LPL := Lib.hid lpl
            clear lpl
            go_wp2_with fail
            go_loopw [15, 101] (fun c x wr => ∃ q : Nat, q ≤ lp ∧ x = .int .i64 q ∧ c = .int .i64 (zeros vs ((pastL vs [j]).take q) : Nat) ∧ Below w7.heap.size w7 wr) (fun _ x _ => lp - (intOf x).toNat)
            case atStart => exact ⟨0, by omega, rfl, by simp [zeros], Below.refl _ _⟩
            case round =>
              clear cT0 cT1 lT
              obtain ⟨q, hq, rfl, rfl, hbl⟩ := hrel
              have HBM := Lib.hid hbl
              replace DT := Lib.hid ((hbl.block _ lw7).trans HD7.out)
              replace B := Lib.hid (HB7.out.trans (hbl.mono HB7.out.size))
              replace HTA := Lib.hid (HT7.out.keep hbl)
              replace OI := Lib.hid (HI7.out.below hbl (Nat.le_refl _))
              replace HIL := Lib.hid (HIL.out.keep hbl)
              have lwr := hbl.size
              clear hbl
              have hz1 := zeros_le vs ((pastL vs [j]).take q)
              have hz2 : ((pastL vs [j]).take q).length ≤ q := by simp; omega
              have dT := DT.out
              have cT0 := blk_cell dT 0 rfl
              have cT1 := blk_cell dT 1 rfl
              have lT := blk_lt dT
              clear dT
              by_cases hql : q < lp
              · have hq1 : q < (pastL vs [j]).length := by rw [LPL.out]; exact hql
                have hq2 : q < (castL (pastL vs [j])).length := by rw [HLP.out]; exact hql
                obtain ⟨bl, ol, rfl, hbl, y1⟩ := HIL.out.at_ q hq2
                rw [cast_get hq1] at y1
                have hXm : (pastL vs [j])[q] ∈ pastL vs [j] := List.getElem_mem hq1
                have hzy := zeros_yes (vs := vs) hq1
                have hzn := zeros_no (vs := vs) hq1
                obtain ⟨X, hX⟩ : ∃ X, (pastL vs [j])[q] = X := ⟨_, rfl⟩
                rw [hX] at y1 hXm hzy hzn
                have hXl : X < vs.length := (mem_past1.1 hXm).1
                obtain ⟨p0, p1, p2, p3, p4, p5, p6, p7⟩ := HTA.out.rows.allAt hXl
                have HXM := Lib.hid hXm
                have HZY := Lib.hid hzy
                have HZN := Lib.hid hzn
                have x1 : (q : Int) < (lp : Int) := by omega
                have x2 : (X : Int) < (vs.length : Int) := by omega
                have x4 : (0 : Int) ≤ (X : Int) := by omega
                clear hX hXm hzy hzn
                by_cases hr : vs[X].r = 0
                · have HR := Lib.hid hr
                  clear hr
                  go_upto_region 26 with fail
                  obtain ⟨W8, hW8, dv, hs8, hB8⟩ := onebox wr vs[X].cells 27
                  unfold Vw.cells at hW8 dv
                  rw [hW8]
                  have v0 := blk_cell dv 0 rfl
                  have v1 := blk_cell dv 1 rfl
                  have v2 := blk_cell dv 2 rfl
                  have lv : wr.heap.size < W8.heap.size := by omega
                  clear hW8 p0 p1 p2 p3 p4 p5 p6 p7 y1 x1 x2 x4
                  clear dv hs8
                  clear cT0 cT1 lT
                  replace DT := Lib.hid ((hB8.block _ (blk_lt DT.out)).trans DT.out)
                  replace B := Lib.hid (B.out.trans (hB8.mono B.out.size))
                  replace HBM := Lib.hid (HBM.out.trans (hB8.mono HBM.out.size))
                  replace HTA := Lib.hid (HTA.out.keep hB8)
                  replace OI := Lib.hid (OI.out.below hB8 (Nat.le_refl _))
                  clear hB8
                  have dT := DT.out
                  have cT0 := blk_cell dT 0 rfl
                  have cT1 := blk_cell dT 1 rfl
                  have lT := blk_lt dT
                  clear dT
                  have hbg := begE_ok (HWF.out.begv hXl)
                  rw [getV_eq hXl] at hbg
                  obtain ⟨P, hP⟩ := Int.eq_ofNat_of_zero_le hbg.1
                  have hPN : P < N := by have := hbg.2.1; omega
                  have hkh := knows_hit HWF.out hj HXM.out (by rw [getV_eq hXl]; exact HR.out)
                  rw [getV_eq hXl, hP, Int.toNat_natCast] at hkh
                  have hPk : P < (knows N vs j).length := by rw [KL.out]; exact hPN
                  rw [List.getElem?_eq_getElem hPk] at hkh
                  have hkv := Option.some.inj hkh
                  obtain ⟨bi, oi, rfl, hbi, y2⟩ := (IAt.of_own OI.out).at_ P hPk
                  rw [hkv] at y2
                  rw [hP] at v0
                  rw [HR.out] at v1
                  have e2 : (vs[X].i != vs[X].i) = false := by simp
                  have x1 : (P : Int) < (N : Int) := by omega
                  have x2 : (0 : Int) ≤ (P : Int) := by omega
                  clear hbg hP hkh hkv hPk hPN
                  go_upto_region 28 with fail
                  go_region_held3 (fun w' => w'.cell? ⟨wr.heap.size, 0, none⟩ = some (.int .i64 (P : Int)) ∧ w'.cell? ⟨wr.heap.size, 2, none⟩ = some (.int .i64 vs[X].i) ∧ w'.cell? ⟨bi, oi + P, none⟩ = some (.int .i64 vs[X].i))
                    (exact ⟨v0, v2, y2⟩)
                    (fail)
                  rename_i hjunk
                  clear hjunk
                  go_wp2_with fail
                  go_roundw
                  case rel => exact ⟨q + 1, by omega, by go_num, by rw [HZY.out (by rw [getV_eq hXl]; exact HR.out)]; go_num, HBM.out.drew⟩
                  case measure => simp [intOf]; omega
                · have HR := Lib.hid hr
                  have e1 : (vs[X].r == 0) = false := by simpa using hr
                  clear hr
                  go_upto_region 26 with fail
                  obtain ⟨W8, hW8, dv, hs8, hB8⟩ := onebox wr vs[X].cells 27
                  unfold Vw.cells at hW8 dv
                  rw [hW8]
                  have v0 := blk_cell dv 0 rfl
                  have v1 := blk_cell dv 1 rfl
                  have v2 := blk_cell dv 2 rfl
                  have lv : wr.heap.size < W8.heap.size := by omega
                  clear hW8 p0 p1 p2 p3 p4 p5 p6 p7 y1 x1 x2 x4
                  clear dv hs8
                  clear cT0 cT1 lT
                  replace DT := Lib.hid ((hB8.block _ (blk_lt DT.out)).trans DT.out)
                  replace B := Lib.hid (B.out.trans (hB8.mono B.out.size))
                  replace HBM := Lib.hid (HBM.out.trans (hB8.mono HBM.out.size))
                  replace HTA := Lib.hid (HTA.out.keep hB8)
                  replace OI := Lib.hid (OI.out.below hB8 (Nat.le_refl _))
                  clear hB8
                  have dT := DT.out
                  have cT0 := blk_cell dT 0 rfl
                  have cT1 := blk_cell dT 1 rfl
                  have lT := blk_lt dT
                  clear dT
                  go_wp2_with fail
                  go_roundw
                  case rel => exact ⟨q + 1, by omega, by go_num, by rw [HZN.out (by rw [getV_eq hXl]; exact HR.out)], HBM.out⟩
                  case measure => simp [intOf]; omega
              · obtain rfl : q = lp := by omega
                have htk : (pastL vs [j]).take q = pastL vs [j] := List.take_of_length_le (by rw [LPL.out]; exact Nat.le_refl _)
                have hkc := knows_count HWF.out hj
                rw [htk] at hz1
                rw [htk]
                obtain ⟨Z, hZ⟩ : ∃ Z, zeros vs (pastL vs [j]) = Z := ⟨_, rfl⟩
                rw [hZ] at hkc hz1
                rw [hZ]
                have HKC := Lib.hid hkc
                have hz3 : Z ≤ 60 := by rw [LPL.out] at hz1; omega
                have HII := Lib.hid (IAt.of_own OI.out)
                clear htk hkc hZ hz1 hz2
                go_wp2_with fail
                go_loop [15, 126] (fun c x => ∃ q : Nat, q ≤ N ∧ x = .int .i64 q ∧ c = .int .i64 ((Z + ((knows N vs j).take q).count (-1) : Nat) : Int)) (fun _ x => N - (intOf x).toNat)
                case atStart => exact ⟨0, by omega, rfl, by simp⟩
                case round =>
                  obtain ⟨p, hp, rfl, rfl⟩ := hrel
                  have hcl : ((knows N vs j).take p).count (-1) ≤ p := by have := List.count_le_length (a := (-1 : Int)) (l := (knows N vs j).take p); simp at this; omega
                  by_cases hpl : p < N
                  · have hp1 : p < (knows N vs j).length := by rw [KL.out]; exact hpl
                    obtain ⟨bq, oq, rfl, hbq, y1⟩ := HII.out.at_ p hp1
                    have xq1 : (p : Int) < (N : Int) := by omega
                    have hcy := count_yes (a := -1) hp1
                    have hcn := count_no (a := -1) hp1
                    obtain ⟨X, hX⟩ : ∃ X, (knows N vs j)[p] = X := ⟨_, rfl⟩
                    rw [hX] at y1 hcy hcn
                    obtain ⟨C, hC⟩ : ∃ C, ((knows N vs j).take p).count (-1) = C := ⟨_, rfl⟩
                    rw [hC] at hcy hcn hcl
                    rw [hC]
                    have HCY := Lib.hid hcy
                    have HCN := Lib.hid hcn
                    clear hcy hcn hX hC
                    by_cases hm1 : X = -1
                    · subst hm1
                      have z1 : ((-1 : Int) == -1) = true := by decide
                      go_wp2_with fail
                      go_round
                      case rel => exact ⟨p + 1, by omega, by go_num, by rw [HCY.out rfl]; go_num⟩
                      case measure => simp [intOf]; omega
                    · have z1 : (X == -1) = false := by simpa using hm1
                      have HM1 := Lib.hid hm1
                      clear hm1
                      go_wp2_with fail
                      go_round
                      case rel => exact ⟨p + 1, by omega, by go_num, by rw [HCN.out HM1.out]⟩
                      case measure => simp [intOf]; omega
                  · obtain rfl : p = N := by omega
                    have hall : (knows p vs j).take p = knows p vs j := List.take_of_length_le (by rw [KL.out]; exact Nat.le_refl _)
                    rw [hall]
                    have hsum : Z + (knows p vs j).count (-1) = p := by have := HKC.out; omega
                    rw [hsum]
                    have e1 : ((p : Int) == (p : Int)) = true := by simp
                    clear hall hsum hcl
                    go_wp2_with fail
                    refine (awake_any wr).mono ?_
                    rintro e wz ⟨rfl, hbz⟩
                    go_wp2_with fail
                    go_ret
                    exact ⟨rfl, B.out.trans (hbz.mono B.out.size)⟩
      · have g2 : decide (vs.length ≤ j) = true := decide_eq_true (by omega)
        have g3 : decide ((j : Int) ≥ (vs.length : Int)) = true := decide_eq_true (by omega)
        clear hj
        go_wp2_with fail
        refine (awake_any w1).mono ?_
        rintro e wz ⟨rfl, hbz⟩
        go_wp2_with fail
        go_ret
        exact ⟨rfl, B.out.trans (hbz.mono B.out.size)⟩
end Go.Proofs.YtdfnmapmnmecnaaDoor
