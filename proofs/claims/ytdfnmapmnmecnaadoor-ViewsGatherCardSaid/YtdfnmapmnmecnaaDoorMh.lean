/- Part Ex. Part Example. Part Build. Part Write. Part VText. Part Pasts. Part ExFacts. Part RAdd. What each part says stands at its head; no part has a condition beyond its own statements. -/
import Derived.Test.YtdfnmapmnmecnaaDoorProg
import Derived.Test.YtdfnmapmnmecnaaDoorMg
import Derived.Laws.CopyOwn
import Derived.Laws.Rows
import Derived.StillTactics
import Derived.Test.YtdfnmapmnmecnaaDoorMa
import Derived.Test.YtdfnmapmnmecnaaDoorMb
import Derived.Lib.FrozenHead2
import Derived.Lib.OthersKept
import Derived.Lib.Builder
import Derived.Lib.AppendStr
import Derived.Laws.Externs
import Derived.Shelf.Strings.BuilderK
import Derived.Test.YtdfnmapmnmecnaaDoorMf
import Derived.Test.YtdfnmapmnmecnaaDoorMd
import Derived.StillTailTactics
import Derived.Deep.QuietTactic
import Derived.BigQuiet

/- law: heard, example. -/
namespace Go.Proofs.YtdfnmapmnmecnaaDoor
open Go.RowKit

def heardOf : List Int → Value
  | [] => .agg #[.int .i64 (-1), .int .i64 (-1), .int .i64 (-1), .int .i64 (-1), .int .i64 (-1)]
  | [x] => .agg #[.int .i64 x, .int .i64 (-1), .int .i64 (-1), .int .i64 (-1), .int .i64 (-1)]
  | x :: y :: _ => .agg #[.int .i64 x, .int .i64 y, .int .i64 (-1), .int .i64 (-1), .int .i64 (-1)]

theorem size_int' : (Tryd.prog.info? 3).map (·.size) = some 1 := by kernel_rfl

def five : List Value := [.int .i64 (-1), .int .i64 (-1), .int .i64 (-1), .int .i64 (-1), .int .i64 (-1)]
theorem heardOf_cells (l : List Int) (hl : l.length ≤ 2) : heardOf l = .agg (splice five 0 (l.map (Value.int .i64))).toArray := by
  match l, hl with
  | [], _ => rfl
  | [x], _ => rfl
  | [x, y], _ => rfl

set_option maxRecDepth 100000 in
set_option maxHeartbeats 2000000 in
theorem lheard_any (l : List Int) (hl : l.length ≤ 2) (A : Option Addr) (cap : Nat) (w : World) (hA : IAt w w.heap.size A l) :
    Calls Tryd.prog 38 #[.slice A l.length cap] w fun e w' => e = .returned (heardOf l) ∧ Below w.heap.size w w' := by
  have HL := Lib.hid (heardOf_cells l hl)
  have HA := Lib.hid hA
  clear hA
  go_enter Tryd.func38, Tryd.ntmps38
  have HW := Lib.hid (twoboxes w #[.int .i64 0, .int .i64 0, .int .i64 0, .int .i64 0, .int .i64 0] #[.int .i64 (-1), .int .i64 (-1), .int .i64 (-1), .int .i64 (-1), .int .i64 (-1)] 25 25)
  obtain ⟨W0, hW0, b0, b1, hsz, hB0⟩ := HW.out
  have B0 := Lib.hid b0
  have B1 := Lib.hid b1
  have HB := Lib.hid hB0
  have HS := Lib.hid hsz
  have HW0 := Lib.hid hW0
  clear b0 b1 hB0 hsz HW hW0
  have hsrc : ∀ j u, (l.map (Value.int .i64))[j]? = some u → ∃ ad, A = some ad ∧ W0.cell? (ad.add j) = some u := by
    intro j u hj
    obtain ⟨x, hx, rfl⟩ : ∃ x, l[j]? = some x ∧ Value.int .i64 x = u := by simpa using hj
    obtain ⟨hjl, rfl⟩ := List.getElem?_eq_some_iff.1 hx
    obtain ⟨b, off, rfl, hb, hc⟩ := HA.out.at_ j hjl
    refine ⟨_, rfl, ?_⟩
    rw [Addr.add_lit]
    exact (HB.out.cell (p := ⟨b, off + j, none⟩) hb).trans hc
  have HSRC := Lib.hid hsrc
  clear hsrc
  have hq1 : 0 < (l.map (Value.int .i64)).length → (some (⟨w.heap.size + 1, 0, none⟩ : Addr)) = some ⟨w.heap.size + 1, 0, none⟩ ∧ ∃ ad, A = some ad ∧ ∀ j v, (l.map (Value.int .i64))[j]? = some v → W0.cell? (ad.add j) = some v := by
    intro hpos
    rw [List.length_map] at hpos
    refine ⟨rfl, ?_⟩
    obtain ⟨b, off, rfl, hb, hc⟩ := HA.out.at_ 0 hpos
    exact ⟨_, rfl, fun j v hj => by obtain ⟨ad, e, h⟩ := HSRC.out j v hj; cases e; exact h⟩
  have hn1 : (l.map (Value.int .i64)).length = Nat.min l.length 5 := by rw [List.length_map]; exact (Nat.min_eq_left (by omega)).symm
  have hfit : 0 + (l.map (Value.int .i64)).length ≤ five.length := by rw [List.length_map]; show 0 + l.length ≤ 5; omega
  have hone : ∀ v ∈ l.map (Value.int .i64), v.oneCell' = true := by intro v hv; obtain ⟨x, _, rfl⟩ := List.mem_map.1 hv; rfl
  have Q1 := Lib.hid hq1
  have Q2 := Lib.hid hn1
  have Q3 := Lib.hid hfit
  have Q4 := Lib.hid hone
  clear hq1 hn1 hfit hone
  obtain ⟨x0, x1, x2, x3, x4, hu⟩ : ∃ x0 x1 x2 x3 x4 : Int, splice five 0 (l.map (Value.int .i64)) = [.int .i64 x0, .int .i64 x1, .int .i64 x2, .int .i64 x3, .int .i64 x4] := by
    match l, hl with
    | [], _ => exact ⟨_, _, _, _, _, rfl⟩
    | [x], _ => exact ⟨_, _, _, _, _, rfl⟩
    | [x, y], _ => exact ⟨_, _, _, _, _, rfl⟩
  have HU := Lib.hid hu
  clear hu
  go_upto_region 2 with fail
  rw [HW0.out]
  go_wp2_with ((refine wpList_copy_splice rfl (.tmp 5) (.tmp 6) 37 37 rfl 3 Tryd.underlying37 size_int' (some ⟨w.heap.size + 1, 0, none⟩) A 5 5 l.length cap rfl rfl (w.heap.size + 1) 0 five 25 B1.out (l.map (Value.int .i64)) Q2.out Q1.out Q3.out Q4.out (w.heap.size + 1) W0 (Below.refl _ _) (Nat.le_refl _) ?_); intro w2 hr2 hb2; have hr3 : w2.heap[w.heap.size + 1]? = some (.cells #[.int .i64 x0, .int .i64 x1, .int .i64 x2, .int .i64 x3, .int .i64 x4] 25 (0, 0)) := hr2.out.trans (by rw [HU.out]); have y0 : w2.cell? ⟨w.heap.size + 1, 0, none⟩ = some (.int .i64 x0) := blk_cell hr3 0 rfl; have y1 : w2.cell? ⟨w.heap.size + 1, 1, none⟩ = some (.int .i64 x1) := blk_cell hr3 1 rfl; have y2 : w2.cell? ⟨w.heap.size + 1, 2, none⟩ = some (.int .i64 x2) := blk_cell hr3 2 rfl; have y3 : w2.cell? ⟨w.heap.size + 1, 3, none⟩ = some (.int .i64 x3) := blk_cell hr3 3 rfl; have y4 : w2.cell? ⟨w.heap.size + 1, 4, none⟩ = some (.int .i64 x4) := blk_cell hr3 4 rfl; have hr4 := (hb2.block w.heap.size (by omega)).trans B0.out; have z0 := blk_cell hr4 0 rfl; have z1 := blk_cell hr4 1 rfl; have z2 := blk_cell hr4 2 rfl; have z3 := blk_cell hr4 3 rfl; have z4 := blk_cell hr4 4 rfl; have f0 := blk_froz hr4 0; have f1 := blk_froz hr4 1; have f2 := blk_froz hr4 2; have f3 := blk_froz hr4 3; have f4 := blk_froz hr4 4; have HB2 := Lib.hid hb2; clear hr2 hr3 hr4 hb2)
  have hbs : Below w.heap.size w w2 := HB.out.trans (HB2.out.mono (by omega))
  have he : heardOf l = .agg #[.int .i64 x0, .int .i64 x1, .int .i64 x2, .int .i64 x3, .int .i64 x4] := by rw [HL.out, HU.out]
  exact bodyPost_ret (v := .agg #[.int .i64 x0, .int .i64 x1, .int .i64 x2, .int .i64 x3, .int .i64 x4]) (by simp [results, Tryd.results38, go_sem, z0, z1, z2, z3, z4]) rfl ⟨by rw [he], by repeat (first | exact hbs | refine Below.setCell ?_ (by simp) _)⟩
end Go.Proofs.YtdfnmapmnmecnaaDoor

/- law: example. -/
namespace Go.Proofs.YtdfnmapmnmecnaaDoor
open Go.RowKit

def exV : List Vw := [⟨0, 0, 1, -1, -1, -1, -1, -1⟩, ⟨1, 0, 0, -1, -1, -1, -1, -1⟩, ⟨0, 1, 0, 0, 1, -1, -1, -1⟩, ⟨1, 1, 0, -1, 1, -1, -1, -1⟩]

theorem lheard0 (w : World) : Calls Tryd.prog 38 #[.slice none 0 0] w fun e w' => e = .returned (.agg #[.int .i64 (-1), .int .i64 (-1), .int .i64 (-1), .int .i64 (-1), .int .i64 (-1)]) ∧ Below w.heap.size w w' :=
  lheard_any [] (by simp) none 0 w (IAt.nil _ _ _)
theorem lheard1 (x : Int) (w : World) : Calls Tryd.prog 38 #[.slice (some ⟨w.heap.size, 0, none⟩) 1 1] (w.alloc (.cells #[.int .i64 x] 3)) fun e w' =>
    e = .returned (.agg #[.int .i64 x, .int .i64 (-1), .int .i64 (-1), .int .i64 (-1), .int .i64 (-1)]) ∧ Below w.heap.size w w' :=
  (lheard_any [x] (by simp) _ 1 _ (IAt.box w x 3)).mono fun _ _ h => ⟨h.1, (bel1 w _).trans (h.2.mono (by simp))⟩
theorem lheard2 (x y : Int) (w : World) : Calls Tryd.prog 38 #[.slice (some ⟨w.heap.size, 0, none⟩) 2 2] (w.alloc (.cells #[.int .i64 x, .int .i64 y] 3)) fun e w' =>
    e = .returned (.agg #[.int .i64 x, .int .i64 y, .int .i64 (-1), .int .i64 (-1), .int .i64 (-1)]) ∧ Below w.heap.size w w' :=
  (lheard_any [x, y] (by simp) _ 2 _ (IAt.box2 w x y 3)).mono fun _ _ h => ⟨h.1, (bel1 w _).trans (h.2.mono (by simp))⟩

/-- A call that returns a table of 2 processes of its own. -/
def RetEx (vs : List Vw) (w : World) (e : Ending) (w' : World) : Prop := ∃ A cap, e = .returned (.agg #[.int .i64 2, .slice A vs.length cap]) ∧ OwnV w' w.heap.size (.slice A vs.length cap) vs ∧ Below w.heap.size w w'

set_option maxRecDepth 100000 in
set_option maxHeartbeats 2000000 in
theorem example_any (w : World) : Calls Tryd.prog 37 #[] w (RetEx exV w) := by
  go_enter Tryd.func37, Tryd.ntmps37
  go_wp2_with fail
  obtain ⟨W0, hW0, b0, hsz, hB0⟩ := onebox w #[.int .i64 0, .slice none 0 0] 24
  rw [hW0]
  have H0 := Lib.hid b0
  have HB0 := Lib.hid hB0
  have HS := Lib.hid hsz
  clear b0 hB0 hsz hW0
  refine (lheard0 W0).mono ?_
  rintro e w1 ⟨rfl, hb1⟩
  have HB1 := Lib.hid hb1
  clear hb1
  go_wp2_with fail
  refine (lheard0 w1).mono ?_
  rintro e w2 ⟨rfl, hb2⟩
  have HB2 := Lib.hid hb2
  clear hb2
  go_wp2_with fail
  refine (lheard2 0 1 w2).mono ?_
  rintro e w3 ⟨rfl, hb3⟩
  have HB3 := Lib.hid hb3
  clear hb3
  go_wp2_with fail
  refine (lheard2 (-1) 1 w3).mono ?_
  rintro e w4 ⟨rfl, hb4⟩
  have B4 : Hid (Below w.heap.size w w4) := HB0.out.trans ((HB1.out.trans ((HB2.out.trans ((HB3.out.trans (hb4.mono HB3.out.size)).mono HB2.out.size)).mono HB1.out.size)).mono (by have := HS.out; omega))
  have BB : Hid (Below W0.heap.size W0 w4) := HB1.out.trans ((HB2.out.trans ((HB3.out.trans (hb4.mono HB3.out.size)).mono HB2.out.size)).mono HB1.out.size)
  have d0 := (BB.out.block w.heap.size (by have := HS.out; omega)).trans H0.out
  have r0 := blk_cell d0 0 rfl
  have r1 := blk_cell d0 1 rfl
  have f0 := blk_froz d0 0
  have f1 := blk_froz d0 1
  have lw : w.heap.size < w4.heap.size := by have := BB.out.size; have := HS.out; omega
  clear hb4 d0
  go_wp2_with fail
  obtain ⟨W5, hW5⟩ : ∃ W5, (w4.setCell ⟨w.heap.size, 0, none⟩ (Value.int .i64 2)).setCell ⟨w.heap.size, 1, none⟩ (Value.slice (some ⟨w4.heap.size, 0, none⟩) 4 4) = W5 := ⟨_, rfl⟩
  have hs5 : W5.heap.size = w4.heap.size := by rw [← hW5]; simp
  have hb5 : Below w.heap.size w W5 := by rw [← hW5]; exact (B4.out.setCell (by simp) _).setCell (by simp) _
  have z0 : W5.cell? ⟨w.heap.size, 0, none⟩ = some (.int .i64 2) := by rw [← hW5]; simp [go_sem, r0]
  have z1 : W5.cell? ⟨w.heap.size, 1, none⟩ = some (.slice (some ⟨w4.heap.size, 0, none⟩) 4 4) := by rw [← hW5]; simp [go_sem, r1]
  rw [hW5]
  have hown : OwnV (W5.alloc (.cells (vcells exV).toArray 27)) w.heap.size (.slice (some ⟨w4.heap.size, 0, none⟩) 4 4) exV := by
    rw [← hs5]
    exact World.ownsRow_lit W5 _ 4 hb5.size (by unfold maxLen; omega) rfl
  have lw5 : w.heap.size < W5.heap.size := by omega
  exact bodyPost_ret (v := .agg #[.int .i64 2, .slice (some ⟨w4.heap.size, 0, none⟩) 4 4]) (by simp [results, Tryd.results37, go_sem, z0, z1, lw5]) rfl ⟨_, _, rfl, hown, hb5.alloc hb5.size _⟩
end Go.Proofs.YtdfnmapmnmecnaaDoor

/- strings.Builder at this dump: copyCheck, WriteString; what every step keeps: all blocks but the builder's and the rows of bytes. -/
namespace Go.Proofs.YtdfnmapmnmecnaaDoor
open Go.RowKit

theorem size_builder : (Tryd.prog.info? 85).map (·.size) = some 2 := by kernel_rfl
theorem info_byte : (Tryd.prog.info? 5).map (fun i => (i.zero, i.size, i.bytes)) = some (some (.int .u8 0), 1, 1) := by kernel_rfl
theorem lies_builder : liesAt Tryd.prog Tryd.prog.depth 85 (2 / Tryd.prog.cellsOf 85) 0 85 1 = true := by kernel_rfl

/-- A builder in block b, whether used or not, that holds the bytes l. -/
def BldAt (B b : Nat) (l : List UInt8) (w : World) : Prop := Lib.IsBuilderF 85 5 B b (Lib.byteCells l) w
/-- What its calls keep. -/
def Kept (b : Nat) (w w' : World) : Prop := Lib.OthersKept 5 (some b) w w'

set_option maxHeartbeats 1000000 in
set_option maxRecDepth 100000 in
theorem bcopy_used (b : Nat) (w : World) (h0 : w.cell? ⟨b, 0, none⟩ = some (.pointer (some ⟨b, 0, none⟩))) :
    Calls Tryd.prog 89 #[.pointer (some ⟨b, 0, none⟩)] w fun e w' => e = .returned (.tuple #[]) ∧ w' = w := by
  obtain ⟨j, hj, _⟩ := Option.map_eq_some_iff.1 size_builder
  go_enter Tryd.func89, Tryd.ntmps89
  go_wp2
  rw [Lib.run_neq_ptr_same w _ Tryd.underlying82 hj]
  go_wp2
  go_end0
  exact ⟨rfl, rfl⟩

set_option maxHeartbeats 1000000 in
set_option maxRecDepth 100000 in
theorem bcopy_fresh (b : Nat) (w : World) (h0 : w.cell? ⟨b, 0, none⟩ = some (.pointer none)) (hsh : w.shape? b = some (85, 2)) (hfz : w.frozen? ⟨b, 0, none⟩ = false) :
    Calls Tryd.prog 89 #[.pointer (some ⟨b, 0, none⟩)] w fun e w' => e = .returned (.tuple #[]) ∧ w' = w.setCell ⟨b, 0, none⟩ (.pointer (some ⟨b, 0, none⟩)) := by
  obtain ⟨j, hj, hjs⟩ := Option.map_eq_some_iff.1 size_builder
  go_enter Tryd.func89, Tryd.ntmps89
  go_wp2
  rw [Lib.run_to_unsafe w ⟨b, 0, none⟩ Tryd.underlying82 Tryd.underlying141 hj (by rw [hjs]; decide) hsh (Nat.zero_lt_succ 1)]
  simp only [Result.andThen]
  rw [Oper.upon_value]
  go_wp2
  rw [run_callFunc_extern Tryd.func97 (by kernel_rfl) (by kernel_rfl) (by kernel_rfl) (e := Extern.AbiNoEscape.same) (by kernel_rfl)]
  rw [Lib.run_noEscape]
  simp only [Result.andThen]
  rw [Oper.upon_value]
  go_wp2
  rw [Lib.run_from_unsafe w ⟨b, 0, none⟩ Tryd.underlying141 Tryd.underlying82 hj hsh lies_builder]
  simp only [Result.andThen]
  rw [Oper.upon_value]
  go_wp2
  go_end0
  exact ⟨rfl, rfl⟩

theorem bcopy_any (B b : Nat) (bs : List Value) (w : World) (h : Lib.IsBuilderF 85 5 B b bs w) :
    Calls Tryd.prog 89 #[.pointer (some ⟨b, 0, none⟩)] w fun e w' => e = .returned (.tuple #[]) ∧ (Lib.BuilderAtF 85 5 B b (.pointer (some ⟨b, 0, none⟩)) bs w' ∧ Below B w w' ∧ Lib.OthersKept 5 (some b) w w') := by
  rcases h with h | h
  · refine (bcopy_fresh b w h.cell0 h.shape h.frozen0).mono ?_
    rintro e w' ⟨rfl, rfl⟩
    exact ⟨rfl, h.used _, (Below.refl B w).setCell (p := ⟨b, 0, none⟩) h.1 _, (Lib.OthersKept.refl _ _ w).setCell ⟨b, 0, none⟩ rfl _⟩
  · refine (bcopy_used b w h.cell0).mono ?_
    rintro e w' ⟨rfl, rfl⟩
    exact ⟨rfl, h, Below.refl B _, Lib.OthersKept.refl _ _ _⟩

set_option maxHeartbeats 2000000 in
set_option maxRecDepth 100000 in
theorem bwrite_any (B b : Nat) (l : List UInt8) (s : ByteArray) (w : World) (h : BldAt B b l w) (hlen : l.length + s.size ≤ 140737488355328) (hBw : B ≤ w.heap.size) :
    Calls Tryd.prog 72 #[.pointer (some ⟨b, 0, none⟩), .string s] w fun e w' => e = .returned (.tuple #[.int .i64 s.size, .nilIface]) ∧ BldAt B b (l ++ s.data.toList) w' ∧ Below B w w' ∧ Kept b w w' := by
  obtain ⟨i0, hi, hz0, hz1, hz2⟩ := info_parts info_byte
  have hll : (Lib.byteCells l).length = l.length := by simp [Lib.byteCells]
  have HLL := Lib.hid hll
  clear hll
  unfold BldAt at h
  have HB := Lib.hid h
  clear h
  go_enter Tryd.func72, Tryd.ntmps72
  go_wp2_with (go_at_call 89; refine (bcopy_any B b _ _ HB.out).mono ?_)
  rintro e w1 ⟨rfl, h1, hb1, hk1⟩
  obtain ⟨hB, v, hbk, hown, hne⟩ := h1
  have c0 : w1.cell? ⟨b, 0, none⟩ = some (.pointer (some ⟨b, 0, none⟩)) := by rw [Lib.cell_of_heap hbk]; rfl
  have c1 : w1.cell? ⟨b, 1, none⟩ = some v := by rw [Lib.cell_of_heap hbk]; rfl
  go_wp2_with (at_builtin; refine Lib.wpList_append_own_stringF _ rfl _ _ 83 9 rfl B 5 i0 Tryd.underlying83 Tryd.underlying9 hi hz0 hz1 hz2 _ _ _ rfl hown s rfl ?c3 ?c4 ?c5 ?_)
  case c3 => rw [HLL.out]; unfold maxLen; omega
  case c4 => rw [HLL.out]; omega
  case c5 => have := hb1.size; omega
  intro v' w2 hown' hgrow _
  have hlt : b < w1.heap.size := by
    rcases Nat.lt_or_ge b w1.heap.size with h' | h'
    · exact h'
    · simp [Array.getElem?_eq_none h'] at hbk
  have hb2 : w2.heap[b]? = some (.cells #[.pointer (some ⟨b, 0, none⟩), v] 85 (0, 0)) := by
    rw [hgrow.block b hlt (fun e => hne e.symm)]
    exact hbk
  have d0 : w2.cell? ⟨b, 0, none⟩ = some (.pointer (some ⟨b, 0, none⟩)) := by rw [Lib.cell_of_heap hb2]; rfl
  have d1 : w2.cell? ⟨b, 1, none⟩ = some v := by rw [Lib.cell_of_heap hb2]; rfl
  have f1 : w2.frozen? ⟨b, 1, none⟩ = false := Lib.frozen_of_heap hb2 1
  obtain ⟨ao, n', cap, rfl⟩ : ∃ ao n' cap, v' = .slice ao n' cap := by
    rcases hown'.2 with ⟨hv, _⟩ | ⟨g, cap, cur, fz, hv, _⟩
    · exact ⟨_, _, _, hv⟩
    · exact ⟨_, _, _, hv⟩
  go_wp2
  go_ret2
  refine ⟨rfl, ?_, ?_, (hk1.grown hgrow (Lib.ownsRowF_kind hown)).setCell ⟨b, 1, none⟩ rfl _⟩
  · have e : Lib.byteCells (l ++ s.data.toList) = Lib.byteCells l ++ Lib.strCells s := by simp [Lib.byteCells, Lib.strCells]
    unfold BldAt
    rw [e]
    exact Or.inr (Lib.BuilderAtF.put (T := 85) (e := 5) hB hb2 (bs' := Lib.byteCells l ++ Lib.strCells s) (by simpa [Lib.strCells_length] using hown') (by decide))
  · exact (hb1.grown hgrow (by have := hb1.size; omega) (fun k hk => (hown.lt k hk).1)).setCell (p := ⟨b, 1, none⟩) hB _

/-- The same, the number of bytes a letter. -/
theorem bwrite_ex (B b : Nat) (l : List UInt8) (s : ByteArray) (w : World) (h : BldAt B b l w) (hlen : l.length + s.size ≤ 140737488355328) (hBw : B ≤ w.heap.size) :
    Calls Tryd.prog 72 #[.pointer (some ⟨b, 0, none⟩), .string s] w fun e w' => ∃ k : Int, e = .returned (.tuple #[.int .i64 k, .nilIface]) ∧ BldAt B b (l ++ s.data.toList) w' ∧ Below B w w' ∧ Kept b w w' :=
  (bwrite_any B b l s w h hlen hBw).mono fun _ _ h => ⟨_, h⟩

theorem BldAt.fresh (w : World) : BldAt w.heap.size w.heap.size [] (w.alloc (.cells #[.pointer none, .slice none 0 0] 85)) :=
  Or.inl ⟨Nat.le_refl _, .slice none 0 0, blk_new _ _, ⟨rfl, Or.inl ⟨rfl, rfl⟩⟩, by simp [Value.ownBlock]⟩
theorem BldAt.same {B b : Nat} {l : List UInt8} {w w' : World} (h : BldAt B b l w) (hs : ∀ (k : Nat) (o : Obj), w.heap[k]? = some o → o.isCells = true → w'.heap[k]? = some o) : BldAt B b l w' := by
  have key : ∀ p, Lib.BuilderAtF 85 5 B b p (Lib.byteCells l) w → Lib.BuilderAtF 85 5 B b p (Lib.byteCells l) w' := by
    rintro p ⟨hB, v, hb, ⟨hl, ho⟩, hne⟩
    refine ⟨hB, v, hs _ _ hb rfl, ⟨hl, ?_⟩, hne⟩
    rcases ho with ho | ⟨g, cap, cur, fz, hv, h1, h2, h3⟩
    · exact Or.inl ho
    · exact Or.inr ⟨g, cap, cur, fz, hv, h1, hs _ _ h2 rfl, h3⟩
  exact h.elim (fun h => Or.inl (key _ h)) (fun h => Or.inr (key _ h))
theorem BldAt.lt {B b : Nat} {l : List UInt8} {w : World} (h : BldAt B b l w) : B ≤ b ∧ b < w.heap.size := by
  rcases h with h | h <;> exact ⟨h.1, h.lt⟩
theorem BldAt.alloc {B b : Nat} {l : List UInt8} {w : World} (h : BldAt B b l w) (o : Obj) : BldAt B b l (w.alloc o) := h.same fun _ _ hk _ => blk_old hk o
theorem BldAt.drew {B b : Nat} {l : List UInt8} {w : World} (h : BldAt B b l w) : BldAt B b l w.drew := h
/-- Another cell of the call's own is written. -/
theorem BldAt.set {B b g : Nat} {l : List UInt8} {w : World} {cs : Array Value} {t : TypeId} (h : BldAt B b l w) (hg : w.heap[g]? = some (.cells cs t (0, 0))) (ht : t ≠ 5) (hb : g ≠ b) (k : Nat) (u : Value) : BldAt B b l (w.setCell ⟨g, k, none⟩ u) := by
  have key : ∀ p, Lib.BuilderAtF 85 5 B b p (Lib.byteCells l) w → Lib.BuilderAtF 85 5 B b p (Lib.byteCells l) (w.setCell ⟨g, k, none⟩ u) := by
    rintro p ⟨hB, v, hbk, ⟨hl, ho⟩, hne⟩
    refine ⟨hB, v, (Below.heap_setCell _ _ _ _ (fun e => hb e.symm)).trans hbk, ⟨hl, ?_⟩, hne⟩
    rcases ho with ho | ⟨g', cap, cur, fz, hv, h1, h2, h3⟩
    · exact Or.inl ho
    · refine Or.inr ⟨g', cap, cur, fz, hv, h1, (Below.heap_setCell _ _ _ _ (fun e => ?_)).trans h2, h3⟩
      have e' : g' = g := e
      subst e'
      rw [hg] at h2
      cases h2
      exact ht rfl
  exact h.elim (fun h => Or.inl (key _ h)) (fun h => Or.inr (key _ h))

/-- Within a range over a function: the builder's bytes, the sign's box; all else that lay lies, but rows of bytes. -/
structure WrIn (B b gs : Nat) (l : List UInt8) (sg : UInt8) (w2 W : World) : Prop where
  bld : BldAt B b l W
  sign : W.heap[gs]? = some (.cells #[.string ⟨#[sg]⟩] 9 (0, 0))
  below : Below B w2 W
  rest : ∀ (k : Nat) (o : Obj), w2.heap[k]? = some o → k ≠ b → k ≠ gs → (∀ c fz, o ≠ .cells c 5 fz) → W.heap[k]? = some o
theorem WrIn.turn {B b gs : Nat} {l : List UInt8} {sg : UInt8} {w2 W W' : World} {row : Option Nat} (h : WrIn B b gs l sg w2 W) (hB : B ≤ w2.heap.size) (hg : W.grownBy W' row) (hr : ∀ r, row = some r → w2.heap.size ≤ r ∧ ∃ o : Obj, W.heap[r]? = some o ∧ o.isCells = false) : WrIn B b gs l sg w2 W' where
  bld := h.bld.same fun k o hk ho => (grownBy_keeps_cells hg (fun r e => (hr r e).2) hk ho).trans hk
  sign := (grownBy_keeps_cells hg (fun r e => (hr r e).2) h.sign rfl).trans h.sign
  below := h.below.grown hg (by have := h.below.size; omega) fun r e => by have := (hr r e).1; omega
  rest := fun k o hk h1 h2 h3 => by
    have h4 := h.rest k o hk h1 h2 h3
    refine (hg.block k (blk_lt h4) fun e => ?_).trans h4
    have := (hr k e.symm).1
    have := blk_lt hk
    omega
end Go.Proofs.YtdfnmapmnmecnaaDoor

/- views.write: the text of a view goes into a builder. -/
namespace Go.Proofs.YtdfnmapmnmecnaaDoor
open Go.RowKit Go.Shelf

attribute [local go_sem] Oper.semAt_some

theorem BldAt.belowAll {B b : Nat} {l : List UInt8} {w w' : World} (h : BldAt B b l w) (hb : Below w.heap.size w w') : BldAt B b l w' := h.same fun k _ hk _ => (hb.block k (blk_lt hk)).trans hk
theorem kept_blk {b k : Nat} {w w' : World} {cs : Array Value} {t : TypeId} (h : Kept b w w') (hk : w.heap[k]? = some (.cells cs t (0, 0))) (hb : k ≠ b) (ht : t ≠ 5) : w'.heap[k]? = some (.cells cs t (0, 0)) :=
  h k _ hk (by simpa using hb) (fun c fz e => by cases e; exact ht rfl)
theorem Kept.of_below {b : Nat} {w w' : World} (h : Below w.heap.size w w') : Kept b w w' := fun k _ hk _ _ => (h.block k (blk_lt hk)).trans hk
theorem Kept.trans {b : Nat} {w w' w'' : World} (h : Kept b w w') (h' : Kept b w' w'') : Kept b w w'' := Lib.OthersKept.trans h h'
theorem Kept.shut {b : Nat} {w w' W : World} (h : Kept b w w') (hs : Below w.heap.size w' W) : Kept b w W := fun k o hk h1 h2 => (hs.block k (blk_lt hk)).trans (h k o hk h1 h2)
theorem Kept.drewL {b : Nat} {w w' : World} (h : Kept b w.drew w') : Kept b w w' := h

/-- A call that writes the bytes s behind the builder's. -/
def RetWrite (B b : Nat) (l s : List UInt8) (w : World) (e : Ending) (w' : World) : Prop := e = .returned (.tuple #[]) ∧ BldAt B b (l ++ s) w' ∧ Below B w w' ∧ Kept b w w'
def WriteSaid (vs : List Vw) (i : Nat) : Prop := ∀ (n : Int) (A : Option Addr) (cap B b : Nat) (l : List UInt8) (w : World), TArg w A cap vs → VAt w B A vs → BldAt B b l w → B ≤ w.heap.size → l.length + wlen (getV vs i).r.toNat ≤ 65536 →
  Calls Tryd.prog 51 #[.pointer (some ⟨b, 0, none⟩), .agg #[.int .i64 n, .slice A vs.length cap], .int .i64 i] w (RetWrite B b l (words vs i) w)

theorem itoa_one (x : Int) (h0 : 0 ≤ x) (h1 : x < 10) (w : World) : Calls Tryd.prog 73 #[.int .i64 x] w fun e w' => e = .returned (.string ⟨#[dgt x]⟩) ∧ w' = w := by
  obtain ⟨k, rfl⟩ := Int.eq_ofNat_of_zero_le h0
  refine (Tryd.strconv_Itoa_small k (by omega) w).mono ?_
  rintro e w' ⟨rfl, rfl⟩
  refine ⟨?_, rfl⟩
  rw [Lib.decDigits_one (by omega)]
  rfl

theorem wsz1 {l : List UInt8} (a : UInt8) (h : l.length + 3 ≤ 65536) : l.length + (⟨#[a]⟩ : ByteArray).size ≤ 140737488355328 := by
  have h1 : (⟨#[a]⟩ : ByteArray).size = 1 := rfl
  omega
theorem wsz2 {l : List UInt8} (a b c : UInt8) (h : l.length + 3 ≤ 65536) : (l ++ [a]).length + ((⟨#[b]⟩ : ByteArray) ++ ⟨#[c]⟩).size ≤ 140737488355328 := by
  have h1 : ((⟨#[b]⟩ : ByteArray) ++ ⟨#[c]⟩).size = 2 := by rw [ByteArray.size_append]; rfl
  rw [h1, List.length_append]
  simp only [List.length_cons, List.length_nil]
  omega

theorem wsz3 {l : List UInt8} {m : Nat} (a : UInt8) (h : l.length + 1 + m ≤ 65536) : l.length + (⟨#[a]⟩ : ByteArray).size ≤ 140737488355328 := by
  have h1 : (⟨#[a]⟩ : ByteArray).size = 1 := rfl
  omega
theorem TArg.of_vat {w W : World} {A : Option Addr} {cap B : Nat} {vs : List Vw} (h : TArg w A cap vs) (hV : VAt w B A vs) (hb : Below B w W) (hB : B ≤ w.heap.size) : TArg W A cap vs :=
  ⟨(hV.keep hb).more (by have := hb.size; omega), h.lec, h.lem, h.few⟩
/-- How long the text is when some of the views that a view heard are written. -/
theorem part_len {vs : List Vw} {l : List UInt8} {p : UInt8} {pre : List Nat} {r M : Nat} (h : ∀ c, c ∈ pre → (words vs c).length ≤ wlen r) (hp : pre.length < 5) (hl : l.length + wlen (r + 1) ≤ M) (s : UInt8) :
    (l ++ p :: sep s (pre.map (words vs))).length + 1 + wlen r ≤ M := by
  have h1 := sep_length s (pre.map (words vs)) (wlen r) (by
    intro x hx
    obtain ⟨c, hc, rfl⟩ := List.mem_map.1 hx
    exact h c hc)
  rw [List.length_map] at h1
  have h2 : pre.length * (wlen r + 1) ≤ 4 * (wlen r + 1) := Nat.mul_le_mul_right _ (by omega)
  simp only [wlen] at hl
  simp only [List.length_append, List.length_cons]
  omega

set_option maxRecDepth 100000 in
set_option maxHeartbeats 2000000 in
theorem write_of {m : Int} {vs : List Vw} (hw : Wf m vs) {i : Nat} (hi : i < vs.length) (ih : ∀ c, c ∈ kids (getV vs i) → WriteSaid vs c) : WriteSaid vs i := by
  intro n A cap B b l w hT hV hB hBw hlen
  have HT := Lib.hid hT
  have HV := Lib.hid hV
  have HB := Lib.hid hB
  have hfew := hT.few
  have hblt := hB.lt
  have hbl : (Lib.byteCells l).length = l.length := by simp [Lib.byteCells]
  have hle : (Lib.byteCells l).length ≤ 65536 := by omega
  have HBL := Lib.hid hbl
  have HW := Lib.hid hw
  have IH := Lib.hid ih
  clear hT hV hB hbl hw ih
  refine calls_of_marks Tryd.func51 rfl ?_
  simp only [Tryd.ntmps51, List.size_toArray, List.length_cons, List.length_nil, Nat.reduceAdd, Nat.reduceSub, Array.replicate_succ, Array.replicate_zero, List.push_toArray, List.append_toArray, List.nil_append, List.cons_append]
  go_wp2_with fail
  obtain ⟨W0, hW0, b0, b1, hsz, hB0⟩ := twoboxes w #[.pointer (some ⟨b, 0, none⟩)] #[.int .i64 n, .slice A vs.length cap] 82 24
  rw [hW0]
  clear hW0
  have B0 : Hid (BldAt B b l W0) := HB.out.belowAll hB0
  refine (Tryd.Builder_Len_f B b _ W0 B0.out).mono ?_
  rintro e w1 ⟨rfl, rfl⟩
  have t0 := blk_cell b0 0 rfl
  have t1 : w1.cell? ⟨w.heap.size + 1, 1, none⟩ = some (.slice A vs.length cap) := blk_cell b1 1 rfl
  have K0 := Lib.hid b0
  have K1 := Lib.hid b1
  have BL := Lib.hid hB0
  obtain ⟨b', off, rfl, hb1, c0, c1, c2, c3, c4, c5, c6, c7⟩ := (HT.out.keep hB0).rows.row i hi
  have hi0 : (0 : Int) ≤ (i : Int) := by omega
  have hi1 : (i : Int) < (vs.length : Int) := by omega
  have hbg := begE_ok (HW.out.beg hi)
  have hm5 := HW.out.2.1
  have hp9 : vs[i].p < 10 := by omega
  have hp0 : 0 ≤ vs[i].p := hbg.1
  clear b0 b1 hB0
  go_upto_region 3 with fail
  refine wp_one ?_
  intro W2 g0 hsz2 hB2
  have g1 : W2.heap[w1.heap.size]? = some (.cells vs[i].cells 27 (0, 0)) := g0
  have q0 : W2.cell? ⟨w1.heap.size, 0, none⟩ = some (.int .i64 vs[i].p) := blk_cell g1 0 rfl
  have s0 : W2.cell? ⟨w.heap.size, 0, none⟩ = some (.pointer (some ⟨b, 0, none⟩)) := blk_cell ((hB2.block _ (by omega)).trans K0.out) 0 rfl
  have B2 : Hid (BldAt B b l W2) := B0.out.belowAll hB2
  have KK0 : Hid (W2.heap[w.heap.size]? = some (.cells #[.pointer (some ⟨b, 0, none⟩)] 82 (0, 0))) := (hB2.block _ (by omega)).trans K0.out
  have KK1 : Hid (W2.heap[w.heap.size + 1]? = some (.cells #[.int .i64 n, .slice (some ⟨b', off, none⟩) vs.length cap] 24 (0, 0))) := (hB2.block _ (by omega)).trans K1.out
  have G1 := Lib.hid g1
  have BW : Hid (Below w.heap.size w W2) := BL.out.trans (hB2.mono (by omega))
  have lw2 : w.heap.size + 3 ≤ W2.heap.size := by omega
  obtain ⟨g, hgb⟩ : ∃ g, w.heap.size + 2 = g := ⟨_, rfl⟩
  rw [hsz, hgb] at q0 G1
  rw [hgb]
  have HG := Lib.hid hgb
  clear g0 g1 c0 c1 c2 c3 c4 c5 c6 c7 t0 t1 hsz2 hB2 hgb K0 K1 BL B0 hsz
  refine wp_region_still_tail 4 (by kernel_rfl) (by kernel_rfl) ?_
  simp only [List.take_succ_cons, List.take_zero, List.drop_succ_cons, List.drop_zero]
  still_step
  still_step
  still_step
  still_call (itoa_one vs[i].p hp0 hp9 _)
  refine wpStill_nil ?_
  have hlw := wlen_mono (Nat.zero_le (getV vs i).r.toNat)
  have hl3 : l.length + 3 ≤ 65536 := by have e3 : wlen 0 = 3 := rfl; omega
  have hgv : getV vs i = vs[i] := getV_eq hi
  have HGV := Lib.hid hgv
  clear hgv
  by_cases hr : vs[i].r = 0
  · have e1 : (vs[i].r == 0) = true := by simp [hr]
    have hz : Hid (words vs i = [dgt vs[i].p, 58, dgt vs[i].i]) := by show _ = _; rw [words_zero (by rw [HGV.out]; exact hr), HGV.out]
    have hin0 := (hbg.2.2.2.2.1 hr).1
    have hin9 : vs[i].i < 10 := by have := (hbg.2.2.2.2.1 hr).2; omega
    clear hr hbg
    go_wp2_with (go_at_call 72; refine (bwrite_ex B b l ⟨#[dgt vs[i].p]⟩ _ B2.out.drew (wsz1 _ hl3) (Nat.le_trans hBw BW.out.size)).mono ?_; rintro e w3 ⟨sz3, rfl, hb3, hB3, hk3⟩; clear q0 s0
                 have L1 := Lib.hid (kept_blk hk3.drewL G1.out (by have := HG.out; omega) (by decide))
                 have L2 := Lib.hid (kept_blk hk3.drewL KK0.out (by omega) (by decide))
                 have L3 := Lib.hid (kept_blk hk3.drewL KK1.out (by omega) (by decide))
                 have x0 : w3.cell? ⟨g, 1, none⟩ = some (.int .i64 vs[i].r) := blk_cell L1.out 1 rfl
                 have B3 := Lib.hid hb3
                 have Bw3 := Lib.hid (belU hB3)
                 have Kw3 := Lib.hid hk3.drewL
                 clear hb3 hB3 hk3)
    have s0 : w3.cell? ⟨w.heap.size, 0, none⟩ = some (.pointer (some ⟨b, 0, none⟩)) := blk_cell L2.out 0 rfl
    have q2 : w3.cell? ⟨g, 2, none⟩ = some (.int .i64 vs[i].i) := blk_cell L1.out 2 rfl
    refine wp_region_still_tail 5 (by kernel_rfl) (by kernel_rfl) ?_
    simp only [List.take_succ_cons, List.take_zero, List.drop_succ_cons, List.drop_zero]
    still_step
    still_step
    still_step
    still_call (itoa_one vs[i].i hin0 hin9 _)
    still_step
    refine wpStill_nil ?_
    go_wp2_with fail
    refine (bwrite_ex B b (l ++ [dgt vs[i].p]) _ _ B3.out.drew (wsz2 _ _ _ hl3) (Nat.le_trans (Nat.le_trans hBw BW.out.size) Bw3.out.size)).mono ?_
    rintro e w4 ⟨sz4, rfl, hb4, hB4, hk4⟩
    have HB4 := Lib.hid hb4
    have BB4 := Lib.hid hB4
    have HK4 := Lib.hid hk4
    clear hb4 hB4 hk4
    go_wp2_with fail
    refine ret_marks (Marks.nil w.heap.size _) (v := .tuple #[]) (fun W => by kernel_rfl) ?_
    intro W hS
    refine ⟨rfl, ?_, ?_, ?_⟩
    · have := HB4.out.same (w' := W) hS.same
      rw [hz.out]
      simpa using this
    · exact ((BW.out.mono hBw).trans (Bw3.out.trans (belU BB4.out))).trans (hS.below.mono hBw)
    · exact ((Kept.of_below BW.out).trans (Kw3.out.trans HK4.out.drewL)).shut hS.below
  · have e1 : (vs[i].r == 0) = false := by simp [hr]
    have hr' : (getV vs i).r ≠ 0 := by rw [HGV.out]; exact hr
    have hz := Lib.hid (words_later HW.out.acyc hi hr')
    have HR := Lib.hid hr'
    have hr1 : 0 < vs[i].r := by have := hbg.2.2.1; omega
    clear hr hbg hr'
    go_wp2_with (go_at_call 72; refine (bwrite_ex B b l ⟨#[dgt vs[i].p]⟩ _ B2.out.drew (wsz1 _ hl3) (Nat.le_trans hBw BW.out.size)).mono ?_; rintro e w3 ⟨sz3, rfl, hb3, hB3, hk3⟩; clear q0 s0
                 have L1 := Lib.hid (kept_blk hk3.drewL G1.out (by have := HG.out; omega) (by decide))
                 have L2 := Lib.hid (kept_blk hk3.drewL KK0.out (by omega) (by decide))
                 have L3 := Lib.hid (kept_blk hk3.drewL KK1.out (by omega) (by decide))
                 have x0 : w3.cell? ⟨g, 1, none⟩ = some (.int .i64 vs[i].r) := blk_cell L1.out 1 rfl
                 have B3 := Lib.hid hb3
                 have Bw3 := Lib.hid (belU hB3)
                 have Kw3 := Lib.hid hk3.drewL
                 have q0 : w3.cell? ⟨g, 0, none⟩ = some (.int .i64 vs[i].p) := blk_cell L1.out 0 rfl
                 have q2 : w3.cell? ⟨g, 2, none⟩ = some (.int .i64 vs[i].i) := blk_cell L1.out 2 rfl
                 have q3 : w3.cell? ⟨g, 3, none⟩ = some (.int .i64 vs[i].h0) := blk_cell L1.out 3 rfl
                 have q4 : w3.cell? ⟨g, 4, none⟩ = some (.int .i64 vs[i].h1) := blk_cell L1.out 4 rfl
                 have q5 : w3.cell? ⟨g, 5, none⟩ = some (.int .i64 vs[i].h2) := blk_cell L1.out 5 rfl
                 have q6 : w3.cell? ⟨g, 6, none⟩ = some (.int .i64 vs[i].h3) := blk_cell L1.out 6 rfl
                 have q7 : w3.cell? ⟨g, 7, none⟩ = some (.int .i64 vs[i].h4) := blk_cell L1.out 7 rfl
                 have hg3 : g < w3.heap.size := blk_lt L1.out
                 clear hb3 hB3 hk3)
    obtain ⟨W4, hW4, s4, hsz4, hB4⟩ := onebox w3 #[.string ⟨#[40]⟩] 9
    rw [hW4]
    obtain ⟨gs, hgs⟩ : ∃ gs, w3.heap.size = gs := ⟨_, rfl⟩
    rw [hgs] at s4 ⊢
    have hh := heard_any vs[i] W4
    have hbx := blk_new W4 (.cells vs[i].cells 27)
    have hseq := heard1_iter vs[i] W4.heap.size _ hbx
    have lgs : gs < W4.heap.size := by omega
    have hwgs : w.heap.size + 3 ≤ gs := by have h1 := BW.out.size; have h2 := Bw3.out.size; omega
    have Bld4 : BldAt B b (l ++ [dgt vs[i].p]) W4 := B3.out.belowAll hB4
    have S5 := blk_old s4 (.cells vs[i].cells 27)
    have Bld5 := Bld4.alloc (.cells vs[i].cells 27)
    have A0 := blk_old ((hB4.block _ (by omega)).trans L2.out) (.cells vs[i].cells 27)
    have A1 := blk_old ((hB4.block _ (by omega)).trans L3.out) (.cells vs[i].cells 27)
    have B5 : Below B w (W4.alloc (.cells vs[i].cells 27)) := ((BW.out.mono hBw).trans (Bw3.out.trans (hB4.mono (by have h1 := BW.out.size; have h2 := Bw3.out.size; omega)))).trans ((bel1 W4 _).mono (by have h1 := BW.out.size; omega))
    have KW5 : Kept b w (W4.alloc (.cells vs[i].cells 27)) := ((Kept.of_below BW.out).trans (Kw3.out.trans (Kept.of_below hB4))).trans (Kept.of_below (bel1 W4 _))
    have hbw : W4.heap.size < (W4.alloc (.cells vs[i].cells 27)).heap.size := by simp
    unfold Vw.cells at hh
    clear q0 q2 q3 q4 q5 q6 q7 x0 hW4 hB4 s4
    refine hh.mono ?_
    rintro e w5 ⟨rfl, hw5⟩
    have hw5' : W4.alloc (.cells vs[i].cells 27) = w5 := hw5
    rw [hw5'] at hbx hseq S5 Bld5 A0 A1 B5 KW5 hbw
    clear hw5 hw5'
    have XX := Lib.hid hseq
    have XS := Lib.hid S5
    have XB := Lib.hid Bld5
    have XA0 := Lib.hid A0
    have XA1 := Lib.hid A1
    have XV := Lib.hid hbx
    have XW := Lib.hid B5
    have XK := Lib.hid KW5
    have HGS := Lib.hid hgs
    have HS4 := Lib.hid hsz4
    clear hseq S5 Bld5 A0 A1 hbx B5 KW5 hh hgs hsz4 Bld4
    have hB5 : B ≤ w5.heap.size := by have h1 := XW.out.size; omega
    go_wp2_with fail
    refine wp_range rfl (enters_of Tryd.func86 (by kernel_rfl) rfl) XX.out (by rintro k rfl; exact hbw) (fun _ => rfl)
      (fun pre W => WrIn B b gs (l ++ dgt vs[i].p :: sep 40 (pre.map fun x => words vs x.1.2.toNat)) (if pre = [] then 40 else 44) w5 W) (fun _ _ _ => False) (fun _ _ _ _ h hg hr => h.turn hB5 hg hr) (fun _ _ _ _ _ h _ _ => h)
      ⟨XB.out, XS.out, Below.refl _ _, fun _ _ h _ _ _ => h⟩ ?a1 ?assign ?body ?done ?stop
    case assign =>
      intro l x W K hK
      gi_wp2
      exact hK
    case body =>
      intro l' pre x W hI hlt
      have hl5 : (heardL vs[i]).length ≤ 5 := by have := kids_len5 vs[i]; simpa [kids] using this
      obtain ⟨hx0, q, hq5, hxq, hxn⟩ := mem_heardL.1 x.2
      have hxk : x.1.2.toNat ∈ kids (getV vs i) := by rw [HGV.out]; exact List.mem_map.2 ⟨x.1, x.2, rfl⟩
      obtain ⟨c, hc⟩ := Int.eq_ofNat_of_zero_le (show 0 ≤ x.1.2 by rw [hxq]; exact hxn)
      have hct : x.1.2.toNat = c := by omega
      rw [hct] at hxk
      have hkc := HW.out.kid hi hxk
      have hcl : c < vs.length := by omega
      obtain ⟨r, hre⟩ : ∃ r, (getV vs i).r.toNat = r + 1 := ⟨(getV vs i).r.toNat - 1, by have := HGV.out; rw [this]; omega⟩
      have hrc : (getV vs c).r.toNat = r := by have := hkc.2; omega
      have hpk : ∀ y, y ∈ pre.map (fun x => x.1.2.toNat) → (words vs y).length ≤ wlen r := by
        intro y hy
        obtain ⟨z, _, rfl⟩ := List.mem_map.1 hy
        have hzk : z.1.2.toNat ∈ kids (getV vs i) := by rw [HGV.out]; exact List.mem_map.2 ⟨z.1, z.2, rfl⟩
        have hz := HW.out.kid hi hzk
        have := words_len HW.out z.1.2.toNat (by omega)
        rwa [show (getV vs z.1.2.toNat).r.toNat = r from by have := hz.2; omega] at this
      have hmm : pre.map (fun x => words vs x.1.2.toNat) = (pre.map fun x => x.1.2.toNat).map (words vs) := by rw [List.map_map]; rfl
      have hbud := part_len (l := l) (p := dgt vs[i].p) hpk (by rw [List.length_map]; omega) (by rw [← hre]; exact hlen) 40
      have hsnoc : (pre ++ [x]).map (fun x => words vs x.1.2.toNat) = pre.map (fun x => words vs x.1.2.toNat) ++ [words vs c] := by simp [hct]
      rw [← hmm] at hbud
      obtain ⟨ws, hws⟩ : ∃ ws, pre.map (fun x => words vs x.1.2.toNat) = ws := ⟨_, rfl⟩
      have hnil : (pre = []) ↔ (ws = []) := by rw [← hws, List.map_eq_nil_iff]
      obtain ⟨sg, hsg⟩ : ∃ sg : UInt8, (if pre = [] then 40 else 44) = sg := ⟨_, rfl⟩
      have hnew : l ++ dgt vs[i].p :: sep 40 (ws ++ [words vs c]) = ((l ++ dgt vs[i].p :: sep 40 ws) ++ [sg]) ++ words vs c := by
        rw [sep_snoc, ← hsg]
        simp only [hnil]
        simp
      rw [hws, hsg] at hI
      rw [hws] at hbud
      have e0 := blk_cell (hI.rest _ _ XA0.out (by omega) (by omega) (fun c fz e => by cases e)) 0 rfl
      have e1' : W.cell? ⟨w.heap.size + 1, 0, none⟩ = some (.int .i64 n) := blk_cell (hI.rest _ _ XA1.out (by omega) (by omega) (fun c fz e => by cases e)) 0 rfl
      have e2 : W.cell? ⟨w.heap.size + 1, 1, none⟩ = some (.slice (some ⟨b', off, none⟩) vs.length cap) := blk_cell (hI.rest _ _ XA1.out (by omega) (by omega) (fun c fz e => by cases e)) 1 rfl
      have e3 : W.cell? ⟨gs, 0, none⟩ = some (.string ⟨#[sg]⟩) := blk_cell hI.sign 0 rfl
      have hBW : B ≤ W.heap.size := by have := hI.below.size; omega
      have HI := Lib.hid hI
      have HN := Lib.hid hnew
      have HS := Lib.hid hsnoc
      have HWS := Lib.hid hws
      have HXV := Lib.hid hc
      have HRC := Lib.hid hrc
      have hxe : (x.1.2 : Int) = (c : Int) := hc
      clear hI hnew hsnoc hws hc hct hsg hnil hmm hpk hre hxq hrc
      gi_wp2_with fail
      refine ⟨trivial, (CallsIn.inRound l' ((callsIn_wide (n := 6)).2 (bwrite_ex B b _ _ W HI.out.bld (wsz3 _ hbud) hBW))).mono ?_⟩
      rintro e W1 ⟨k1, rfl, hb1', hB1, hk1⟩
      have f0 := blk_cell (kept_blk hk1 (HI.out.rest _ _ XA0.out (by omega) (by omega) (fun c fz e => by cases e)) (by omega) (by decide)) 0 rfl
      have f1 : W1.cell? ⟨w.heap.size + 1, 0, none⟩ = some (.int .i64 n) := blk_cell (kept_blk hk1 (HI.out.rest _ _ XA1.out (by omega) (by omega) (fun c fz e => by cases e)) (by omega) (by decide)) 0 rfl
      have f2 : W1.cell? ⟨w.heap.size + 1, 1, none⟩ = some (.slice (some ⟨b', off, none⟩) vs.length cap) := blk_cell (kept_blk hk1 (HI.out.rest _ _ XA1.out (by omega) (by omega) (fun c fz e => by cases e)) (by omega) (by decide)) 1 rfl
      have HB1 := Lib.hid hb1'
      have HBl1 := Lib.hid hB1
      have HK1 := Lib.hid hk1
      have hBW1 : B ≤ W1.heap.size := Nat.le_trans hBW hB1.size
      have Bw1 : Hid (Below B w W1) := XW.out.trans (HI.out.below.trans hB1)
      clear e0 e1' e2 e3 hb1' hB1 hk1
      gi_wp2_with fail
      refine ⟨trivial, (CallsIn.inRound l' ((callsIn_wide (n := 6)).2 (IH.out c hxk n _ cap B b _ W1 (TArg.of_vat HT.out HV.out Bw1.out hBw) (HV.out.keep Bw1.out) HB1.out hBW1 (by have h1 := HRC.out; rw [h1, List.length_append]; simp only [List.length_cons, List.length_nil]; omega)))).mono ?_⟩
      rintro e W2' ⟨rfl, hb2, hB2, hk2⟩
      have hsg2 : W2'.heap[gs]? = some (.cells #[.string ⟨#[sg]⟩] 9 (0, 0)) := kept_blk hk2 (kept_blk HK1.out HI.out.sign (by omega) (by decide)) (by omega) (by decide)
      have g0 := blk_cell hsg2 0 rfl
      have g1 := blk_froz hsg2 0
      have HSG := Lib.hid hsg2
      have HB2 := Lib.hid hb2
      have HBl2 := Lib.hid hB2
      have HK2 := Lib.hid hk2
      clear f0 f1 f2 hsg2 hb2 hB2 hk2
      gi_wp2_with fail
      have hk12 : Kept b W (W2'.setCell ⟨gs, 0, none⟩ (.string ⟨#[44]⟩)) → True := fun _ => trivial
      have rest : ∀ (k : Nat) (o : Obj), W.heap[k]? = some o → k ≠ b → k ≠ gs → (∀ c fz, o ≠ .cells c 5 fz) → (W2'.setCell ⟨gs, 0, none⟩ (.string ⟨#[44]⟩)).heap[k]? = some o := fun k o hk h1 h2 h3 =>
        (Below.heap_setCell _ _ _ _ h2).trans (HK2.out k o (HK1.out k o hk (by simpa using h1) h3) (by simpa using h1) h3)
      have hsize : W.heap.size ≤ (W2'.setCell ⟨gs, 0, none⟩ (.string ⟨#[44]⟩)).heap.size := by have h1 := HBl1.out.size; have h2 := HBl2.out.size; simp; omega
      refine ⟨⟨hsize, fun k o hk hko hcl => rest k o hko (by omega) (by omega) (fun c fz e => by rw [e] at hcl; cases hcl)⟩, ⟨hsize, fun k hk _ => ?_⟩, ?_⟩
      · subst hk
        have h1 := HI.out.rest _ _ XV.out (by omega) (by omega) (fun c fz e => by cases e)
        rw [rest _ _ h1 (by omega) (by omega) (fun c fz e => by cases e), h1]
      · dsimp only
        rw [HS.out, HWS.out, HN.out, if_neg (by simp)]
        refine ⟨HB2.out.set HSG.out (by decide) (by omega) 0 _, ?_, (HI.out.below.trans (HBl1.out.trans HBl2.out)).setCell (by simp; omega) _, fun k o hk h1 h2 h3 => rest k o (HI.out.rest k o hk h1 h2 h3) h1 h2 h3⟩
        simp [World.setCell, Array.getElem?_modify, HSG.out]
    case done =>
      intro D ys W hD hys hI hDk
      have hyl : ys.map (fun x => words vs x.1.2.toNat) = (kids (getV vs i)).map (words vs) := by
        have := congrArg (List.map (fun x : Int × Int => words vs x.2.toNat)) hys
        rw [List.map_map] at this
        rw [HGV.out]
        unfold kids
        rw [List.map_map]
        exact this
      rw [hyl] at hI
      have hk0 : (kids (getV vs i)) ≠ [] := fun e => by have := HW.out.own_kid hi HR.out; rw [e] at this; cases this
      have e0 := blk_cell (hI.rest _ _ XA0.out (by omega) (by omega) (fun c fz e => by cases e)) 0 rfl
      have hBW : B ≤ W.heap.size := by have := hI.below.size; omega
      have hwl := words_len HW.out i hi
      rw [hz.out] at hwl
      have hfin : (l ++ dgt vs[i].p :: sep 40 ((kids (getV vs i)).map (words vs))).length + 1 + 0 ≤ 65536 := by
        rw [HGV.out] at hwl hlen ⊢
        simp only [List.length_append, List.length_cons, List.length_nil] at hwl ⊢
        omega
      have hlist : l ++ words vs i = (l ++ dgt vs[i].p :: sep 40 ((kids (getV vs i)).map (words vs))) ++ [41] := by
        rw [hz.out, HGV.out]; simp
      obtain ⟨L, hL⟩ : ∃ L, l ++ dgt vs[i].p :: sep 40 ((kids (getV vs i)).map (words vs)) = L := ⟨_, rfl⟩
      rw [hL] at hI hfin hlist
      have HI := Lib.hid hI
      have HLL := Lib.hid hlist
      have HDK := Lib.hid hDk
      clear hyl hI hk0 hwl hlist hL hDk hys
      go_wp2_with fail
      refine (bwrite_ex B b L _ _ HI.out.bld (wsz3 _ hfin) hBW).mono ?_
      rintro e W9 ⟨k9, rfl, hb9, hB9, hk9⟩
      have HB9 := Lib.hid hb9
      have HBl9 := Lib.hid hB9
      have HK9 := Lib.hid hk9
      clear e0 hb9 hB9 hk9
      go_wp2_with fail
      have hD9 : W9.heap[D]? = some (.deferred (some [])) := HK9.out D _ HDK.out (by simp; omega) (fun c fz e => by cases e)
      have hmk : Marks w.heap.size [{ target := .collected D, args := #[] }] W9 := ⟨[D], rfl, by simp, fun r hr => by simp at hr; subst hr; exact ⟨by omega, hD9⟩⟩
      refine end_marks hmk (v := .tuple #[]) (fun W => by kernel_rfl) ?_
      intro X hS
      refine ⟨rfl, ?_, ?_, ?_⟩
      · rw [HLL.out]
        exact HB9.out.same hS.same
      · exact (XW.out.trans (HI.out.below.trans HBl9.out)).trans (hS.below.mono hBw)
      · refine Kept.shut (w' := W9) ?_ hS.below
        intro k o hk h1 h2
        have hkb : k ≠ b := by simpa using h1
        have hkl := blk_lt hk
        exact HK9.out k o (HI.out.rest k o (XK.out k o hk h1 h2) hkb (by omega) h2) h1 h2
    case stop =>
      intro D c pre W _ _ h
      exact h.elim
end Go.Proofs.YtdfnmapmnmecnaaDoor

/- views.Text. -/
namespace Go.Proofs.YtdfnmapmnmecnaaDoor
open Go.RowKit

/-- No view is of round 5 or 6. -/
def Lows (vs : List Vw) : Prop := ∀ i, i < vs.length → ¬ (4 < (getV vs i).r ∧ (getV vs i).r ≤ 6)
theorem Lows.len {n : Int} {vs : List Vw} (hw : Wf n vs) (hl : Lows vs) {i : Nat} (hi : i < vs.length) : wlen (getV vs i).r.toNat ≤ 2967 := by
  have hb := begE_ok (hw.begv hi)
  have := hl i hi
  have h4 : (getV vs i).r.toNat ≤ 4 := by omega
  exact wlen_mono h4
/-- The result of Text, where no view is of round 5 or 6. -/
def textE (n : Int) (vs : List Vw) (i : Int) : List UInt8 × Int := if atE n vs [i] ≠ 0 then ([], atE n vs [i]) else (words vs i.toNat, 0)
def RetText (r : List UInt8 × Int) (w : World) (e : Ending) (w' : World) : Prop := e = .returned (.tuple #[.string ⟨r.1.toArray⟩, .int .i64 r.2]) ∧ Below w.heap.size w w'
theorem textE_bad {n : Int} {vs : List Vw} {i : Int} (h : atE n vs [i] ≠ 0) : textE n vs i = ([], atE n vs [i]) := by unfold textE; rw [if_pos h]
theorem textE_yes {n : Int} {vs : List Vw} {i : Nat} (h : atE n vs [(i : Int)] = 0) : textE n vs i = (words vs i, 0) := by unfold textE; rw [if_neg (by simp [h]), Int.toNat_natCast]
theorem RetText.of {r : List UInt8 × Int} {w w' : World} {l : List UInt8} {s : ByteArray} {c : Int} (h : r = (l, c)) (hs : s = ⟨l.toArray⟩) (hb : Below w.heap.size w w') : RetText r w (.returned (.tuple #[.string s, .int .i64 c])) w' := by subst h; subst hs; exact ⟨rfl, hb⟩

theorem write_any {n : Int} {vs : List Vw} (hw : Wf n vs) : ∀ i, i < vs.length → WriteSaid vs i := by
  intro i
  induction i using Nat.strongRecOn with
  | _ i ih =>
    intro hi
    exact write_of hw hi fun c hc => by
      have := hw.acyc i hi c hc
      exact ih c this (by omega)

set_option maxRecDepth 100000 in
set_option maxHeartbeats 4000000 in
theorem vtext_any (n : Int) (A : Option Addr) (cap : Nat) (vs : List Vw) (hlo : Lows vs) (i : Int) (w : World) (hT : TArg w A cap vs) :
    Calls Tryd.prog 20 #[.agg #[.int .i64 n, .slice A vs.length cap], .int .i64 i] w (RetText (textE n vs i) w) := by
  have HT := Lib.hid hT
  have hfew := hT.few
  have HLO := Lib.hid hlo
  clear hT hlo
  go_enter Tryd.func20, Tryd.ntmps20
  go_wp2_with fail
  obtain ⟨W0, hW0, b0, hsz, hB0⟩ := onebox w #[.int .i64 n, .slice A vs.length cap] 24
  rw [hW0]
  clear hW0
  have hI : IAt (W0.alloc (.cells #[.int .i64 i] 3)) (W0.alloc (.cells #[.int .i64 i] 3)).heap.size (some ⟨w.heap.size + 1, 0, none⟩) [i] := by have := IAt.box W0 i 3; rwa [hsz] at this
  have hbx := bel1 W0 (.cells #[.int .i64 i] 3)
  refine (vat_any n A (some ⟨w.heap.size + 1, 0, none⟩) cap 1 vs [i] (W0.alloc (.cells #[.int .i64 i] 3)) (HT.out.keep (hB0.trans (hbx.mono (by omega)))) hI (by simp)).mono ?_
  rintro e w1 ⟨rfl, hb⟩
  have d0 := (hb.block _ (by simp; omega)).trans ((hbx.block _ (by omega)).trans b0)
  have B1 : Hid (Below w.heap.size w w1) := hB0.trans ((hbx.trans (hb.mono (by simp))).mono (by omega))
  have l1 : w.heap.size < w1.heap.size := by have := hb.size; simp at this; omega
  clear hI hbx
  have t0 := blk_cell d0 0 rfl
  have t1 := blk_cell d0 1 rfl
  have HD := Lib.hid d0
  clear b0 hsz hB0 hb d0
  by_cases hc : atE n vs [i] = 0
  · have e0 : (atE n vs [i] != 0) = false := by simp [hc]
    obtain ⟨hwf, _, hin⟩ := atE_ok hc
    obtain ⟨h0, h1⟩ := hin i (by simp)
    obtain ⟨j, rfl⟩ := Int.eq_ofNat_of_zero_le h0
    have hj : j < vs.length := by omega
    have hz := Lib.hid (textE_yes hc)
    have hlen := HLO.out.len hwf hj
    have HW := Lib.hid hwf
    clear hc hin hwf
    go_wp2_with fail
    refine (write_any HW.out j hj n A cap w1.heap.size w1.heap.size [] _ (HT.out.keep (B1.out.trans ((bel1 w1 _).mono B1.out.size))) ((HT.out.rows.keep (B1.out.trans ((bel1 w1 _).mono B1.out.size))).more B1.out.size) (BldAt.fresh w1) (by simp) (by simp only [List.length_nil]; omega)).mono ?_
    rintro e w2 ⟨rfl, hb2, hB2, _⟩
    have hB2' : Hid (Below w.heap.size w w2) := (B1.out.trans ((bel1 w1 _).mono B1.out.size)).trans (hB2.mono B1.out.size)
    have hwl := words_len HW.out j hj
    rw [List.nil_append] at hb2
    have hbl : (Lib.byteCells (words vs j)).length ≤ 65536 := by simp only [Lib.byteCells, List.length_map]; omega
    have HB2 := Lib.hid hb2
    have lw2 : w1.heap.size ≤ w2.heap.size := by have := hB2.size; simp at this; omega
    clear hb2 hB2 t0 t1
    go_wp2_with fail
    refine (Tryd.Builder_Len_f w1.heap.size w1.heap.size _ w2 HB2.out).mono ?_
    rintro e w3 ⟨rfl, rfl⟩
    go_wp2_with fail
    refine (Tryd.Builder_String_any_k w1.heap.size w1.heap.size _ w3 HB2.out lw2).mono ?_
    rintro e w4 ⟨rfl, _, hB4, _⟩
    have B4 : Hid (Below w.heap.size w w4) := hB2'.out.trans (hB4.mono B1.out.size)
    clear hB4
    go_wp2_with fail
    go_ret2
    exact RetText.of hz.out rfl B4.out
  · have e0 : (atE n vs [i] != 0) = true := by simpa using hc
    have hz := Lib.hid (textE_bad hc)
    clear hc
    go_wp2_with fail
    go_ret2
    exact RetText.of hz.out rfl B1.out
end Go.Proofs.YtdfnmapmnmecnaaDoor

/- Past of the program and of the reference. -/
namespace Go.Proofs.YtdfnmapmnmecnaaDoor
open Go.RowKit

/-- The result of Past. -/
def pastE (n : Int) (vs : List Vw) (i : Int) : List Int × Int := if atE n vs [i] ≠ 0 then ([], atE n vs [i]) else (castL (pastL vs [i.toNat]), 0)
def RetPast (r : List Int × Int) (w : World) (e : Ending) (w' : World) : Prop := ∃ v, e = .returned (.tuple #[v, .int .i64 r.2]) ∧ Own w' w.heap.size v r.1 ∧ Below w.heap.size w w'
theorem RetPast.of {r : List Int × Int} {w w' : World} {v : Value} {xs : List Int} {c : Int} (h : r = (xs, c)) (ho : Own w' w.heap.size v xs) (hb : Below w.heap.size w w') : RetPast r w (.returned (.tuple #[v, .int .i64 c])) w' := ⟨v, by rw [h], by rw [h]; exact ho, hb⟩
theorem pastE_bad {n : Int} {vs : List Vw} {i : Int} (h : atE n vs [i] ≠ 0) : pastE n vs i = ([], atE n vs [i]) := by unfold pastE; rw [if_pos h]
theorem pastE_yes {n : Int} {vs : List Vw} {i : Nat} (h : atE n vs [(i : Int)] = 0) : pastE n vs i = (castL (pastL vs [i]), 0) := by unfold pastE; rw [if_neg (by simp [h]), Int.toNat_natCast]

set_option maxRecDepth 100000 in
set_option maxHeartbeats 4000000 in
theorem vpast_any (n : Int) (A : Option Addr) (cap : Nat) (vs : List Vw) (i : Int) (w : World) (hT : TArg w A cap vs) :
    Calls Tryd.prog 16 #[.agg #[.int .i64 n, .slice A vs.length cap], .int .i64 i] w (RetPast (pastE n vs i) w) := by
  have HT := Lib.hid hT
  have hfew := hT.few
  clear hT
  go_enter Tryd.func16, Tryd.ntmps16
  go_wp2_with fail
  obtain ⟨W0, hW0, b0, hsz, hB0⟩ := onebox w #[.int .i64 n, .slice A vs.length cap] 24
  rw [hW0]
  clear hW0
  have hI : IAt (W0.alloc (.cells #[.int .i64 i] 3)) (W0.alloc (.cells #[.int .i64 i] 3)).heap.size (some ⟨w.heap.size + 1, 0, none⟩) [i] := by have := IAt.box W0 i 3; rwa [hsz] at this
  have hbx := bel1 W0 (.cells #[.int .i64 i] 3)
  refine (vat_any n A (some ⟨w.heap.size + 1, 0, none⟩) cap 1 vs [i] (W0.alloc (.cells #[.int .i64 i] 3)) (HT.out.keep (hB0.trans (hbx.mono (by omega)))) hI (by simp)).mono ?_
  rintro e w1 ⟨rfl, hb⟩
  have d0 := (hb.block _ (by simp; omega)).trans ((hbx.block _ (by omega)).trans b0)
  have B1 : Hid (Below w.heap.size w w1) := hB0.trans ((hbx.trans (hb.mono (by simp))).mono (by omega))
  have l1 : w.heap.size < w1.heap.size := by have := hb.size; simp at this; omega
  clear hI hbx
  have t0 := blk_cell d0 0 rfl
  have t1 := blk_cell d0 1 rfl
  clear b0 hsz hB0 hb d0
  by_cases hc : atE n vs [i] = 0
  · have e0 : (atE n vs [i] != 0) = false := by simp [hc]
    obtain ⟨hwf, _, hin⟩ := atE_ok hc
    obtain ⟨h0, h1⟩ := hin i (by simp)
    obtain ⟨j, rfl⟩ := Int.eq_ofNat_of_zero_le h0
    have hj : j < vs.length := by omega
    have hz := Lib.hid (pastE_yes hc)
    clear hc hin
    go_wp2_with fail
    have hI : IAt (w1.alloc (.cells #[.int .i64 (j : Int)] 3)) (w1.alloc (.cells #[.int .i64 (j : Int)] 3)).heap.size (some ⟨w1.heap.size, 0, none⟩) (castL [j]) := IAt.box w1 j 3
    have hbx := bel1 w1 (.cells #[.int .i64 (j : Int)] 3)
    have B2 := B1.out.trans (hbx.mono B1.out.size)
    refine (past_any n A (some ⟨w1.heap.size, 0, none⟩) cap 1 vs [j] _ (HT.out.keep B2) hwf.acyc hI (by simp; omega) (by simp)).mono ?_
    rintro e w2 ⟨v, rfl, ho, hb2⟩
    have ho' := ho.low B2.size
    have B3 : Hid (Below w.heap.size w w2) := B2.trans (hb2.mono B2.size)
    obtain ⟨A3, c3, rfl, _, _, _⟩ := ho'.form
    have HO := Lib.hid ho'
    clear hI hbx B2 ho hb2 ho' hwf
    go_wp2_with fail
    go_ret2
    exact RetPast.of hz.out HO.out B3.out
  · have e0 : (atE n vs [i] != 0) = true := by simpa using hc
    have hz := Lib.hid (pastE_bad hc)
    clear hc
    go_wp2_with fail
    go_ret2
    exact RetPast.of hz.out (Own.nil _ _) B1.out

set_option maxRecDepth 100000 in
set_option maxHeartbeats 4000000 in
theorem rpast_any (n : Int) (A : Option Addr) (cap : Nat) (vs : List Vw) (i : Int) (w : World) (hT : TArg w A cap vs) :
    Calls Tryd.prog 17 #[.agg #[.int .i64 n, .slice A vs.length cap], .int .i64 i] w (RetPast (pastE n vs i) w) := by
  have HT := Lib.hid hT
  have hfew := hT.few
  clear hT
  go_enter Tryd.func17, Tryd.ntmps17
  go_wp2_with fail
  obtain ⟨W0, hW0, b0, hsz, hB0⟩ := onebox w #[.int .i64 n, .slice A vs.length cap] 24
  rw [hW0]
  clear hW0
  refine (rat_any n A cap vs i _ (HT.out.keep hB0)).mono ?_
  rintro e w1 ⟨rfl, hb⟩
  have d0 := (hb.block _ (by omega)).trans b0
  have B1 : Hid (Below w.heap.size w w1) := hB0.trans (hb.mono (by omega))
  have l1 : w.heap.size < w1.heap.size := by have := hb.size; omega
  have t0 := blk_cell d0 0 rfl
  have t1 := blk_cell d0 1 rfl
  clear b0 hsz hB0 hb d0
  by_cases hc : atE n vs [i] = 0
  · have e0 : (atE n vs [i] != 0) = false := by simp [hc]
    obtain ⟨hwf, _, hin⟩ := atE_ok hc
    obtain ⟨h0, h1⟩ := hin i (by simp)
    obtain ⟨j, rfl⟩ := Int.eq_ofNat_of_zero_le h0
    have hj : j < vs.length := by omega
    have hz := Lib.hid (pastE_yes hc)
    clear hc hin
    go_wp2_with fail
    obtain ⟨N, rfl⟩ := Int.eq_ofNat_of_zero_le (show 0 ≤ n by have := hwf.1; omega)
    refine (contained_any hwf j hj A cap w1 (HT.out.keep B1.out)).mono ?_
    rintro e w2 ⟨v, rfl, ho, hb2⟩
    have ho' := ho.low B1.out.size
    have B3 : Hid (Below w.heap.size w w2) := B1.out.trans (hb2.mono B1.out.size)
    obtain ⟨A3, c3, rfl, _, _, _⟩ := ho'.form
    have HO := Lib.hid ho'
    clear ho hb2 ho' hwf
    go_wp2_with fail
    go_ret2
    exact RetPast.of hz.out HO.out B3.out
  · have e0 : (atE n vs [i] != 0) = true := by simpa using hc
    have hz := Lib.hid (pastE_bad hc)
    clear hc
    go_wp2_with fail
    go_ret2
    exact RetPast.of hz.out (Own.nil _ _) B1.out

end Go.Proofs.YtdfnmapmnmecnaaDoor

/- The examples of the chapter, computed. -/
namespace Go.Proofs.YtdfnmapmnmecnaaDoor

def exA : Vw := ⟨0, 2, 0, 2, 3, -1, -1, -1⟩
def exG : Vw := ⟨1, 1, 0, 0, -1, -1, -1, -1⟩
def exB : Vw := ⟨0, 2, 0, 2, 5, -1, -1, -1⟩
def exU : List Vw := exV ++ [exA]
def exX : List Vw := exV ++ [⟨0, 0, 0, -1, -1, -1, -1, -1⟩, ⟨1, 1, 0, 4, 1, -1, -1, -1⟩]
def exT : List (List UInt8) := [[48, 58, 49], [49, 58, 48], [48, 40, 48, 58, 49, 44, 49, 58, 48, 41], [49, 40, 49, 58, 48, 41]]
def exS : List UInt8 := [48, 40, 48, 40, 48, 58, 49, 44, 49, 58, 48, 41, 44, 49, 40, 49, 58, 48, 41, 41]
theorem ex_text (k : Nat) (hk : k < 4) : textE 2 exV (k : Int) = (exT.getD k [], 0) := by
  obtain rfl | rfl | rfl | rfl : k = 0 ∨ k = 1 ∨ k = 2 ∨ k = 3 := by omega
  all_goals decide +kernel
theorem ex_past : pastE 2 exV 2 = ([0, 1, 2], 0) := by decide +kernel
theorem ex_in2 : inputsE 2 exV 2 = ([1, 0], 0) := by decide +kernel
theorem ex_in3 : inputsE 2 exV 3 = ([-1, 0], 0) := by decide +kernel
theorem ex_c02 : contE 2 exV 0 2 = (true, 0) := by decide +kernel
theorem ex_c12 : contE 2 exV 1 2 = (false, 0) := by decide +kernel
theorem ex_add : addE 2 exV exA = ((2, exU), 4, 0) := by decide +kernel
theorem ex_text4 : textE 2 exU 4 = (exS, 0) := by decide +kernel
theorem ex_gap : addE 2 exV exG = ((0, []), 0, 20) := by decide +kernel
theorem ex_bad : addE 2 exX exB = ((0, []), 0, 22) := by decide +kernel
theorem lows_exV : Lows exV := by
  intro i hi
  have hi4 : i < 4 := hi
  obtain rfl | rfl | rfl | rfl : i = 0 ∨ i = 1 ∨ i = 2 ∨ i = 3 := by omega
  all_goals decide +kernel
theorem lows_exU : Lows exU := by
  intro i hi
  have hi4 : i < 5 := hi
  obtain rfl | rfl | rfl | rfl | rfl : i = 0 ∨ i = 1 ∨ i = 2 ∨ i = 3 ∨ i = 4 := by omega
  all_goals decide +kernel
end Go.Proofs.YtdfnmapmnmecnaaDoor

/- ref22.Add. -/
namespace Go.Proofs.YtdfnmapmnmecnaaDoor
open Go.RowKit

set_option maxRecDepth 100000 in
set_option maxHeartbeats 4000000 in
theorem radd_any (n : Int) (A : Option Addr) (cap : Nat) (vs : List Vw) (v : Vw) (w : World) (hT : TArg w A cap vs) :
    Calls Tryd.prog 14 #[.agg #[.int .i64 n, .slice A vs.length cap], .agg v.cells] w (RetAdd (addE n vs v) w) := by
  have HT := Lib.hid hT
  have hfew := hT.few
  clear hT
  go_enter Tryd.func14, Tryd.ntmps14
  unfold Vw.cells
  go_wp2_with fail
  obtain ⟨W0, hW0, b0, b1, b2, hsz, hB0⟩ := threeboxes w #[.int .i64 n, .slice A vs.length cap] v.cells #[.int .i64 0, .slice none 0 0] 24 27 24
  unfold Vw.cells at hW0
  rw [hW0]
  clear hW0
  refine (rcheck_any n A cap vs W0 (HT.out.keep hB0)).mono ?_
  rintro e w1 ⟨rfl, hb⟩
  have d0 := (hb.block _ (by omega)).trans b0
  have d1 := (hb.block _ (by omega)).trans b1
  have d2 := (hb.block _ (by omega)).trans b2
  have B1 : Hid (Below w.heap.size w w1) := hB0.trans (hb.mono (by omega))
  have l1 : w.heap.size + 3 ≤ w1.heap.size := by have := hb.size; omega
  have t0 := blk_cell d0 0 rfl
  have t1 := blk_cell d0 1 rfl
  have q0 := blk_cell d1 0 rfl
  have q1 := blk_cell d1 1 rfl
  have q2 := blk_cell d1 2 rfl
  have q3 := blk_cell d1 3 rfl
  have q4 := blk_cell d1 4 rfl
  have q5 := blk_cell d1 5 rfl
  have q6 := blk_cell d1 6 rfl
  have q7 := blk_cell d1 7 rfl
  have r0 := blk_cell d2 0 rfl
  have r1 := blk_cell d2 1 rfl
  have f0 := blk_froz d2 0
  have f1 := blk_froz d2 1
  have HD0 := Lib.hid d0
  have HD1 := Lib.hid d1
  have HD2 := Lib.hid d2
  clear b0 b1 b2 hsz hB0 hb d0 d1 d2
  by_cases hc : CheckE n vs = 0
  · have e0 : (CheckE n vs != 0) = false := by simp [hc]
    obtain ⟨hwf, h8⟩ := Wf.of_CheckE hc
    obtain ⟨N, rfl⟩ := Int.eq_ofNat_of_zero_le (show 0 ≤ n by have := hwf.1; omega)
    have HC := Lib.hid hc
    have HW := Lib.hid hwf
    clear hc hwf
    go_wp2_with fail
    refine (rview_any N A cap vs v w1 (HT.out.keep B1.out) HW.out).mono ?_
    rintro e w2 ⟨rfl, hb2⟩
    have B2 : Hid (Below w.heap.size w w2) := B1.out.trans (hb2.mono B1.out.size)
    have d0 := (hb2.block _ (by omega)).trans HD0.out
    have d1 := (hb2.block _ (by omega)).trans HD1.out
    have d2 := (hb2.block _ (by omega)).trans HD2.out
    have l2 : w.heap.size + 3 ≤ w2.heap.size := by have := hb2.size; omega
    clear t0 t1 q0 q1 q2 q3 q4 q5 q6 q7 r0 r1 f0 f1 hb2
    have t0 := blk_cell d0 0 rfl
    have t1 := blk_cell d0 1 rfl
    have q0 := blk_cell d1 0 rfl
    have q1 := blk_cell d1 1 rfl
    have q2 := blk_cell d1 2 rfl
    have q3 := blk_cell d1 3 rfl
    have q4 := blk_cell d1 4 rfl
    have q5 := blk_cell d1 5 rfl
    have q6 := blk_cell d1 6 rfl
    have q7 := blk_cell d1 7 rfl
    have r0 := blk_cell d2 0 rfl
    have r1 := blk_cell d2 1 rfl
    have f0 := blk_froz d2 0
    have f1 := blk_froz d2 1
    have K2 := Lib.hid d2
    clear d0 d1 d2
    by_cases hv : checkE N vs v = 0
    · have e1 : (checkE N vs v != 0) = false := by simp [hv]
      have HV := Lib.hid hv
      clear hv
      go_wp2_with fail
      refine (put_any N A cap vs v w2 (HT.out.keep B2.out) (by omega)).mono ?_
      rintro e w3 ⟨hb3, hin, hnew⟩
      have B3 : Hid (Below w.heap.size w w3) := B2.out.trans (hb3.mono B2.out.size)
      have d2 := (hb3.block _ (by omega)).trans K2.out
      have l3 : w.heap.size + 3 ≤ w3.heap.size := by have := hb3.size; omega
      clear t0 t1 q0 q1 q2 q3 q4 q5 q6 q7 r0 r1 f0 f1 hb3
      have r0 := blk_cell d2 0 rfl
      have r1 := blk_cell d2 1 rfl
      have f0 := blk_froz d2 0
      have f1 := blk_froz d2 1
      have l4 : w.heap.size + 1 + 1 < w3.heap.size := by omega
      clear d2
      by_cases hm : v ∈ vs
      · have hz := Lib.hid (addE_old HC.out HV.out hm)
        obtain rfl := hin hm
        have hx : ¬ (8192 : Int) < (vs.length : Int) := by omega
        clear hm hin hnew
        go_wp2_with fail
        have hst : Hid (Below w.heap.size w ((w3.setCell ⟨w.heap.size + 1 + 1, 0, none⟩ (Value.int .i64 N)).setCell ⟨w.heap.size + 1 + 1, 1, none⟩ (Value.slice A vs.length cap))) := (B3.out.setCell (by simp; omega) _).setCell (by simp; omega) _
        have hbs : Hid (Below w.heap.size w (((w3.setCell ⟨w.heap.size + 1 + 1, 0, none⟩ (Value.int .i64 N)).setCell ⟨w.heap.size + 1 + 1, 1, none⟩ (Value.slice A vs.length cap)).alloc (.cells #[.int .i64 N, .slice A vs.length cap] 24))) := hst.out.alloc hst.out.size _
        exact bodyPost_ret (v := .tuple #[.agg #[.int .i64 N, .slice A vs.length cap], .int .i64 (idxE vs v), .int .i64 0]) (by simp [results, Tryd.results14, go_sem, r0, r1, l4]) rfl (RetAdd.of hz.out rfl (HT.out.keep hbs.out) hbs.out)
      · obtain ⟨A3, cap3, rfl, hown⟩ := hnew hm
        have HO := Lib.hid hown
        have HM := Lib.hid hm
        clear hm hin hnew hown
        by_cases h92 : vs.length = 8192
        · have hz := Lib.hid (addE_full HC.out HV.out HM.out h92)
          have hx : (8192 : Int) < (vs.length : Int) + 1 := by omega
          have H92 := Lib.hid h92
          clear h92
          go_wp2_with fail
          have hst : Hid (Below w.heap.size w ((w3.setCell ⟨w.heap.size + 1 + 1, 0, none⟩ (Value.int .i64 0)).setCell ⟨w.heap.size + 1 + 1, 1, none⟩ (Value.slice none 0 0))) := (B3.out.setCell (by simp; omega) _).setCell (by simp; omega) _
          have hbs : Hid (Below w.heap.size w (((w3.setCell ⟨w.heap.size + 1 + 1, 0, none⟩ (Value.int .i64 0)).setCell ⟨w.heap.size + 1 + 1, 1, none⟩ (Value.slice none 0 0)).alloc (.cells #[.int .i64 N, .slice A3 (vs.length + 1) cap3] 24))) := hst.out.alloc hst.out.size _
          exact bodyPost_ret (v := .tuple #[.agg #[.int .i64 0, .slice none 0 0], .int .i64 0, .int .i64 17]) (by simp [results, Tryd.results14, go_sem, r0, r1, l4]) rfl (RetAdd.of hz.out rfl (TArg.nil _) hbs.out)
        · have hz := Lib.hid (addE_new HC.out HV.out HM.out h92)
          have hx : ¬ (8192 : Int) < (vs.length : Int) + 1 := by omega
          clear h92
          go_wp2_with fail
          have hst : Hid (Below w.heap.size w ((w3.setCell ⟨w.heap.size + 1 + 1, 0, none⟩ (Value.int .i64 N)).setCell ⟨w.heap.size + 1 + 1, 1, none⟩ (Value.slice A3 (vs.length + 1) cap3))) := (B3.out.setCell (by simp; omega) _).setCell (by simp; omega) _
          have hbs : Hid (Below w.heap.size w (((w3.setCell ⟨w.heap.size + 1 + 1, 0, none⟩ (Value.int .i64 N)).setCell ⟨w.heap.size + 1 + 1, 1, none⟩ (Value.slice A3 (vs.length + 1) cap3)).alloc (.cells #[.int .i64 N, .slice A3 (vs.length + 1) cap3] 24))) := hst.out.alloc hst.out.size _
          exact bodyPost_ret (v := .tuple #[.agg #[.int .i64 N, .slice A3 (vs.length + 1) cap3], .int .i64 vs.length, .int .i64 0]) (by simp [results, Tryd.results14, go_sem, r0, r1, l4]) rfl (RetAdd.of hz.out (by simp) (TArg.of_own (((HO.out.kept (grown_set1 w3 (w.heap.size + 1 + 1) 0 _) (Or.inr (HO.out.ne (by omega)))).kept (grown_set1 _ (w.heap.size + 1 + 1) 1 _) (Or.inr (HO.out.ne (by omega)))).alloc _) (by simp; omega)) hbs.out)
    · have e1 : (checkE N vs v != 0) = true := by simpa using hv
      have hz := Lib.hid (addE_row HC.out hv)
      clear hv
      go_wp2_with fail
      have hbs : Hid (Below w.heap.size w ((w2.setCell ⟨w.heap.size + 1 + 1, 0, none⟩ (Value.int .i64 0)).setCell ⟨w.heap.size + 1 + 1, 1, none⟩ (Value.slice none 0 0))) := (B2.out.setCell (by simp; omega) _).setCell (by simp; omega) _
      exact bodyPost_ret (v := .tuple #[.agg #[.int .i64 0, .slice none 0 0], .int .i64 0, .int .i64 (checkE N vs v)]) (by simp [results, Tryd.results14, go_sem, r0, r1]) rfl (RetAdd.of hz.out rfl (TArg.nil _) hbs.out)
  · have e0 : (CheckE n vs != 0) = true := by simpa using hc
    have hz := Lib.hid (addE_bad (v := v) hc)
    clear hc
    go_wp2_with fail
    have hbs : Hid (Below w.heap.size w ((w1.setCell ⟨w.heap.size + 1 + 1, 0, none⟩ (Value.int .i64 0)).setCell ⟨w.heap.size + 1 + 1, 1, none⟩ (Value.slice none 0 0))) := (B1.out.setCell (by simp; omega) _).setCell (by simp; omega) _
    exact bodyPost_ret (v := .tuple #[.agg #[.int .i64 0, .slice none 0 0], .int .i64 0, .int .i64 (CheckE n vs)]) (by simp [results, Tryd.results14, go_sem, r0, r1]) rfl (RetAdd.of hz.out rfl (TArg.nil _) hbs.out)
end Go.Proofs.YtdfnmapmnmecnaaDoor
