/- The step from a law's walk to its row; what the reading of integers, slices of integers and strings says of the values; the library's table and variable at the start. -/
import Derived.Test.YtppklecmlkicaaaDoorRows
import Derived.Test.YtppklecmlkicaaaDoorBitsA
import Derived.ProofKit
import Derived.LaidMore
import Derived.OpenShut
import Derived.Carry
import Derived.Deep.Slices
import Derived.Deep.Fields
import Derived.ChangeSame
import Derived.HandedShaped
import Derived.ChangeMaps5
import Derived.ChangeSlices
import Derived.Shelf.Vars
import Derived.Stop.Joined
namespace Go.Proofs.YtppklecmlkicaaaDoor
open Go.ChangeShapes Go.WideShapes Go.ChangeAt Go.RowKit Go.Deep

section
variable {H : Type} {enc : TypeId × Value → H} {P : Program}

theorem post_below {f : Func} {s : ChangeSpec} {apart fresh handsOn again : Bool} {W W' : World} {args : Array Value} {v : Value} {ds gs : List (DataW H)} {before pa pv : List MemPlace}
    (hW : DataW.Whole enc P f.params.toList s.vars apart W args.toList ds gs before)
    (hres : ∀ (b : Nat) (sp : Nat → Bool) (hd : Bool), DataW.TrodAll enc P W' b sp hd f.resultTypes.toList (v.resultList f.resultTypes.size) (s.fn H (ds ++ gs)).results [])
    (hargs : ∀ sp : Nat → Bool, (∀ p ∈ before, sp p.block = true) → DataW.TrodAll enc P W' 0 sp true f.params.toList args.toList (s.fn H (ds ++ gs)).args pa)
    (hvars : ∀ sp : Nat → Bool, (∀ p ∈ before, sp p.block = true) → DataW.TrodVars enc P W' sp s.vars (s.fn H (ds ++ gs)).vars pv)
    (hps : before = pa ++ pv) (hb : Below W.heap.size W W')
    (hok : ∀ (j : Nat) (t : TypeId) (r : Value), f.resultTypes[j]? = some t → (v.resultList f.resultTypes.size)[j]? = some r → Value.okWide P W' .any 0 t r) :
    s.post enc P f apart fresh handsOn again W args v W' := by
  have hlt : ∀ p ∈ before, p.block < W.heap.size := fun p hp => hW.lt p hp
  have hold : ∀ p ∈ before, (fun b => decide (b < W.heap.size)) p.block = true := fun p hp => by simpa using hlt p hp
  refine ⟨ds, gs, before, [], pa, pv, hW, hres _ _ _, hargs _ hold, hvars _ hold, World.keptBut_mono (fun p hp => ⟨hp, ?_⟩) (hb.frame (· ∈ before)), fun _ => ?_⟩
  · rw [hps, List.mem_append] at hp
    exact Or.inr hp
  · obtain ⟨_, _, _, _, _, hz, hn⟩ := hW
    refine ⟨hok, _, _, ([] ++ pa) ++ pv, ⟨[] ++ pa, pv, trodAll_append (hargs _ (fun _ _ => rfl)) (hres _ _ _), hvars _ (fun _ _ => rfl), rfl, ?_, ?_⟩, ?_⟩
    · intro b off hp
      have hin : MemPlace.cell b off ∈ before := by rw [hps]; simpa using hp
      rw [hb.frozen (hlt _ hin)]
      exact hz b off hin
    · intro ha
      have := hn ha
      rw [hps] at this
      simpa using this
    · intro p hp _
      rw [hps]
      simpa using hp

theorem trodAll_stays (hl : laidOutB P = true) {W W' : World} {sp : Nat → Bool} (hb : Below W.heap.size W W') :
    ∀ {ts : List TypeId} {vs : List Value} {ds : List (DataW H)} {ps : List MemPlace}, (∀ t ∈ ts, P.readableRec t = true ∧ t < P.types.size) → DataW.TrodAll enc P W 0 (fun _ => true) true ts vs ds ps →
      (∀ x ∈ ps, x.block < W.heap.size) → (∀ x ∈ ps, sp x.block = true) → DataW.TrodAll enc P W' 0 sp true ts vs ds ps
  | [], [], [], _, _, h, _, _ => h
  | _ :: _, _ :: _, _ :: _, _, hT, ⟨p, q, h1, h2, e⟩, hlt, hs => by
    subst e
    refine ⟨p, q, ?_, trodAll_stays hl hb (fun t ht => hT t (List.mem_cons_of_mem _ ht)) h2 (fun x hx => hlt x (List.mem_append_right _ hx)) (fun x hx => hs x (List.mem_append_right _ hx)), rfl⟩
    have hh := hT _ (List.mem_cons_self ..)
    exact WideElems.Trod_stays hl hh.1 hh.2 h1 (fun x hx => hb.same (hlt x (List.mem_append_left _ hx))) (fun x hx => hs x (List.mem_append_left _ hx))

/-- From a law's walk to its row: the law returns true and leaves what lay as it lay; the walk is told the world's shape. -/
theorem law_liftedS {C : Checked} {os : Os} {f : FuncId} {fn : Func} {s : ChangeSpec} {X : World → Array Value → Prop} {tb : TypeId} (started : os.Started)
    (hX : ∀ (w w' : World) (args : Array Value), w.heap = w'.heap → X w args → X w' args) (own : ownKnob C.prog.godebug = none) (noInit : C.prog.inits.idxOf? f = none) (hfn : C.prog.funcs[f]? = some fn)
    (witness : ∃ (w : World) (tape : Tape) (i : Input), w.os = os ∧ (w.forCall tape i).Shaped C.prog ∧ i.vars = [] ∧ Input.okWide C.prog (w.forCall tape i) .any w.heap.size f i ∧
      ((s.pre enc C.prog fn [] false (w.forCall tape i).memory i.args ∧ X (w.forCall tape i).memory i.args) ∧ sizedMet enc C.prog fn (OpenSpec.ofChange s) false (w.forCall tape i).memory i.args) ∧ ({} : Assume).holds C.prog (lone (Frame.enter C.prog f i.args .normal) [] (w.forCall tape i)))
    (hres : fn.resultTypes = #[tb]) (hbool : C.prog.underlying tb = some .bool) (hl : laidOutB C.prog = true) (hread : ∀ t ∈ fn.params.toList, C.prog.readableRec t = true ∧ t < C.prog.types.size) (hvars : s.vars = [])
    (hs : ∀ ds : List (DataW H), ds.length = fn.params.size → s.fn H ds = { results := [.lit (.bool true)], args := ds })
    (walk : ∀ (W : World) (base : Nat) (args : Array Value) (ds : List (DataW H)) (ps : List MemPlace), (∀ (j : Nat) t v, fn.params[j]? = some t → args[j]? = some v → Value.okWide C.prog W .any base t v) →
      DataW.TrodAll enc C.prog W 0 (fun _ => true) true fn.params.toList args.toList ds ps → (DataW.weightsEach C.prog fn.params.toList ds).all (· ≤ reachBytes) = true → (∀ x ∈ ps, x.block < W.heap.size) → X W args → W.ShapedOpen C.prog →
      Calls C.prog f args W fun e W' => e = .returned (.bool true) ∧ Below W.heap.size W W') :
    ReturnsInHanded {} C os f .any (fun w args => (s.pre enc C.prog fn [] false w args ∧ X w args) ∧ sizedMet enc C.prog fn (OpenSpec.ofChange s) false w args) (s.post enc C.prog fn false true false false) := by
  refine returnsInHanded_of_calls own started noInit witness ?_
  intro w0 tape inp _ hsh _ hokw hpre _
  obtain ⟨_, _, _, fn', hfn', _, _, _, _, hval0⟩ := hokw
  obtain rfl : fn' = fn := Option.some.inj (hfn'.symm.trans hfn)
  obtain ⟨⟨⟨ds, gs, before, hW0, _⟩, hX0⟩, hz⟩ := hpre
  have hW := DataW.Whole.of_heap (w' := w0.forCall tape inp) (by rfl) hW0
  have hsz0 := hz.weights hW0
  have hL := hX _ (w0.forCall tape inp) _ (by rfl) hX0
  obtain ⟨W, hWe⟩ : ∃ W, w0.forCall tape inp = W := ⟨_, rfl⟩
  obtain ⟨args, hae⟩ : ∃ args, inp.args = args := ⟨_, rfl⟩
  obtain ⟨base, hbe⟩ : ∃ base, w0.heap.size = base := ⟨_, rfl⟩
  rw [hWe, hae] at hW hL
  rw [hWe] at hsh
  rw [hWe, hbe, hae] at hval0
  have hW' := hW
  obtain ⟨p, q, hA0, hV, hpq, hfz, hnd⟩ := hW
  have hA : DataW.TrodAll enc C.prog W 0 (fun _ => true) true fn'.params.toList args.toList ds p := hA0
  have hgs : gs = [] ∧ q = [] := by
    rw [hvars] at hV
    exact trodVars_none hV
  obtain ⟨rfl, rfl⟩ := hgs
  have hlen : ∀ {ts : List TypeId} {vs : List Value} {ds : List (DataW H)} {ps : List MemPlace}, DataW.TrodAll enc C.prog W 0 (fun _ => true) true ts vs ds ps → ds.length = ts.length := by
    intro ts
    induction ts with
    | nil => intro vs ds ps h; obtain ⟨_, rfl, _⟩ := trodAll_nil h; rfl
    | cons t ts ih => intro vs ds ps h; obtain ⟨_, _, _, _, _, _, _, rfl, _, _, h2⟩ := trodAll_cons h; simp [ih h2]
  have hdl : ds.length = fn'.params.size := by rw [hlen hA]; simp
  have hbp : before = p := by rw [hpq, List.append_nil]
  subst hbp
  have hlt : ∀ x ∈ before, x.block < W.heap.size := fun x hx => hW'.lt x hx
  have hsz' : (DataW.weightsEach C.prog fn'.params.toList ds).all (· ≤ reachBytes) = true := by
    have e : s.plain.varTypes C.prog = [] := by simp [ChangeSpec.plain, DataSpec.varTypes, hvars]
    have e2 : (OpenSpec.ofChange s).bare.plain.varTypes C.prog = [] := e
    rw [e2, List.append_nil, List.append_nil] at hsz0
    exact hsz0
  rw [hWe, hae]
  refine (walk W base args ds before hval0 hA hsz' hlt hL hsh).mono fun e W' ⟨he, hb⟩ => ?_
  subst he
  refine ChangeSpec.post_blind (post_below (pa := before) (pv := []) hW' ?_ ?_ ?_ (by rw [List.append_nil]) hb ?_)
  · intro b sp hd
    rw [List.append_nil, hs ds hdl, hres]
    exact trodAll_mk1 (shut_bool hbool _)
  · intro sp hsp
    rw [List.append_nil, hs ds hdl]
    exact trodAll_stays hl hb hread hA hlt hsp
  · intro sp hsp
    rw [List.append_nil, hs ds hdl, hvars]
    rfl
  · exact ok_one hres rfl (okWide_bool_mk hbool _)

/-- An array of integers that reads as a known list. -/
theorem arr_cells {W : World} {base : Nat} {sp : Nat → Bool} {hd : Bool} {fuel n : Nat} {T e : TypeId} {k : IntKind} {cs : List Value} {zs : List Int} {ps : List MemPlace} (hT : P.underlying T = some (.array n e)) (he : P.underlying e = some (.int k)) (hc : P.cellsOf e = 1)
    (h : DataW.trod enc P W base sp hd fuel T cs = some (.agg (zs.map fun z => .lit (.int k z)), ps)) : ∀ i (hi : i < zs.length), cs[i]? = some (.int k zs[i]) := by
  obtain ⟨xs, m, _, hx, _, hn, hel⟩ := DataW.trod_array hT h
  intro i hi
  simp only [Prod.mk.injEq, DataW.agg.injEq] at hx
  have hlen : zs.length = xs.length := by have := congrArg List.length hx.1; simpa using this
  have hxi := hel i (by omega)
  rw [hc, Nat.mul_one] at hxi
  rw [List.getElem?_eq_getElem (show i < xs.length by omega)] at hxi
  obtain ⟨z, e1, e2, _⟩ := DataW.trod_int he hxi
  have h3 : (zs.map fun z => (DataW.lit (Lit.int k z) : DataW H))[i]'(by simpa using hi) = (xs.map (·.1))[i]'(by simp; omega) := by
    simp only [hx.1]
  simp only [List.getElem_map] at h3
  rw [e2] at h3
  have hz : zs[i] = z := by simpa using h3
  rw [hz]
  have h4 := congrArg (·[0]?) e1
  simp only [List.getElem?_take, List.getElem?_drop] at h4
  simpa using h4
end

theorem cellsI : Tryd.prog.cellsOf 3 = 1 := by kernel_rfl
theorem bytesI : Tryd.prog.bytesOf 3 = 8 := by kernel_rfl
theorem lawLaidOut : laidOutB Tryd.prog = true := by kernel_rfl
theorem lawOwn : ownKnob Tryd.prog.godebug = none := by kernel_rfl

section
variable {H : Type} {enc : TypeId × Value → H} {W : World}
set_option maxRecDepth 100000 in
/-- A slice of integers that came in. -/
theorem open_intsArg {b0 : Nat} {v : Value} {d : DataW H} {p : List MemPlace} (hv : Value.okWide Tryd.prog W .any b0 22 v) (h : DataW.Trod enc Tryd.prog W 0 (fun _ => true) true 22 v d p) (hsz : (d.weights Tryd.prog 22).all (· ≤ reachBytes) = true) :
    ∃ (A : Option Addr) (xs : List Int) (cap : Nat), v = .slice A xs.length cap ∧ IAt W W.heap.size A xs ∧ xs.length ≤ cap ∧ cap ≤ maxLen ∧ xs.length * 8 ≤ reachBytes := by
  obtain ⟨fuel, hf⟩ := h
  obtain ⟨a0, len0, cap0, rfl⟩ := okWide_slice Tryd.underlying22 hv
  rcases open_ints Tryd.underlying22 Tryd.underlying3 cellsI hf with ⟨e, _⟩ | ⟨a, len, cap, zs, e, _, hlc, hcm, hzl, hx, hcell, _⟩
  · simp only [Value.cells, List.cons.injEq, and_true] at e
    cases e
    exact ⟨none, [], 0, rfl, IAt.nil _ _ _, by simp, Nat.zero_le _, by simp⟩
  · simp only [Value.cells, List.cons.injEq, and_true] at e
    cases e
    have hzc : zs.length = cap0 := hzl
    have hlen : (zs.take len0).length = len0 := by rw [List.length_take]; omega
    have hd : d = .slice (lits .i64 (zs.take len0)) (lits .i64 (zs.drop len0)) := by
      have := congrArg Prod.fst hx
      simpa using this
    subst hd
    have hw : len0 * 8 ≤ reachBytes := by
      have h1 := List.all_eq_true.1 hsz _ (by
        simp only [DataW.weights, Tryd.underlying22]
        exact List.mem_cons_self ..)
      rw [bytesI] at h1
      have h2 : ((lits .i64 (zs.take len0) : List (DataW H)).length + (lits .i64 (zs.drop len0) : List (DataW H)).length) * 8 ≤ reachBytes := by simpa using h1
      have h3 : (lits .i64 (zs.take len0) : List (DataW H)).length = len0 := by unfold lits; rw [List.length_map, hlen]
      rw [h3] at h2
      exact Nat.le_trans (Nat.mul_le_mul_right _ (Nat.le_add_right _ _)) h2
    refine ⟨some a, zs.take len0, cap0, by rw [hlen], fun h0 => ?_, by rw [hlen]; exact hlc, hcm, by rw [hlen]; exact hw⟩
    rw [hlen] at h0
    have h00 := hcell 0 (by omega)
    obtain ⟨b, off, spot⟩ := a
    have hspot : spot = none := by simpa [Addr.add] using World.cell?_spot h00
    subst hspot
    refine ⟨b, off, rfl, ?_, fun i hi => ?_⟩
    · have := World.block_lt_of_cell? W _ h00
      simpa [Addr.add] using this
    · rw [hlen] at hi
      have := hcell i (by omega)
      rw [add_plain] at this
      rw [this]
      simp [List.getD_eq_getElem?_getD, show i < zs.length by omega]

set_option maxRecDepth 100000 in
theorem open_strArg {b0 : Nat} {v : Value} {d : DataW H} {p : List MemPlace} (hv : Value.okWide Tryd.prog W .any b0 9 v) (h : DataW.Trod enc Tryd.prog W 0 (fun _ => true) true 9 v d p) (hsz : (d.weights Tryd.prog 9).all (· ≤ reachBytes) = true) :
    ∃ s : ByteArray, v = .string s ∧ s.size ≤ reachBytes := by
  obtain ⟨s, rfl, rfl, _, _⟩ := Go.ChangeMaps.open_string Tryd.underlying9 hv h
  refine ⟨s, rfl, ?_⟩
  have := List.all_eq_true.1 hsz s.data.toList.length (by simp [DataW.weights])
  have h2 : s.data.toList.length ≤ reachBytes := of_decide_eq_true this
  rw [Array.length_toList] at h2
  exact h2
end

theorem gTab : Tryd.prog.globalNamed "math/bits.deBruijn64tab" = some 1 := by kernel_rfl
theorem gTab0 : Tryd.prog.globalNamed "math/bits.deBruijn32tab" = some 0 := by kernel_rfl
theorem tTab : (Tryd.prog.globals[1]?).map (·.type) = some 106 := by kernel_rfl

def tabL : List Int := [0, 1, 56, 2, 57, 49, 28, 3, 61, 58, 42, 50, 38, 29, 17, 4, 62, 47, 59, 36, 45, 43, 51, 22, 53, 39, 33, 30, 24, 18, 12, 5, 63, 55, 48, 27, 60, 41, 37, 16, 46, 35, 44, 21, 52, 32, 23, 11, 54, 26, 40, 15, 34, 20, 31, 10, 25, 14, 19, 9, 13, 8, 7, 6]
theorem tab_plain {j : Nat} (hj : j < 32) (h0 : j ≠ 0) : tabL[(IntKind.u64.wrap (bits BinOp.and IntKind.u64 (j : Int) (IntKind.u64.wrap (-(j : Int))) * 285870213051353865) / 288230376151711744).toNat]? = some ((low j : Nat) : Int) := by
  have h := of32 (p := fun j => j == 0 || decide (tabL[(IntKind.u64.wrap (bits BinOp.and IntKind.u64 (j : Int) (IntKind.u64.wrap (-(j : Int))) * 285870213051353865) / 288230376151711744).toNat]? = some ((low j : Nat) : Int))) (by decide +kernel) hj
  simpa [h0] using h
theorem tab_of_cells {W : World} (h : ∀ i (hi : i < tabL.length), W.cell? ⟨1, i, none⟩ = some (.int .u8 tabL[i])) : Tab W := fun j hj h0 => by
  have hp := tab_plain hj h0
  obtain ⟨hi, he⟩ := List.getElem?_eq_some_iff.1 hp
  rw [h _ hi, he]

def laidP : List (String × DataW Unit) := [("math/bits.deBruijn32tab", Rows.laid_math_bits_deBruijn32tab), ("math/bits.deBruijn64tab", Rows.laid_math_bits_deBruijn64tab), ("internal/strconv.uint64pow10", Rows.laid_internal_strconv_uint64pow10), ("unicode/utf8.acceptRanges", Rows.laid_unicode_utf8_acceptRanges), ("unicode/utf8.first", Rows.laid_unicode_utf8_first)]
set_option maxRecDepth 100000 in
theorem tab_laid {W : World} (h : laidMetH Tryd.prog laidP W) : Tab W := by
  rw [MakeChecks.laidMetH_plain _ _ _ (by kernel_rfl)] at h
  obtain ⟨ps, ⟨g0, t0, cs0, f0, p0, q0, hg0, ht0, hv0, hd0, ⟨g1, t1, cs1, f1, p1, q1, hg1, ht1, hv1, hd1, _, _⟩, _⟩, _, _⟩ := h
  obtain rfl := Option.some.inj (gTab.symm.trans hg1)
  obtain rfl := Option.some.inj (tTab.symm.trans ht1)
  have hd : DataW.trod _ Tryd.prog W 0 _ false f1 106 cs1.toList = some (.agg (tabL.map fun z => .lit (.int .u8 z)), p1) := hd1
  have hc := arr_cells Tryd.underlying106 Tryd.underlying5 (by kernel_rfl) hd
  refine tab_of_cells fun i hi => ?_
  rw [World.var?_cell hg1 hv1 i]
  have := hc i hi
  simpa using this
/-- The cell of the library's own variable holds some integer. -/
theorem max_cell {W : World} (h : W.ShapedOpen Tryd.prog) : ∃ m, W.cell? ⟨3, 0, none⟩ = some (.int .i64 m) :=
  cell_of_shapedOpen_int (g := 3) (t := 3) (zero := #[.int .i64 0]) h (of_decide_eq_true (by kernel_rfl)) (by kernel_rfl) rfl (by kernel_rfl) (by kernel_rfl) Tryd.underlying3
theorem four_blocks {W : World} {m : Int} (h : W.cell? ⟨3, 0, none⟩ = some (.int .i64 m)) : 4 ≤ W.heap.size := World.block_lt_of_cell? W _ h
end Go.Proofs.YtppklecmlkicaaaDoor
