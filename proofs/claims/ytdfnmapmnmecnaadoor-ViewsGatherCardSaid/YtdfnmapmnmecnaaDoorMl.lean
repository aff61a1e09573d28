/- Part OpenT. What each part says stands at its head; no part has a condition beyond its own statements. -/
import Derived.Test.YtdfnmapmnmecnaaDoorRows
import Derived.Test.YtdfnmapmnmecnaaDoorMb
import Derived.ProofKit
import Derived.LaidMore
import Derived.OpenShut
import Derived.Carry
import Derived.Deep.Slices
import Derived.Deep.Fields
import Derived.ChangeSame
import Derived.Stop.Joined

/- What the reading of a table, of a view, of an integer says of the values; the step from a law's walk to its row. -/
namespace Go.Proofs.YtdfnmapmnmecnaaDoor
open Go.ChangeShapes Go.WideShapes Go.ChangeAt Go.RowKit Go.Deep

section
variable {H : Type} {enc : TypeId × Value → H} {P : Program}

theorem post_below {f : Func} {s : ChangeSpec} {apart fresh handsOn again : Bool} {W W' : World} {args : Array Value} {v : Value} {ds gs : List (DataW H)} {before pa pv : List MemPlace}
    (hW : DataW.Whole enc P f.params.toList s.vars apart W args.toList ds gs before)
    (hres : ∀ (b : Nat) (sp : Nat → Bool) (hd : Bool), DataW.TrodAll enc P W' b sp hd f.resultTypes.toList (v.resultList f.resultTypes.size) (s.fn H (ds ++ gs)).results [])
    (hargs : ∀ sp : Nat → Bool, (∀ p ∈ before, sp p.block = true) → DataW.TrodAll enc P W' 0 sp true f.params.toList args.toList (s.fn H (ds ++ gs)).args pa)
    (hvars : ∀ sp : Nat → Bool, (∀ p ∈ before, sp p.block = true) → DataW.TrodVars enc P W' sp s.vars (s.fn H (ds ++ gs)).vars pv)
    (hps : before = pa ++ pv) (hb : Below W.heap.size W W')
    (hok : ∀ (j : Nat) (t : TypeId) (r : Value), f.resultTypes[j]? = some t → (v.resultList f.resultTypes.size)[j]? = some r → Value.okWide P W' .any 0 t r) :
    s.post enc P f apart fresh handsOn again W args v W' := by
  have hlt : ∀ p ∈ before, p.block < W.heap.size := fun p hp => hW.lt p hp
  have hold : ∀ p ∈ before, (fun b => decide (b < W.heap.size)) p.block = true := fun p hp => by simpa using hlt p hp
  refine ⟨ds, gs, before, [], pa, pv, hW, hres _ _ _, hargs _ hold, hvars _ hold, World.keptBut_mono (fun p hp => ⟨hp, ?_⟩) (hb.frame (· ∈ before)), fun _ => ?_⟩
  · rw [hps, List.mem_append] at hp
    exact Or.inr hp
  · obtain ⟨_, _, _, _, _, hz, hn⟩ := hW
    refine ⟨hok, _, _, ([] ++ pa) ++ pv, ⟨[] ++ pa, pv, trodAll_append (hargs _ (fun _ _ => rfl)) (hres _ _ _), hvars _ (fun _ _ => rfl), rfl, ?_, ?_⟩, ?_⟩
    · intro b off hp
      have hin : MemPlace.cell b off ∈ before := by rw [hps]; simpa using hp
      rw [hb.frozen (hlt _ hin)]
      exact hz b off hin
    · intro ha
      have := hn ha
      rw [hps] at this
      simpa using this
    · intro p hp _
      rw [hps]
      simpa using hp

theorem trodAll_stays (hl : laidOutB P = true) {W W' : World} {sp : Nat → Bool} (hb : Below W.heap.size W W') :
    ∀ {ts : List TypeId} {vs : List Value} {ds : List (DataW H)} {ps : List MemPlace}, (∀ t ∈ ts, P.readableRec t = true ∧ t < P.types.size) → DataW.TrodAll enc P W 0 (fun _ => true) true ts vs ds ps →
      (∀ x ∈ ps, x.block < W.heap.size) → (∀ x ∈ ps, sp x.block = true) → DataW.TrodAll enc P W' 0 sp true ts vs ds ps
  | [], [], [], _, _, h, _, _ => h
  | _ :: _, _ :: _, _ :: _, _, hT, ⟨p, q, h1, h2, e⟩, hlt, hs => by
    subst e
    refine ⟨p, q, ?_, trodAll_stays hl hb (fun t ht => hT t (List.mem_cons_of_mem _ ht)) h2 (fun x hx => hlt x (List.mem_append_right _ hx)) (fun x hx => hs x (List.mem_append_right _ hx)), rfl⟩
    have hh := hT _ (List.mem_cons_self ..)
    exact WideElems.Trod_stays hl hh.1 hh.2 h1 (fun x hx => hb.same (hlt x (List.mem_append_left _ hx))) (fun x hx => hs x (List.mem_append_left _ hx))

/-- From a law's walk to its row: the law returns true and leaves what lay as it lay. -/
theorem law_lifted {C : Checked} {os : Os} {f : FuncId} {fn : Func} {s : ChangeSpec} {X : World → Array Value → Prop} {tb : TypeId} (started : os.Started)
    (hX : ∀ (w w' : World) (args : Array Value), w.heap = w'.heap → X w args → X w' args) (own : ownKnob C.prog.godebug = none) (noInit : C.prog.inits.idxOf? f = none) (hfn : C.prog.funcs[f]? = some fn)
    (witness : ∃ (w : World) (tape : Tape) (i : Input), w.os = os ∧ (w.forCall tape i).Shaped C.prog ∧ i.vars = [] ∧ Input.okWide C.prog (w.forCall tape i) .any w.heap.size f i ∧
      ((s.pre enc C.prog fn [] false (w.forCall tape i).memory i.args ∧ X (w.forCall tape i).memory i.args) ∧ sizedMet enc C.prog fn (OpenSpec.ofChange s) false (w.forCall tape i).memory i.args) ∧ ({} : Assume).holds C.prog (lone (Frame.enter C.prog f i.args .normal) [] (w.forCall tape i)))
    (hres : fn.resultTypes = #[tb]) (hbool : C.prog.underlying tb = some .bool) (hl : laidOutB C.prog = true) (hread : ∀ t ∈ fn.params.toList, C.prog.readableRec t = true ∧ t < C.prog.types.size) (hvars : s.vars = [])
    (hs : ∀ ds : List (DataW H), ds.length = fn.params.size → s.fn H ds = { results := [.lit (.bool true)], args := ds })
    (walk : ∀ (W : World) (base : Nat) (args : Array Value) (ds : List (DataW H)) (ps : List MemPlace), (∀ (j : Nat) t v, fn.params[j]? = some t → args[j]? = some v → Value.okWide C.prog W .any base t v) →
      DataW.TrodAll enc C.prog W 0 (fun _ => true) true fn.params.toList args.toList ds ps → (DataW.weightsEach C.prog fn.params.toList ds).all (· ≤ reachBytes) = true → (∀ x ∈ ps, x.block < W.heap.size) → X W args →
      Calls C.prog f args W fun e W' => e = .returned (.bool true) ∧ Below W.heap.size W W') :
    ReturnsInHanded {} C os f .any (fun w args => (s.pre enc C.prog fn [] false w args ∧ X w args) ∧ sizedMet enc C.prog fn (OpenSpec.ofChange s) false w args) (s.post enc C.prog fn false true false false) := by
  refine returnsInHanded_of_change_and (C := C) (X := X) hX own started noInit hfn witness ?_
  intro W base args ds gs before hval0 hW _ hsz hL _
  have hW' := hW
  obtain ⟨p, q, hA0, hV, hpq, hfz, hnd⟩ := hW
  have hA : DataW.TrodAll enc C.prog W 0 (fun _ => true) true fn.params.toList args.toList ds p := hA0
  have hgs : gs = [] ∧ q = [] := by
    rw [hvars] at hV
    exact trodVars_none hV
  obtain ⟨rfl, rfl⟩ := hgs
  have hlen : ∀ {ts : List TypeId} {vs : List Value} {ds : List (DataW H)} {ps : List MemPlace}, DataW.TrodAll enc C.prog W 0 (fun _ => true) true ts vs ds ps → ds.length = ts.length := by
    intro ts
    induction ts with
    | nil => intro vs ds ps h; obtain ⟨_, rfl, _⟩ := trodAll_nil h; rfl
    | cons t ts ih => intro vs ds ps h; obtain ⟨_, _, _, _, _, _, _, rfl, _, _, h2⟩ := trodAll_cons h; simp [ih h2]
  have hdl : ds.length = fn.params.size := by rw [hlen hA]; simp
  have hbp : before = p := by rw [hpq, List.append_nil]
  subst hbp
  have hlt : ∀ x ∈ before, x.block < W.heap.size := fun x hx => hW'.lt x hx
  have hsz' : (DataW.weightsEach C.prog fn.params.toList ds).all (· ≤ reachBytes) = true := by
    have e : s.plain.varTypes C.prog = [] := by simp [ChangeSpec.plain, DataSpec.varTypes, hvars]
    rw [e, List.append_nil, List.append_nil] at hsz
    exact hsz
  refine (walk W base args ds before hval0 hA hsz' hlt hL).mono fun e W' ⟨he, hb⟩ => ?_
  subst he
  refine ⟨_, rfl, post_below (pa := before) (pv := []) hW' ?_ ?_ ?_ (by rw [List.append_nil]) hb ?_⟩
  · intro b sp hd
    rw [List.append_nil, hs ds hdl, hres]
    exact trodAll_mk1 (shut_bool hbool _)
  · intro sp hsp
    rw [List.append_nil, hs ds hdl]
    exact trodAll_stays hl hb hread hA hlt hsp
  · intro sp hsp
    rw [List.append_nil, hs ds hdl, hvars]
    rfl
  · exact ok_one hres rfl (okWide_bool_mk hbool _)
end

theorem cellsT : Tryd.prog.cellsOf 24 = 2 := by kernel_rfl
theorem cellsV : Tryd.prog.cellsOf 27 = 8 := by kernel_rfl
theorem cellsI : Tryd.prog.cellsOf 3 = 1 := by kernel_rfl
theorem cells5 : Tryd.prog.cellsOf 25 = 5 := by kernel_rfl
theorem bytesV : Tryd.prog.bytesOf 27 = 64 := by kernel_rfl
theorem lawLaidOut : laidOutB Tryd.prog = true := by kernel_rfl
theorem lawOwn : ownKnob Tryd.prog.godebug = none := by kernel_rfl

section
variable {H : Type} {enc : TypeId × Value → H} {W : World} {base : Nat} {spare : Nat → Bool} {held : Bool}
set_option maxRecDepth 100000 in
/-- Eight cells that read as a view are eight integers. -/
theorem open_view {fuel : Nat} {cs : List Value} {x : DataW H × List MemPlace} (h : DataW.trod enc Tryd.prog W base spare held fuel 27 cs = some x) : ∃ v : Vw, cs = v.cells.toList := by
  obtain ⟨xs, n, rfl, _, hl, hxl, hf⟩ := DataW.trod_struct Tryd.underlying27 h
  rw [cellsV] at hl
  have hxl4 : xs.length = 4 := hxl
  match cs, hl with
  | [c0, c1, c2, c3, c4, c5, c6, c7], _ =>
    have f0 := hf 0 _ rfl
    have f1 := hf 1 _ rfl
    have f2 := hf 2 _ rfl
    have f3 := hf 3 _ rfl
    match xs, hxl4 with
    | [x0, x1, x2, x3], _ =>
      have g0 : DataW.trod enc Tryd.prog W base spare held n 3 [c0] = some x0 := by simpa [cellsI] using f0
      have g1 : DataW.trod enc Tryd.prog W base spare held n 3 [c1] = some x1 := by simpa [cellsI] using f1
      have g2 : DataW.trod enc Tryd.prog W base spare held n 3 [c2] = some x2 := by simpa [cellsI] using f2
      have g3 : DataW.trod enc Tryd.prog W base spare held n 25 [c3, c4, c5, c6, c7] = some x3 := by simpa [cells5] using f3
      obtain ⟨i0, e0, _, _⟩ := DataW.trod_int Tryd.underlying3 g0
      obtain ⟨i1, e1, _, _⟩ := DataW.trod_int Tryd.underlying3 g1
      obtain ⟨i2, e2, _, _⟩ := DataW.trod_int Tryd.underlying3 g2
      obtain ⟨ys, m, rfl, _, _, hyl, hi⟩ := DataW.trod_array Tryd.underlying25 g3
      have k0 := hi 0 (by decide)
      have k1 := hi 1 (by decide)
      have k2 := hi 2 (by decide)
      have k3 := hi 3 (by decide)
      have k4 := hi 4 (by decide)
      match ys, hyl with
      | [y0, y1, y2, y3, y4], _ =>
        have j0 : DataW.trod enc Tryd.prog W base spare held m 3 [c3] = some y0 := by simpa [cellsI] using k0
        have j1 : DataW.trod enc Tryd.prog W base spare held m 3 [c4] = some y1 := by simpa [cellsI] using k1
        have j2 : DataW.trod enc Tryd.prog W base spare held m 3 [c5] = some y2 := by simpa [cellsI] using k2
        have j3 : DataW.trod enc Tryd.prog W base spare held m 3 [c6] = some y3 := by simpa [cellsI] using k3
        have j4 : DataW.trod enc Tryd.prog W base spare held m 3 [c7] = some y4 := by simpa [cellsI] using k4
        obtain ⟨a0, b0, _, _⟩ := DataW.trod_int Tryd.underlying3 j0
        obtain ⟨a1, b1, _, _⟩ := DataW.trod_int Tryd.underlying3 j1
        obtain ⟨a2, b2, _, _⟩ := DataW.trod_int Tryd.underlying3 j2
        obtain ⟨a3, b3, _, _⟩ := DataW.trod_int Tryd.underlying3 j3
        obtain ⟨a4, b4, _, _⟩ := DataW.trod_int Tryd.underlying3 j4
        cases e0; cases e1; cases e2; cases b0; cases b1; cases b2; cases b3; cases b4
        exact ⟨⟨i0, i1, i2, a0, a1, a2, a3, a4⟩, rfl⟩
set_option maxRecDepth 100000 in
/-- A view that is handed over by value. -/
theorem open_viewArg {b0 : Nat} {v : Value} {d : DataW H} {p : List MemPlace} (hv : Value.okWide Tryd.prog W .any b0 27 v) (h : DataW.Trod enc Tryd.prog W base spare held 27 v d p) : ∃ u : Vw, v = .agg u.cells := by
  obtain ⟨cs, rfl, _⟩ := okWide_struct Tryd.underlying27 hv
  obtain ⟨fuel, hf⟩ := h
  obtain ⟨u, hu⟩ := open_view hf
  refine ⟨u, ?_⟩
  have : cs = u.cells := by
    have e : cs.toList = u.cells.toList := hu
    exact Array.toList_inj.1 e
  rw [this]

set_option maxRecDepth 100000 in
/-- A table that is handed over by value. -/
theorem open_tableArg {b0 : Nat} {v : Value} {d : DataW H} {p : List MemPlace} (hv : Value.okWide Tryd.prog W .any b0 24 v) (h : DataW.Trod enc Tryd.prog W base spare held 24 v d p) (hsz : (d.weights Tryd.prog 24).all (· ≤ reachBytes) = true) :
    ∃ (n : Int) (A : Option Addr) (vs : List Vw) (cap : Nat), v = .agg #[.int .i64 n, .slice A vs.length cap] ∧ VAt W W.heap.size A vs ∧ vs.length ≤ cap ∧ cap ≤ maxLen ∧ vs.length ≤ 2199023255552 := by
  obtain ⟨cs, rfl, _⟩ := okWide_struct Tryd.underlying24 hv
  obtain ⟨fuel, hf⟩ := h
  obtain ⟨xs, n, rfl, hx, hl, hxl, hfd⟩ := DataW.trod_struct Tryd.underlying24 hf
  rw [cellsT] at hl
  have hxl2 : xs.length = 2 := hxl
  obtain ⟨cl⟩ := cs
  match cl, hl with
  | [c0, c1], _ =>
    have f0 := hfd 0 _ rfl
    have f1 := hfd 1 _ rfl
    match xs, hxl2 with
    | [x0, x1], _ =>
      have g0 : DataW.trod enc Tryd.prog W base spare held n 3 [c0] = some x0 := by simpa [cellsI, Value.cells] using f0
      have cS : Tryd.prog.cellsOf 22 = 1 := by kernel_rfl
      have g1 : DataW.trod enc Tryd.prog W base spare held n 22 [c1] = some x1 := by simpa [cS, Value.cells] using f1
      obtain ⟨i0, e0, _, _⟩ := DataW.trod_int Tryd.underlying3 g0
      cases e0
      rcases open_slice Tryd.underlying22 g1 with ⟨e1, _⟩ | ⟨a, len, cap, m, n', D, Pl, e1, _, hlc, hcm, hm, hx1, hi⟩
      · cases e1
        exact ⟨i0, none, [], 0, rfl, fun h => absurd h (by simp), by simp, Nat.zero_le _, by simp⟩
      · cases e1
        have hlm : len ≤ m := by rw [hm]; split <;> omega
        have hview : ∀ i, i < len → ∃ u : Vw, ∀ (k : Nat) (y : Value), u.cells[k]? = some y → W.cell? (a.add (i * 8 + k)) = some y := fun i hlt => by
          obtain ⟨cs', hc, ht'⟩ := hi i (by omega)
          rw [cellsV] at hc
          obtain ⟨u, hu⟩ := open_view ht'
          obtain ⟨_, hcl, hat⟩ := World.cells?_some hc
          refine ⟨u, fun k y hk => ?_⟩
          have hk8 : k < 8 := by have := (Array.getElem?_eq_some_iff.1 hk).1; exact this
          have := hat k hk8
          rw [hu] at this
          rw [← Go.Deep.add_add, this]
          simpa using hk
        have hsz1 : len * 64 ≤ reachBytes := by
          have e : (x1.1).weights Tryd.prog 22 = _ := rfl
          have hd : d = .agg [x0.1, x1.1] := by
            have := congrArg Prod.fst hx
            simpa using this
          subst hd
          have hmem : (len + (m - len)) * 64 ∈ (DataW.agg [x0.1, x1.1]).weights Tryd.prog 24 := by
            simp only [DataW.weights, Tryd.underlying24]
            refine DataW.weights_mem_each (ts := [3, 22]) (ds := [x0.1, x1.1]) (j := 1) rfl rfl _ ?_
            rw [hx1]
            simp [DataW.weights, Tryd.underlying22, bytesV]
          have := List.all_eq_true.1 hsz _ hmem
          have h2 : (len + (m - len)) * 64 ≤ reachBytes := by simpa using this
          have : len * 64 ≤ (len + (m - len)) * 64 := Nat.mul_le_mul_right _ (by omega)
          omega
        have hlen : len ≤ 2199023255552 := by unfold reachBytes at hsz1; omega
        obtain ⟨us, hul, hus⟩ : ∃ us : List Vw, us.length = len ∧ ∀ i (hi : i < us.length), ∀ (k : Nat) (y : Value), us[i].cells[k]? = some y → W.cell? (a.add (i * 8 + k)) = some y := by
          refine ⟨(List.range len).map fun i => if h : i < len then Classical.choose (hview i h) else default, by simp, fun i hi k y hk => ?_⟩
          have hi' : i < len := by simpa using hi
          simp only [List.getElem_map, List.getElem_range, hi', dite_true] at hk
          exact Classical.choose_spec (hview i hi') k y hk
        subst hul
        refine ⟨i0, some a, us, cap, rfl, fun h0 => ?_, hlc, hcm, hlen⟩
        have h00 := hus 0 h0 0 _ rfl
        obtain ⟨b, off, spot⟩ := a
        have hspot : spot = none := by simpa [Addr.add] using World.cell?_spot h00
        subst hspot
        refine ⟨b, off, rfl, ?_, fun i hi k y hk => ?_⟩
        · have := World.block_lt_of_cell? W _ h00
          simpa [Addr.add] using this
        · have := hus i hi k y hk
          rw [add_plain] at this
          rw [← Nat.add_assoc] at this
          exact this
end
end Go.Proofs.YtdfnmapmnmecnaaDoor
