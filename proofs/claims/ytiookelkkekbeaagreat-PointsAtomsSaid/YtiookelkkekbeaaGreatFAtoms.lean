/- PointsAtoms: Atom returns the set of points or the error of the reference for all systems, rules and formulas: the law answers true for every input, and its arguments read behind the call as before. No further condition. -/
import Derived.Test.YtiookelkkekbeaaGreatRows
import Derived.Test.YtiookelkkekbeaaGreatPf
import Derived.Test.YtiookelkkekbeaaGreatPk

namespace Go.Proofs.YtiookelkkekbeaaGreat
open Go.ChangeShapes Go.WideShapes Go.ChangeAt Go.RowKit
set_option maxRecDepth 100000 in
theorem lifted (os : Os) (started : os.Started) (H : Type) (enc : TypeId × Value → H) :
    ReturnsInHanded {} Tryz.checked os 3 .any (fun w args=>Rows.pointsAtomsSpec.pre enc Tryz.prog Tryz.f3 [] false w args∧sizedMet enc Tryz.prog Tryz.f3 (OpenSpec.ofChange Rows.pointsAtomsSpec) false w args)
      (Rows.pointsAtomsSpec.post enc Tryz.prog Tryz.f3 false true false false):=by
  suffices h : ReturnsInHanded {} Tryz.checked os 3 .any (fun w args => (Rows.pointsAtomsSpec.pre enc Tryz.prog Tryz.f3 [] false w args ∧ True) ∧ sizedMet enc Tryz.prog Tryz.f3 (OpenSpec.ofChange Rows.pointsAtomsSpec) false w args)
      (Rows.pointsAtomsSpec.post enc Tryz.prog Tryz.f3 false true false false) by simpa only [and_true] using h
  refine uj (C:=Tryz.checked) (X:=fun _ _=>True) started (fun _ _ _ _ h=>h) lawOwn (by kernel_rfl) Tryz.func3
    (ChangeSpec.witness_shaped (enc:=enc) (C:=Tryz.checked) (os:=os) (X:=fun _ _=>True) false (World.doorLaid Tryz.prog 400 os)
      #[.agg #[.int .i64 0,.int .i64 0,.int .i64 0,.slice none 0 0,.int .i64 0,.slice none 0 0,.int .i64 0,.int .i64 0,.slice none 0 0,.slice none 0 0],.agg #[.slice none 0 0],.agg #[.int .i64 0,.int .i64 0,.int .i64 0,.int .i64 0,.int .i64 0,.slice none 0 0]] 8 rfl (World.shaped_of_RefB (by kernel_rfl) (by kernel_rfl)) (by kernel_rfl) (by kernel_rfl) (by kernel_rfl) trivial)
    (tb:=4) rfl Tryz.underlying4 uk ?_ rfl ?_ ?_
  · intro t ht
    have hm:t∈[35,38,41]:=ht
    simp only [List.mem_cons,List.not_mem_nil,or_false] at hm
    rcases hm with rfl | rfl | rfl
    · exact ⟨by kernel_rfl,of_decide_eq_true (by kernel_rfl)⟩
    · exact ⟨by kernel_rfl,of_decide_eq_true (by kernel_rfl)⟩
    · exact ⟨by kernel_rfl,of_decide_eq_true (by kernel_rfl)⟩
  · intro ds hd
    match ds,hd with
    | [_,_,_],_=>rfl
  · intro W base args ds ps hval hA hsz hlt hL
    have hA':DataW.TrodAll enc Tryz.prog W 0 (fun _=>true) true [35,38,41] args.toList ds ps:=hA
    obtain ⟨v0,v1,v2,d0,d1,d2,p0,p1,p2,rfl,rfl,rfl,h0,h1,h2⟩:=trodAll_three hA'
    have hsz':(DataW.weightsEach Tryz.prog [35,38,41] [d0,d1,d2]).all (·≤reachBytes)=true:=hsz
    simp only [DataW.weightsEach,List.all_append,Bool.and_eq_true] at hsz'
    obtain ⟨s,A,kc,SV,ks,AV,kv,AX,kx,rfl,hls,hv1,hv2,hSY⟩:=Q1 (hval 0 35 v0 rfl rfl) h0 hsz'.1
    obtain ⟨AR,out,kr,rfl,hlr,hRA⟩:=XY (hval 1 38 v1 rfl rfl) h1 hsz'.2.1
    obtain ⟨f,dd,AF,kf,rfl,hlf,hFA⟩:=Zi (hval 2 41 v2 rfl rfl) h2 hsz'.2.2.1
    exact law_patoms s hls A SV AV AX kc ks kv kx out hlr AR kr f dd hlf AF kf W hSY hRA hFA
theorem closed0:(Rows.pointsAtomsRow.wf (OpenSpec.ofChange Rows.pointsAtomsSpec))=true:=by kernel_rfl
theorem closed1:(laidOutB Tryz.pinned.checked.prog)=true:=by kernel_rfl
theorem closed2:(mapsRowed Tryz.pinned.checked.prog)=true:=by kernel_rfl
theorem closed3:(Tryz.f3.params.all (Tryz.pinned.checked.prog.readableRec ·))=true:=by kernel_rfl
theorem closed4:(namedTie Tryz.pinned.checked.prog Rows.pointsAtomsRow.named Rows.pointsAtomsSpec.vars)=true:=by kernel_rfl
theorem closed5:((Rows.pointsAtomsRow.stops==[]))=true:=by kernel_rfl
theorem closed6:((Tryz.pinned.checked.prog.stops==[]))=true:=by kernel_rfl
theorem closed7:((Rows.pointsAtomsRow.knobs==[]))=true:=by kernel_rfl
theorem closed8:((Tryz.pinned.checked.prog.stopKnobs==[]))=true:=by kernel_rfl
theorem closed9:((Rows.pointsAtomsRow.inPlace==Tryz.pinned.checked.prog.inPlace 3))=true:=by kernel_rfl
theorem closed10:((Rows.pointsAtomsRow.unfollowed==Tryz.pinned.checked.prog.unfollowed 3))=true:=by kernel_rfl
theorem closed11:((Rows.pointsAtomsRow.recurses==Tryz.pinned.checked.prog.recurses 3))=true:=by kernel_rfl
theorem closed12:((Rows.pointsAtomsRow.named==Tryz.pinned.checked.prog.varsNamed 3))=true:=by kernel_rfl
theorem closed13:((Rows.pointsAtomsRow.maps==(Tryz.f3.params.toList++Rows.pointsAtomsSpec.plain.varTypes Tryz.pinned.checked.prog).any (Tryz.pinned.checked.prog.mapsRec ·)))=true:=by kernel_rfl
theorem closed14:((Rows.pointsAtomsRow.ifaces==(Tryz.f3.params.toList++Rows.pointsAtomsSpec.plain.varTypes Tryz.pinned.checked.prog).any (Tryz.pinned.checked.prog.ifacesRec ·)))=true:=by kernel_rfl
theorem closed15:((Rows.pointsAtomsRow.mapsOut==Tryz.pinned.checked.prog.mapsAmong Tryz.f3.resultTypes.toList))=true:=by kernel_rfl
theorem closed16:((Rows.pointsAtomsRow.loops==(Tryz.f3.params.toList++Rows.pointsAtomsSpec.plain.varTypes Tryz.pinned.checked.prog).any (Tryz.pinned.checked.prog.loopsFrom ·)))=true:=by kernel_rfl
theorem closed17:((Rows.pointsAtomsRow.wideKeys==(Tryz.f3.params.toList++Rows.pointsAtomsSpec.plain.varTypes Tryz.pinned.checked.prog++Tryz.f3.resultTypes.toList).any (Tryz.pinned.checked.prog.wideKeysFrom ·)))=true:=by kernel_rfl
theorem closed18:(Rows.pointsAtomsSpec.vars.all (Tryz.pinned.checked.prog.varReadable ·))=true:=by kernel_rfl
theorem closed19:(Tryz.f3.resultTypes.all (fun t=>Tryz.pinned.checked.prog.readableRec t&&decide (t<Tryz.pinned.checked.prog.types.size)))=true:=by kernel_rfl
theorem closed20:((Rows.pointsAtomsRow.ifacesOut==Tryz.f3.resultTypes.toList.any (Tryz.pinned.checked.prog.ifacesRec ·)))=true:=by kernel_rfl
theorem closed21:((Rows.pointsAtomsRow.loopsOut==Tryz.f3.resultTypes.toList.any (Tryz.pinned.checked.prog.loopsFrom ·)))=true:=by kernel_rfl
theorem closed22:((Rows.pointsAtomsRow.plainKeys==Tryz.pinned.checked.prog.plainKeys))=true:=by kernel_rfl
theorem closed23:(Rows.pointsAtomsRow.shortTexts.isNone)=true:=by kernel_rfl
theorem closed24:(Tryz.pinned.checked.prog.stopsHeard)=true:=by kernel_rfl
theorem closed25:(Tryz.pinned.checked.prog.mayEnter)=true:=by kernel_rfl
theorem closed26:((Rows.pointsAtomsRow.lifted==Tryz.pinned.checked.prog.liftsFinal))=true:=by kernel_rfl
theorem closed27:((Tryz.pinned.checked.prog.make==some Rows.pointsAtomsRow.make))=true:=by kernel_rfl
theorem closed28:((Rows.pointsAtomsRow.kinds==(if Rows.pointsAtomsRow.domain.isEmpty then [] else Tryz.f3.params.toList.map fun t=>match Tryz.pinned.checked.prog.underlying t with | some (.int k)=>some k | _=>none)))=true:=by kernel_rfl
theorem closed29:((Rows.pointsAtomsRow.pinned==Rows.pointsAtomsRow.pinnedBy))=true:=by kernel_rfl
theorem closed30:((Rows.pointsAtomsRow.veiled==(Tryz.f3.params.toList++Rows.pointsAtomsSpec.plain.varTypes Tryz.pinned.checked.prog++Tryz.f3.resultTypes.toList).any (Tryz.pinned.checked.prog.veiledRec ·)))=true:=by kernel_rfl
theorem closed31:(Rows.pointsAtomsRow.veiledFits Tryz.pinned.checked.prog Tryz.f3.params.toList (Tryz.f3.params.toList++Rows.pointsAtomsSpec.plain.varTypes Tryz.pinned.checked.prog++Tryz.f3.resultTypes.toList))=true:=by kernel_rfl
theorem and_both {a b:Bool} (ha:a=true) (hb:b=true):(a&&b)=true:=by rw [ha,hb];rfl
set_option maxRecDepth 100000 in
theorem closed:joinedFacts Tryz.pinned.checked.prog 3 Tryz.f3 Rows.pointsAtomsSpec Rows.pointsAtomsRow=true:=by
  unfold joinedFacts
  exact (and_both (and_both (and_both (and_both (and_both (and_both (and_both (and_both (and_both (and_both (and_both (and_both (and_both (and_both (and_both (and_both (and_both (and_both (and_both (and_both (and_both (and_both (and_both (and_both (and_both (and_both (and_both (and_both (and_both (and_both (and_both closed0 closed1) closed2) closed3) closed4) closed5) closed6) closed7) closed8) closed9) closed10) closed11) closed12) closed13) closed14) closed15) closed16) closed17) closed18) closed19) closed20) closed21) closed22) closed23) closed24) closed25) closed26) closed27) closed28) closed29) closed30) closed31)
set_option maxRecDepth 100000 in
theorem holds:Rows.PointsAtomsSaid:=
  OpenClaim.holds_of_wide 3 Tryz.f3 rfl rfl rfl rfl rfl rfl rfl ⟨rfl,rfl,rfl,rfl,rfl⟩ rfl rfl rfl rfl rfl (by kernel_rfl) Tryz.func3 closed
    (of_decide_eq_true (by kernel_rfl)) (by unfold Func.isWrapper;first | (rw [if_pos (by decide +kernel)];kernel_rfl) | (rw [if_neg (by decide +kernel)];exact ⟨rfl,rfl⟩))
    (fun os started H enc _=>lifted os started H enc)
#print axioms holds
end Go.Proofs.YtiookelkkekbeaaGreat
