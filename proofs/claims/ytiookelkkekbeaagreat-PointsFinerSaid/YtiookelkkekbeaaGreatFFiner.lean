/- PointsFiner: what a group cannot tell apart together no process of it can tell apart, and this is connected; a greater group can tell more apart, and connects more: the law answers true for every input, and its arguments read behind the call as before. No further condition. -/
import Derived.Test.YtiookelkkekbeaaGreatRows
import Derived.Test.YtiookelkkekbeaaGreatPf
import Derived.Test.YtiookelkkekbeaaGreatPl

namespace Go.Proofs.YtiookelkkekbeaaGreat
open Go.ChangeShapes Go.WideShapes Go.ChangeAt Go.RowKit
set_option maxRecDepth 100000 in
theorem lifted (os : Os) (started : os.Started) (H : Type) (enc : TypeId × Value → H) :
    ReturnsInHanded {} Tryz.checked os 5 .any (fun w args=>Rows.pointsFinerSpec.pre enc Tryz.prog Tryz.f5 [] false w args∧sizedMet enc Tryz.prog Tryz.f5 (OpenSpec.ofChange Rows.pointsFinerSpec) false w args)
      (Rows.pointsFinerSpec.post enc Tryz.prog Tryz.f5 false true false false):=by
  suffices h : ReturnsInHanded {} Tryz.checked os 5 .any (fun w args => (Rows.pointsFinerSpec.pre enc Tryz.prog Tryz.f5 [] false w args ∧ True) ∧ sizedMet enc Tryz.prog Tryz.f5 (OpenSpec.ofChange Rows.pointsFinerSpec) false w args)
      (Rows.pointsFinerSpec.post enc Tryz.prog Tryz.f5 false true false false) by simpa only [and_true] using h
  refine uj (C:=Tryz.checked) (X:=fun _ _=>True) started (fun _ _ _ _ h=>h) lawOwn (by kernel_rfl) Tryz.func5
    (ChangeSpec.witness_shaped (enc:=enc) (C:=Tryz.checked) (os:=os) (X:=fun _ _=>True) false (World.doorLaid Tryz.prog 400 os)
      #[.agg #[.int .i64 0,.int .i64 0,.int .i64 0,.slice none 0 0,.int .i64 0,.slice none 0 0,.int .i64 0],.int .u8 0,.int .u8 0] 8 rfl (World.shaped_of_RefB (by kernel_rfl) (by kernel_rfl)) (by kernel_rfl) (by kernel_rfl) (by kernel_rfl) trivial)
    (tb:=4) rfl Tryz.underlying4 uk ?_ rfl ?_ ?_
  · intro t ht
    have hm:t∈[29,5,5]:=ht
    simp only [List.mem_cons,List.not_mem_nil,or_false] at hm
    rcases hm with rfl | rfl | rfl
    · exact ⟨by kernel_rfl,of_decide_eq_true (by kernel_rfl)⟩
    · exact ⟨by kernel_rfl,of_decide_eq_true (by kernel_rfl)⟩
    · exact ⟨by kernel_rfl,of_decide_eq_true (by kernel_rfl)⟩
  · intro ds hd
    match ds,hd with
    | [_,_,_],_=>rfl
  · intro W base args ds ps hval hA hsz hlt hL
    have hA':DataW.TrodAll enc Tryz.prog W 0 (fun _=>true) true [29,5,5] args.toList ds ps:=hA
    obtain ⟨v0,v1,v2,d0,d1,d2,p0,p1,p2,rfl,rfl,rfl,h0,h1,h2⟩:=trodAll_three hA'
    have hsz':(DataW.weightsEach Tryz.prog [29,5,5] [d0,d1,d2]).all (·≤reachBytes)=true:=hsz
    simp only [DataW.weightsEach,List.all_append,Bool.and_eq_true] at hsz'
    obtain ⟨p,A,kc,SV,ks,rfl,hlp,hCA,hSA⟩:=uK (hval 0 29 v0 rfl rfl) h0 hsz'.1
    obtain ⟨i1,rfl,hu1,_,hu2⟩:=open_int Tryz.underlying5 (hval 1 5 v1 rfl rfl) h1
    obtain ⟨n1,rfl,hn1⟩:=Zo (by decide) hu2
    have hn1':=u8_lt hn1
    obtain ⟨i2,rfl,hu1,_,hu2⟩:=open_int Tryz.underlying5 (hval 2 5 v2 rfl rfl) h2
    obtain ⟨n2,rfl,hn2⟩:=Zo (by decide) hu2
    have hn2':=u8_lt hn2
    exact law_pfiner p hlp A kc SV ks n1 n2 hn1' hn2' W hCA hSA
theorem closed0:(Rows.pointsFinerRow.wf (OpenSpec.ofChange Rows.pointsFinerSpec))=true:=by kernel_rfl
theorem closed1:(laidOutB Tryz.pinned.checked.prog)=true:=by kernel_rfl
theorem closed2:(mapsRowed Tryz.pinned.checked.prog)=true:=by kernel_rfl
theorem closed3:(Tryz.f5.params.all (Tryz.pinned.checked.prog.readableRec ·))=true:=by kernel_rfl
theorem closed4:(namedTie Tryz.pinned.checked.prog Rows.pointsFinerRow.named Rows.pointsFinerSpec.vars)=true:=by kernel_rfl
theorem closed5:((Rows.pointsFinerRow.stops==[]))=true:=by kernel_rfl
theorem closed6:((Tryz.pinned.checked.prog.stops==[]))=true:=by kernel_rfl
theorem closed7:((Rows.pointsFinerRow.knobs==[]))=true:=by kernel_rfl
theorem closed8:((Tryz.pinned.checked.prog.stopKnobs==[]))=true:=by kernel_rfl
theorem closed9:((Rows.pointsFinerRow.inPlace==Tryz.pinned.checked.prog.inPlace 5))=true:=by kernel_rfl
theorem closed10:((Rows.pointsFinerRow.unfollowed==Tryz.pinned.checked.prog.unfollowed 5))=true:=by kernel_rfl
theorem closed11:((Rows.pointsFinerRow.recurses==Tryz.pinned.checked.prog.recurses 5))=true:=by kernel_rfl
theorem closed12:((Rows.pointsFinerRow.named==Tryz.pinned.checked.prog.varsNamed 5))=true:=by kernel_rfl
theorem closed13:((Rows.pointsFinerRow.maps==(Tryz.f5.params.toList++Rows.pointsFinerSpec.plain.varTypes Tryz.pinned.checked.prog).any (Tryz.pinned.checked.prog.mapsRec ·)))=true:=by kernel_rfl
theorem closed14:((Rows.pointsFinerRow.ifaces==(Tryz.f5.params.toList++Rows.pointsFinerSpec.plain.varTypes Tryz.pinned.checked.prog).any (Tryz.pinned.checked.prog.ifacesRec ·)))=true:=by kernel_rfl
theorem closed15:((Rows.pointsFinerRow.mapsOut==Tryz.pinned.checked.prog.mapsAmong Tryz.f5.resultTypes.toList))=true:=by kernel_rfl
theorem closed16:((Rows.pointsFinerRow.loops==(Tryz.f5.params.toList++Rows.pointsFinerSpec.plain.varTypes Tryz.pinned.checked.prog).any (Tryz.pinned.checked.prog.loopsFrom ·)))=true:=by kernel_rfl
theorem closed17:((Rows.pointsFinerRow.wideKeys==(Tryz.f5.params.toList++Rows.pointsFinerSpec.plain.varTypes Tryz.pinned.checked.prog++Tryz.f5.resultTypes.toList).any (Tryz.pinned.checked.prog.wideKeysFrom ·)))=true:=by kernel_rfl
theorem closed18:(Rows.pointsFinerSpec.vars.all (Tryz.pinned.checked.prog.varReadable ·))=true:=by kernel_rfl
theorem closed19:(Tryz.f5.resultTypes.all (fun t=>Tryz.pinned.checked.prog.readableRec t&&decide (t<Tryz.pinned.checked.prog.types.size)))=true:=by kernel_rfl
theorem closed20:((Rows.pointsFinerRow.ifacesOut==Tryz.f5.resultTypes.toList.any (Tryz.pinned.checked.prog.ifacesRec ·)))=true:=by kernel_rfl
theorem closed21:((Rows.pointsFinerRow.loopsOut==Tryz.f5.resultTypes.toList.any (Tryz.pinned.checked.prog.loopsFrom ·)))=true:=by kernel_rfl
theorem closed22:((Rows.pointsFinerRow.plainKeys==Tryz.pinned.checked.prog.plainKeys))=true:=by kernel_rfl
theorem closed23:(Rows.pointsFinerRow.shortTexts.isNone)=true:=by kernel_rfl
theorem closed24:(Tryz.pinned.checked.prog.stopsHeard)=true:=by kernel_rfl
theorem closed25:(Tryz.pinned.checked.prog.mayEnter)=true:=by kernel_rfl
theorem closed26:((Rows.pointsFinerRow.lifted==Tryz.pinned.checked.prog.liftsFinal))=true:=by kernel_rfl
theorem closed27:((Tryz.pinned.checked.prog.make==some Rows.pointsFinerRow.make))=true:=by kernel_rfl
theorem closed28:((Rows.pointsFinerRow.kinds==(if Rows.pointsFinerRow.domain.isEmpty then [] else Tryz.f5.params.toList.map fun t=>match Tryz.pinned.checked.prog.underlying t with | some (.int k)=>some k | _=>none)))=true:=by kernel_rfl
theorem closed29:((Rows.pointsFinerRow.pinned==Rows.pointsFinerRow.pinnedBy))=true:=by kernel_rfl
theorem closed30:((Rows.pointsFinerRow.veiled==(Tryz.f5.params.toList++Rows.pointsFinerSpec.plain.varTypes Tryz.pinned.checked.prog++Tryz.f5.resultTypes.toList).any (Tryz.pinned.checked.prog.veiledRec ·)))=true:=by kernel_rfl
theorem closed31:(Rows.pointsFinerRow.veiledFits Tryz.pinned.checked.prog Tryz.f5.params.toList (Tryz.f5.params.toList++Rows.pointsFinerSpec.plain.varTypes Tryz.pinned.checked.prog++Tryz.f5.resultTypes.toList))=true:=by kernel_rfl
theorem and_both {a b:Bool} (ha:a=true) (hb:b=true):(a&&b)=true:=by rw [ha,hb];rfl
set_option maxRecDepth 100000 in
theorem closed:joinedFacts Tryz.pinned.checked.prog 5 Tryz.f5 Rows.pointsFinerSpec Rows.pointsFinerRow=true:=by
  unfold joinedFacts
  exact (and_both (and_both (and_both (and_both (and_both (and_both (and_both (and_both (and_both (and_both (and_both (and_both (and_both (and_both (and_both (and_both (and_both (and_both (and_both (and_both (and_both (and_both (and_both (and_both (and_both (and_both (and_both (and_both (and_both (and_both (and_both closed0 closed1) closed2) closed3) closed4) closed5) closed6) closed7) closed8) closed9) closed10) closed11) closed12) closed13) closed14) closed15) closed16) closed17) closed18) closed19) closed20) closed21) closed22) closed23) closed24) closed25) closed26) closed27) closed28) closed29) closed30) closed31)
set_option maxRecDepth 100000 in
theorem holds:Rows.PointsFinerSaid:=
  OpenClaim.holds_of_wide 5 Tryz.f5 rfl rfl rfl rfl rfl rfl rfl ⟨rfl,rfl,rfl,rfl,rfl⟩ rfl rfl rfl rfl rfl (by kernel_rfl) Tryz.func5 closed
    (of_decide_eq_true (by kernel_rfl)) (by unfold Func.isWrapper;first | (rw [if_pos (by decide +kernel)];kernel_rfl) | (rw [if_neg (by decide +kernel)];exact ⟨rfl,rfl⟩))
    (fun os started H enc _=>lifted os started H enc)
#print axioms holds
end Go.Proofs.YtiookelkkekbeaaGreat
