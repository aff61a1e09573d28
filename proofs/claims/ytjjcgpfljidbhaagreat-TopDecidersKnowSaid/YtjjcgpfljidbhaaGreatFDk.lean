/- TopDecidersKnow: when a process decides by a rule that solves the problem, it knows that, unless it is faulty in the end, some allowed vector of the execution has its decision: the law answers true for every input, and its arguments read behind the call as before. No further condition. -/
import Derived.Test.YtjjcgpfljidbhaaGreatYh
open Go.Proofs.Tryz
open Go.Value renaming int->O,slice->I,agg->Ai
open Go.IntKind renaming i64->U
open Option renaming none->Z,some->J
open Go.Proofs.Tryz renaming prog->Al
open Go renaming Value->Aq
open Bool renaming true->Ar,false->As
namespace Go.Proofs.YtjjcgpfljidbhaaGreat
set_option maxRecDepth 100000
open Go.ChangeShapes Go.WideShapes Go.ChangeAt Go.RowKit
theorem lifted(os : Os)(dA : os.Started)(H : Type)(enc : TypeId × Aq → H) :
    ReturnsInHanded {} Tryz.checked os 3 .any (fun w args=>Rows.topDecidersKnowSpec.pre enc Al Tryz.f3 [] As w args/\sizedMet enc Al Tryz.f3 (OpenSpec.ofChange Rows.topDecidersKnowSpec) As w args)
      (Rows.topDecidersKnowSpec.post enc Al Tryz.f3 As Ar As As):=by
  suffices h : ReturnsInHanded {} Tryz.checked os 3 .any (fun w args => (Rows.topDecidersKnowSpec.pre enc Al Tryz.f3 [] As w args ∧ True) ∧ sizedMet enc Al Tryz.f3 (OpenSpec.ofChange Rows.topDecidersKnowSpec) As w args)
      (Rows.topDecidersKnowSpec.post enc Al Tryz.f3 As Ar As As) by simpa only[and_true] using h
  refine X8 (C:=Tryz.checked) (X:=fun _ _=>True) dA (fun _ _ _ _ h=>h) lawOwn (by kernel_rfl) func3
    (ChangeSpec.witness_shaped (enc:=enc) (C:=Tryz.checked) (os:=os) (X:=fun _ _=>True) As (World.doorLaid Al 400 os)
      #[Ai #[O U 0,O U 0,O U 0,I Z 0 0,O U 0,I Z 0 0,O U 0],Ai #[I Z 0 0]] 8 rfl (World.shaped_of_RefB (by kernel_rfl) (by kernel_rfl)) (by kernel_rfl) (by kernel_rfl) (by kernel_rfl) trivial)
    (tb:=4) rfl underlying4 X9 ?_ rfl ?_ ?_
  . intro t ht
    have hm:t∈[29,32]:=ht;simp only[List.mem_cons,List.not_mem_nil,or_false] at hm;rcases hm with rfl | rfl
    . exact⟨by kernel_rfl,Lw (by kernel_rfl)⟩
    exact⟨by kernel_rfl,Lw (by kernel_rfl)⟩
  . intro ds hd
    match ds,hd with
    | [_,_],_=>rfl
  intro W base args ds ps iU hA hsz aa hL;have mf:DataW.TrodAll enc Al W 0 (fun _=>Ar) Ar [29,32] args.toList ds ps:=hA;obtain⟨v0,v1,d0,d1,p0,p1,rfl,rfl,rfl,h0,h1⟩:=trodAll_two mf;have oz:(DataW.weightsEach Al [29,32] [d0,d1]).all (·<=reachBytes)=Ar:=hsz;simp only[DataW.weightsEach,List.all_append,Bool.and_eq_true] at oz;obtain⟨p,A,kc,SV,ks,rfl,Vx,nN,Bu⟩:=ZQ (iU 0 29 v0 rfl rfl) h0 oz.1;obtain⟨AR,out,kr,rfl,Vv,WB⟩:=ZP (iU 1 32 v1 rfl rfl) h1 oz.2.1;exact ZY p Vx out Vv A SV AR kc ks kr W nN Bu WB
theorem closed0:(Rows.topDecidersKnowRow.wf (OpenSpec.ofChange Rows.topDecidersKnowSpec))=Ar:=by kernel_rfl
theorem closed1:(laidOutB Tryz.pinned.checked.prog)=Ar:=by kernel_rfl
theorem closed2:(mapsRowed Tryz.pinned.checked.prog)=Ar:=by kernel_rfl
theorem closed3:(Tryz.f3.params.all (Tryz.pinned.checked.prog.readableRec ·))=Ar:=by kernel_rfl
theorem closed4:(namedTie Tryz.pinned.checked.prog Rows.topDecidersKnowRow.named Rows.topDecidersKnowSpec.vars)=Ar:=by kernel_rfl
theorem closed5:((Rows.topDecidersKnowRow.stops==[]))=Ar:=by kernel_rfl
theorem closed6:((Tryz.pinned.checked.prog.stops==[]))=Ar:=by kernel_rfl
theorem closed7:((Rows.topDecidersKnowRow.knobs==[]))=Ar:=by kernel_rfl
theorem closed8:((Tryz.pinned.checked.prog.stopKnobs==[]))=Ar:=by kernel_rfl
theorem closed9:((Rows.topDecidersKnowRow.inPlace==Tryz.pinned.checked.prog.inPlace 3))=Ar:=by kernel_rfl
theorem closed10:((Rows.topDecidersKnowRow.unfollowed==Tryz.pinned.checked.prog.unfollowed 3))=Ar:=by kernel_rfl
theorem closed11:((Rows.topDecidersKnowRow.recurses==Tryz.pinned.checked.prog.recurses 3))=Ar:=by kernel_rfl
theorem closed12:((Rows.topDecidersKnowRow.named==Tryz.pinned.checked.prog.varsNamed 3))=Ar:=by kernel_rfl
theorem closed13:((Rows.topDecidersKnowRow.maps==(Tryz.f3.params.toList++Rows.topDecidersKnowSpec.plain.varTypes Tryz.pinned.checked.prog).any (Tryz.pinned.checked.prog.mapsRec ·)))=Ar:=by kernel_rfl
theorem closed14:((Rows.topDecidersKnowRow.ifaces==(Tryz.f3.params.toList++Rows.topDecidersKnowSpec.plain.varTypes Tryz.pinned.checked.prog).any (Tryz.pinned.checked.prog.ifacesRec ·)))=Ar:=by kernel_rfl
theorem closed15:((Rows.topDecidersKnowRow.mapsOut==Tryz.pinned.checked.prog.mapsAmong Tryz.f3.resultTypes.toList))=Ar:=by kernel_rfl
theorem closed16:((Rows.topDecidersKnowRow.loops==(Tryz.f3.params.toList++Rows.topDecidersKnowSpec.plain.varTypes Tryz.pinned.checked.prog).any (Tryz.pinned.checked.prog.loopsFrom ·)))=Ar:=by kernel_rfl
theorem closed17:((Rows.topDecidersKnowRow.wideKeys==(Tryz.f3.params.toList++Rows.topDecidersKnowSpec.plain.varTypes Tryz.pinned.checked.prog++Tryz.f3.resultTypes.toList).any (Tryz.pinned.checked.prog.wideKeysFrom ·)))=Ar:=by kernel_rfl
theorem closed18:(Rows.topDecidersKnowSpec.vars.all (Tryz.pinned.checked.prog.varReadable ·))=Ar:=by kernel_rfl
theorem closed19:(Tryz.f3.resultTypes.all (fun t=>Tryz.pinned.checked.prog.readableRec t&&decide (t<Tryz.pinned.checked.prog.types.size)))=Ar:=by kernel_rfl
theorem closed20:((Rows.topDecidersKnowRow.ifacesOut==Tryz.f3.resultTypes.toList.any (Tryz.pinned.checked.prog.ifacesRec ·)))=Ar:=by kernel_rfl
theorem closed21:((Rows.topDecidersKnowRow.loopsOut==Tryz.f3.resultTypes.toList.any (Tryz.pinned.checked.prog.loopsFrom ·)))=Ar:=by kernel_rfl
theorem closed22:((Rows.topDecidersKnowRow.plainKeys==Tryz.pinned.checked.prog.plainKeys))=Ar:=by kernel_rfl
theorem closed23:(Rows.topDecidersKnowRow.shortTexts.isNone)=Ar:=by kernel_rfl
theorem closed24:(Tryz.pinned.checked.prog.stopsHeard)=Ar:=by kernel_rfl
theorem closed25:(Tryz.pinned.checked.prog.mayEnter)=Ar:=by kernel_rfl
theorem closed26:((Rows.topDecidersKnowRow.lifted==Tryz.pinned.checked.prog.liftsFinal))=Ar:=by kernel_rfl
theorem closed27:((Tryz.pinned.checked.prog.make==J Rows.topDecidersKnowRow.make))=Ar:=by kernel_rfl
theorem closed28:((Rows.topDecidersKnowRow.kinds==(if Rows.topDecidersKnowRow.domain.isEmpty then [] else Tryz.f3.params.toList.map fun t=>match Tryz.pinned.checked.prog.underlying t with | some (.int k)=>J k | _=>Z)))=Ar:=by kernel_rfl
theorem closed29:((Rows.topDecidersKnowRow.pinned==Rows.topDecidersKnowRow.pinnedBy))=Ar:=by kernel_rfl
theorem closed30:((Rows.topDecidersKnowRow.veiled==(Tryz.f3.params.toList++Rows.topDecidersKnowSpec.plain.varTypes Tryz.pinned.checked.prog++Tryz.f3.resultTypes.toList).any (Tryz.pinned.checked.prog.veiledRec ·)))=Ar:=by kernel_rfl
theorem closed31:(Rows.topDecidersKnowRow.veiledFits Tryz.pinned.checked.prog Tryz.f3.params.toList (Tryz.f3.params.toList++Rows.topDecidersKnowSpec.plain.varTypes Tryz.pinned.checked.prog++Tryz.f3.resultTypes.toList))=Ar:=by kernel_rfl
theorem zG{a b:Bool}(ha:a=Ar)(hb:b=Ar):(a&&b)=Ar:=by rw[ha,hb];rfl
theorem closed:joinedFacts Tryz.pinned.checked.prog 3 Tryz.f3 Rows.topDecidersKnowSpec Rows.topDecidersKnowRow=Ar:=by
  unfold joinedFacts;exact(zG (zG (zG (zG (zG (zG (zG (zG (zG (zG (zG (zG (zG (zG (zG (zG (zG (zG (zG (zG (zG (zG (zG (zG (zG (zG (zG (zG (zG (zG (zG closed0 closed1) closed2) closed3) closed4) closed5) closed6) closed7) closed8) closed9) closed10) closed11) closed12) closed13) closed14) closed15) closed16) closed17) closed18) closed19) closed20) closed21) closed22) closed23) closed24) closed25) closed26) closed27) closed28) closed29) closed30) closed31)
theorem holds:Rows.TopDecidersKnowSaid:=
  OpenClaim.holds_of_wide 3 Tryz.f3 rfl rfl rfl rfl rfl rfl rfl ⟨rfl,rfl,rfl,rfl,rfl⟩ rfl rfl rfl rfl rfl (by kernel_rfl) func3 closed
    (Lw (by kernel_rfl)) (by unfold Func.isWrapper;first | (rw[Lo (by decide +kernel)];kernel_rfl) | (rw[Li (by decide +kernel)];exact⟨rfl,rfl⟩))
    (fun os dA H enc _=>lifted os dA H enc)
#print axioms holds
end Go.Proofs.YtjjcgpfljidbhaaGreat
