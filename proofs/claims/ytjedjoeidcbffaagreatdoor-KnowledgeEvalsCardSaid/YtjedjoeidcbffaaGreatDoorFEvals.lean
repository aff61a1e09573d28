/- KnowledgeEvals: Eval returns the set or the error of the reference for all systems, rules and formulas: the law answers true for every input, and its arguments read behind the call as before. No further condition. -/
import Derived.Test.YtjedjoeidcbffaaGreatDoorCards
import Derived.Test.YtjedjoeidcbffaaGreatDoorTie
import Derived.Test.YtjedjoeidcbffaaGreatDoorEk
import Derived.SevenTiedAt
import Derived.Lay
open Go.Proofs.Tryz
open Go.Value renaming int->O,slice->I,agg->Ak
open Go.IntKind renaming i64->U
open Option renaming none->Z,some->J
open Go.Proofs.Tryz renaming prog->Aq
open Go renaming Value->Ax
open Bool renaming true->AA,false->AC
namespace Go.Proofs.YtjedjoeidcbffaaGreatDoor
set_option maxRecDepth 100000
open Go.ChangeShapes Go.WideShapes Go.ChangeAt Go.RowKit
theorem lifted(os : Os)(iw : os.Started)(H : Type)(enc : TypeId × Ax → H) :
    ReturnsInHanded {} Tryz.checked os 3 .any (fun w args=>(Rows.knowledgeEvalsSpec.pre enc Aq Tryz.f3 [] AC w args/\laidMetH Aq Rows.knowledgeEvalsRow.laid w)/\sizedMet enc Aq Tryz.f3 (OpenSpec.ofChange Rows.knowledgeEvalsSpec) AC w args)
      (Rows.knowledgeEvalsSpec.post enc Aq Tryz.f3 AC AA AC AC):=by
  refine law_lifted (C:=Tryz.checked) (X:=fun w _=>laidMetH Aq Rows.knowledgeEvalsRow.laid w) iw (fun _ _ _ hh h=>h.of_heap hh) lawOwn (by kernel_rfl) func3
    (ChangeSpec.witness_shaped (enc:=enc) (C:=Tryz.checked) (os:=os) (X:=fun w _=>laidMetH Aq Rows.knowledgeEvalsRow.laid w) AC (World.laidAll Aq os laidK)
      #[Ak #[O U 0,O U 0,O U 0,I Z 0 0,O U 0,I Z 0 0,O U 0,O U 0,I Z 0 0,I Z 0 0],Ak #[I Z 0 0],Ak #[O U 0,O U 0,O U 0,O U 0,O U 0,I Z 0 0]] 8 (World.laidAll_os _ _ _) (World.shaped_of_ZipB (by kernel_rfl) (by kernel_rfl)) (by kernel_rfl) (by kernel_rfl) (by kernel_rfl)
      (by show laidMetH Aq laidK _;rw[SH _ _ _ (by kernel_rfl)];exact laidMet_laidAll _ (by kernel_rfl) (by kernel_rfl)))
    (tb:=4) rfl PI lawLaidOut ?_ rfl ?_ ?_
  . intro t ht
    have hm:t∈[35,38,41]:=ht;simp only[List.mem_cons,List.not_mem_nil,or_false] at hm;rcases hm with rfl | rfl | rfl
    . exact⟨by kernel_rfl,LR (by kernel_rfl)⟩
    . exact⟨by kernel_rfl,LR (by kernel_rfl)⟩
    exact⟨by kernel_rfl,LR (by kernel_rfl)⟩
  . intro ds hd
    match ds,hd with
    | [_,_,_],_=>rfl
  intro W base args ds ps fZ hA aX aa hL;have nd:DataW.TrodAll enc Aq W 0 (fun _=>AA) AA [35,38,41] args.toList ds ps:=hA;obtain⟨v0,v1,v2,d0,d1,d2,p0,p1,p2,rfl,rfl,rfl,h0,h1,h2⟩:=trodAll_three nd;have sq:(DataW.weightsEach Aq [35,38,41] [d0,d1,d2]).all (·<=reachBytes)=AA:=aX;simp only[DataW.weightsEach,List.all_append,Bool.and_eq_true] at sq;obtain⟨s,A,kc,SV,ks,AV,kv,AX,kx,rfl,pu,sn,oL,Te⟩:=open_sysArg (fZ 0 35 v0 rfl rfl) h0 sq.1;obtain⟨AR,out,kr,rfl,hlr,IV⟩:=Jl (fZ 1 38 v1 rfl rfl) h1 sq.2.1;obtain⟨f,dd,AF,kf,rfl,hlf,hFA⟩:=ZS (fZ 2 41 v2 rfl rfl) h2 sq.2.2.1;exact law_kevals s pu A SV AV AX kc ks kv kx out hlr AR kr f dd hlf AF kf W (row_laid hL) Te IV hFA
theorem closed0:(Rows.knowledgeEvalsRow.wf (OpenSpec.ofChange Rows.knowledgeEvalsSpec))=AA:=by kernel_rfl
theorem closed1:(laidOutB Tryz.pinned.checked.prog)=AA:=by kernel_rfl
theorem closed2:(mapsRowed Tryz.pinned.checked.prog)=AA:=by kernel_rfl
theorem closed3:(Tryz.f3.params.all (Tryz.pinned.checked.prog.readableRec ·))=AA:=by kernel_rfl
theorem closed4:(namedTie Tryz.pinned.checked.prog Rows.knowledgeEvalsRow.named Rows.knowledgeEvalsSpec.vars)=AA:=by kernel_rfl
theorem closed5:((Rows.knowledgeEvalsRow.stops==[]))=AA:=by kernel_rfl
theorem closed6:((Tryz.pinned.checked.prog.stops==[]))=AA:=by kernel_rfl
theorem closed7:((Rows.knowledgeEvalsRow.knobs==[]))=AA:=by kernel_rfl
theorem closed8:((Tryz.pinned.checked.prog.stopKnobs==[]))=AA:=by kernel_rfl
theorem closed9:((Rows.knowledgeEvalsRow.inPlace==Tryz.pinned.checked.prog.inPlace 3))=AA:=by kernel_rfl
theorem closed10:((Rows.knowledgeEvalsRow.unfollowed==Tryz.pinned.checked.prog.unfollowed 3))=AA:=by kernel_rfl
theorem closed11:((Rows.knowledgeEvalsRow.recurses==Tryz.pinned.checked.prog.recurses 3))=AA:=by kernel_rfl
theorem closed12:((Rows.knowledgeEvalsRow.named==Tryz.pinned.checked.prog.varsNamed 3))=AA:=by kernel_rfl
theorem closed13:((Rows.knowledgeEvalsRow.maps==(Tryz.f3.params.toList++Rows.knowledgeEvalsSpec.plain.varTypes Tryz.pinned.checked.prog).any (Tryz.pinned.checked.prog.mapsRec ·)))=AA:=by kernel_rfl
theorem closed14:((Rows.knowledgeEvalsRow.ifaces==(Tryz.f3.params.toList++Rows.knowledgeEvalsSpec.plain.varTypes Tryz.pinned.checked.prog).any (Tryz.pinned.checked.prog.ifacesRec ·)))=AA:=by kernel_rfl
theorem closed15:((Rows.knowledgeEvalsRow.mapsOut==Tryz.pinned.checked.prog.mapsAmong Tryz.f3.resultTypes.toList))=AA:=by kernel_rfl
theorem closed16:((Rows.knowledgeEvalsRow.loops==(Tryz.f3.params.toList++Rows.knowledgeEvalsSpec.plain.varTypes Tryz.pinned.checked.prog).any (Tryz.pinned.checked.prog.loopsFrom ·)))=AA:=by kernel_rfl
theorem closed17:((Rows.knowledgeEvalsRow.wideKeys==(Tryz.f3.params.toList++Rows.knowledgeEvalsSpec.plain.varTypes Tryz.pinned.checked.prog++Tryz.f3.resultTypes.toList).any (Tryz.pinned.checked.prog.wideKeysFrom ·)))=AA:=by kernel_rfl
theorem closed18:(Rows.knowledgeEvalsSpec.vars.all (Tryz.pinned.checked.prog.varReadable ·))=AA:=by kernel_rfl
theorem closed19:(Tryz.f3.resultTypes.all (fun t=>Tryz.pinned.checked.prog.readableRec t&&decide (t<Tryz.pinned.checked.prog.types.size)))=AA:=by kernel_rfl
theorem closed20:((Rows.knowledgeEvalsRow.ifacesOut==Tryz.f3.resultTypes.toList.any (Tryz.pinned.checked.prog.ifacesRec ·)))=AA:=by kernel_rfl
theorem closed21:((Rows.knowledgeEvalsRow.loopsOut==Tryz.f3.resultTypes.toList.any (Tryz.pinned.checked.prog.loopsFrom ·)))=AA:=by kernel_rfl
theorem closed22:((Rows.knowledgeEvalsRow.plainKeys==Tryz.pinned.checked.prog.plainKeys))=AA:=by kernel_rfl
theorem closed23:(Rows.knowledgeEvalsRow.shortTexts.isNone)=AA:=by kernel_rfl
theorem closed24:(Tryz.pinned.checked.prog.stopsHeard)=AA:=by kernel_rfl
theorem closed25:(Tryz.pinned.checked.prog.mayEnter)=AA:=by kernel_rfl
theorem closed26:((Rows.knowledgeEvalsRow.lifted==Tryz.pinned.checked.prog.liftsFinal))=AA:=by kernel_rfl
theorem closed27:((Tryz.pinned.checked.prog.make==J Rows.knowledgeEvalsRow.make))=AA:=by kernel_rfl
theorem closed28:((Rows.knowledgeEvalsRow.kinds==(if Rows.knowledgeEvalsRow.domain.isEmpty then [] else Tryz.f3.params.toList.map fun t=>match Tryz.pinned.checked.prog.underlying t with | some (.int k)=>J k | _=>Z)))=AA:=by kernel_rfl
theorem closed29:((Rows.knowledgeEvalsRow.pinned==Rows.knowledgeEvalsRow.pinnedBy))=AA:=by kernel_rfl
theorem closed30:((Rows.knowledgeEvalsRow.veiled==(Tryz.f3.params.toList++Rows.knowledgeEvalsSpec.plain.varTypes Tryz.pinned.checked.prog++Tryz.f3.resultTypes.toList).any (Tryz.pinned.checked.prog.veiledRec ·)))=AA:=by kernel_rfl
theorem closed31:(Rows.knowledgeEvalsRow.veiledFits Tryz.pinned.checked.prog Tryz.f3.params.toList (Tryz.f3.params.toList++Rows.knowledgeEvalsSpec.plain.varTypes Tryz.pinned.checked.prog++Tryz.f3.resultTypes.toList))=AA:=by kernel_rfl
theorem zW{a b:Bool}(ha:a=AA)(hb:b=AA):(a&&b)=AA:=by rw[ha,hb];rfl
theorem closed:joinedFacts Tryz.pinned.checked.prog 3 Tryz.f3 Rows.knowledgeEvalsSpec Rows.knowledgeEvalsRow=AA:=by
  unfold joinedFacts;exact(zW (zW (zW (zW (zW (zW (zW (zW (zW (zW (zW (zW (zW (zW (zW (zW (zW (zW (zW (zW (zW (zW (zW (zW (zW (zW (zW (zW (zW (zW (zW closed0 closed1) closed2) closed3) closed4) closed5) closed6) closed7) closed8) closed9) closed10) closed11) closed12) closed13) closed14) closed15) closed16) closed17) closed18) closed19) closed20) closed21) closed22) closed23) closed24) closed25) closed26) closed27) closed28) closed29) closed30) closed31)
theorem said:Rows.KnowledgeEvalsSaid:=
  OpenClaim.holds_of_wide 3 Tryz.f3 rfl rfl rfl rfl rfl rfl rfl ⟨rfl,rfl,rfl,rfl,rfl⟩ rfl rfl rfl rfl rfl (by kernel_rfl) func3 closed
    (LR (by kernel_rfl)) (by unfold Func.isWrapper;first | (rw[Li (by decide +kernel)];kernel_rfl) | (rw[Lg (by decide +kernel)];exact⟨rfl,rfl⟩))
    (fun os iw H enc _=>lifted os iw H enc)
theorem holds:Rows.KnowledgeEvalsCardSaid:=
  Claim7.holds_tied_plain_at .later [] [.data] AA Rows.knowledgeEvalsCard.stood.harness AC
    said (fun _ h=>by cases h) (by kernel_rfl) (fun _ h=>by cases h) knowledgeEvals_row_tie rfl ⟨rfl,rfl⟩ (by kernel_rfl) rfl
    (fun f fn hf nR=>by
      obtain rfl:f=3:=NR ((show Aq.funcNamed Rows.knowledgeEvalsRow.func=J 3 by kernel_rfl).symm.trans hf) |>.symm;obtain rfl:fn=Tryz.f3:=(NR (func3.symm.trans nR)).symm
      exact⟨by kernel_rfl,fun j t ht=>by
        rw[Tryz.params3] at ht;have hm:t∈[35,38,41]:=by simpa using Array.mem_of_getElem? ht
        have aO:([35,38,41].all fun u=>!Tryz.prog.wantsStandIn u)=AA:=by kernel_rfl
        exact(show Aq.wantsStandIn t=AC by simpa using LT.1 aO t hm)⟩)
    (by kernel_rfl)
#print axioms holds
end Go.Proofs.YtjedjoeidcbffaaGreatDoor
