/- KnowledgeCommons: Common and Levels return the results or errors of the reference for all systems, groups and sets: the law answers true for every input, and its arguments read behind the call as before. No further condition. -/
import Derived.Test.YtohjmddnennajaaGreatDoorCards
import Derived.Test.YtohjmddnennajaaGreatDoorTie
import Derived.Test.YtohjmddnennajaaGreatDoorPf
import Derived.Test.YtohjmddnennajaaGreatDoorPj
import Derived.SevenTiedAt
import Derived.Lay

namespace Go.Proofs.YtohjmddnennajaaGreatDoor
set_option maxRecDepth 100000
open Go.ChangeShapes Go.WideShapes Go.ChangeAt Go.RowKit
theorem lifted(os : Os)(started : os.Started)(H : Type)(enc : TypeId × Value → H) :
    ReturnsInHanded {} Tryz.checked os 3 .any (fun w args=>(Rows.knowledgeCommonsSpec.pre enc Tryz.prog Tryz.f3 [] false w args/\laidMetH Tryz.prog Rows.knowledgeCommonsRow.laid w)/\sizedMet enc Tryz.prog Tryz.f3 (OpenSpec.ofChange Rows.knowledgeCommonsSpec) false w args)
      (Rows.knowledgeCommonsSpec.post enc Tryz.prog Tryz.f3 false true false false):=by
  refine JZ (C:=Tryz.checked) (X:=fun w _=>laidMetH Tryz.prog Rows.knowledgeCommonsRow.laid w) started (fun _ _ _ hh h=>h.of_heap hh) lawOwn (by kernel_rfl) Tryz.func3
    (ChangeSpec.witness_shaped (enc:=enc) (C:=Tryz.checked) (os:=os) (X:=fun w _=>laidMetH Tryz.prog Rows.knowledgeCommonsRow.laid w) false (World.laidAll Tryz.prog os laidK)
      #[.agg #[.int .i64 0,.int .i64 0,.int .i64 0,.slice none 0 0,.int .i64 0,.slice none 0 0,.int .i64 0,.int .i64 0,.slice none 0 0,.slice none 0 0],.int .i64 0,.slice none 0 0] 8 (World.laidAll_os _ _ _) (World.shaped_of_ZipB (by kernel_rfl) (by kernel_rfl)) (by kernel_rfl) (by kernel_rfl) (by kernel_rfl)
      (by show laidMetH Tryz.prog laidK _;rw[Sg _ _ _ (by kernel_rfl)];exact laidMet_laidAll _ (by kernel_rfl) (by kernel_rfl)))
    (tb:=4) rfl Pj J4 ?_ rfl ?_ ?_
  . intro t ht
    have hm:t∈[35,3,36]:=ht;simp only[List.mem_cons,List.not_mem_nil,or_false] at hm;rcases hm with rfl | rfl | rfl
    . exact⟨by kernel_rfl,LF (by kernel_rfl)⟩
    . exact⟨by kernel_rfl,LF (by kernel_rfl)⟩
    . exact⟨by kernel_rfl,LF (by kernel_rfl)⟩
  . intro ds hd
    match ds,hd with
    | [_,_,_],_=>rfl
  . intro W base args ds ps hval hA hsz hlt hL
    have hA':DataW.TrodAll enc Tryz.prog W 0 (fun _=>true) true [35,3,36] args.toList ds ps:=hA;obtain⟨v0,v1,v2,d0,d1,d2,p0,p1,p2,rfl,rfl,rfl,h0,h1,h2⟩:=trodAll_three hA';have hsz':(DataW.weightsEach Tryz.prog [35,3,36] [d0,d1,d2]).all (·<=reachBytes)=true:=hsz;simp only[DataW.weightsEach,List.all_append,Bool.and_eq_true] at hsz';obtain⟨s,A,kc,SV,ks,AV,kv,AX,kx,rfl,hls,hv1,hv2,hSY⟩:=Qs (hval 0 35 v0 rfl rfl) h0 hsz'.1;obtain⟨i1,rfl,_,_,_⟩:=open_int Lx (hval 1 3 v1 rfl rfl) h1;obtain⟨AB,bs,kb,rfl,hBA⟩:=Yg (hval 2 36 v2 rfl rfl) h2 hsz'.2.2.1;exact Xz s hls A SV AV AX kc ks kv kx i1 bs AB kb W (row_laid hL) hSY hBA
theorem closed0:(Rows.knowledgeCommonsRow.wf (OpenSpec.ofChange Rows.knowledgeCommonsSpec))=true:=by kernel_rfl
theorem closed1:(laidOutB Tryz.pinned.checked.prog)=true:=by kernel_rfl
theorem closed2:(mapsRowed Tryz.pinned.checked.prog)=true:=by kernel_rfl
theorem closed3:(Tryz.f3.params.all (Tryz.pinned.checked.prog.readableRec ·))=true:=by kernel_rfl
theorem closed4:(namedTie Tryz.pinned.checked.prog Rows.knowledgeCommonsRow.named Rows.knowledgeCommonsSpec.vars)=true:=by kernel_rfl
theorem closed5:((Rows.knowledgeCommonsRow.stops==[]))=true:=by kernel_rfl
theorem closed6:((Tryz.pinned.checked.prog.stops==[]))=true:=by kernel_rfl
theorem closed7:((Rows.knowledgeCommonsRow.knobs==[]))=true:=by kernel_rfl
theorem closed8:((Tryz.pinned.checked.prog.stopKnobs==[]))=true:=by kernel_rfl
theorem closed9:((Rows.knowledgeCommonsRow.inPlace==Tryz.pinned.checked.prog.inPlace 3))=true:=by kernel_rfl
theorem closed10:((Rows.knowledgeCommonsRow.unfollowed==Tryz.pinned.checked.prog.unfollowed 3))=true:=by kernel_rfl
theorem closed11:((Rows.knowledgeCommonsRow.recurses==Tryz.pinned.checked.prog.recurses 3))=true:=by kernel_rfl
theorem closed12:((Rows.knowledgeCommonsRow.named==Tryz.pinned.checked.prog.varsNamed 3))=true:=by kernel_rfl
theorem closed13:((Rows.knowledgeCommonsRow.maps==(Tryz.f3.params.toList++Rows.knowledgeCommonsSpec.plain.varTypes Tryz.pinned.checked.prog).any (Tryz.pinned.checked.prog.mapsRec ·)))=true:=by kernel_rfl
theorem closed14:((Rows.knowledgeCommonsRow.ifaces==(Tryz.f3.params.toList++Rows.knowledgeCommonsSpec.plain.varTypes Tryz.pinned.checked.prog).any (Tryz.pinned.checked.prog.ifacesRec ·)))=true:=by kernel_rfl
theorem closed15:((Rows.knowledgeCommonsRow.mapsOut==Tryz.pinned.checked.prog.mapsAmong Tryz.f3.resultTypes.toList))=true:=by kernel_rfl
theorem closed16:((Rows.knowledgeCommonsRow.loops==(Tryz.f3.params.toList++Rows.knowledgeCommonsSpec.plain.varTypes Tryz.pinned.checked.prog).any (Tryz.pinned.checked.prog.loopsFrom ·)))=true:=by kernel_rfl
theorem closed17:((Rows.knowledgeCommonsRow.wideKeys==(Tryz.f3.params.toList++Rows.knowledgeCommonsSpec.plain.varTypes Tryz.pinned.checked.prog++Tryz.f3.resultTypes.toList).any (Tryz.pinned.checked.prog.wideKeysFrom ·)))=true:=by kernel_rfl
theorem closed18:(Rows.knowledgeCommonsSpec.vars.all (Tryz.pinned.checked.prog.varReadable ·))=true:=by kernel_rfl
theorem closed19:(Tryz.f3.resultTypes.all (fun t=>Tryz.pinned.checked.prog.readableRec t&&decide (t<Tryz.pinned.checked.prog.types.size)))=true:=by kernel_rfl
theorem closed20:((Rows.knowledgeCommonsRow.ifacesOut==Tryz.f3.resultTypes.toList.any (Tryz.pinned.checked.prog.ifacesRec ·)))=true:=by kernel_rfl
theorem closed21:((Rows.knowledgeCommonsRow.loopsOut==Tryz.f3.resultTypes.toList.any (Tryz.pinned.checked.prog.loopsFrom ·)))=true:=by kernel_rfl
theorem closed22:((Rows.knowledgeCommonsRow.plainKeys==Tryz.pinned.checked.prog.plainKeys))=true:=by kernel_rfl
theorem closed23:(Rows.knowledgeCommonsRow.shortTexts.isNone)=true:=by kernel_rfl
theorem closed24:(Tryz.pinned.checked.prog.stopsHeard)=true:=by kernel_rfl
theorem closed25:(Tryz.pinned.checked.prog.mayEnter)=true:=by kernel_rfl
theorem closed26:((Rows.knowledgeCommonsRow.lifted==Tryz.pinned.checked.prog.liftsFinal))=true:=by kernel_rfl
theorem closed27:((Tryz.pinned.checked.prog.make==some Rows.knowledgeCommonsRow.make))=true:=by kernel_rfl
theorem closed28:((Rows.knowledgeCommonsRow.kinds==(if Rows.knowledgeCommonsRow.domain.isEmpty then [] else Tryz.f3.params.toList.map fun t=>match Tryz.pinned.checked.prog.underlying t with | some (.int k)=>some k | _=>none)))=true:=by kernel_rfl
theorem closed29:((Rows.knowledgeCommonsRow.pinned==Rows.knowledgeCommonsRow.pinnedBy))=true:=by kernel_rfl
theorem closed30:((Rows.knowledgeCommonsRow.veiled==(Tryz.f3.params.toList++Rows.knowledgeCommonsSpec.plain.varTypes Tryz.pinned.checked.prog++Tryz.f3.resultTypes.toList).any (Tryz.pinned.checked.prog.veiledRec ·)))=true:=by kernel_rfl
theorem closed31:(Rows.knowledgeCommonsRow.veiledFits Tryz.pinned.checked.prog Tryz.f3.params.toList (Tryz.f3.params.toList++Rows.knowledgeCommonsSpec.plain.varTypes Tryz.pinned.checked.prog++Tryz.f3.resultTypes.toList))=true:=by kernel_rfl
theorem zO{a b:Bool}(ha:a=true)(hb:b=true):(a&&b)=true:=by rw[ha,hb];rfl
theorem closed:joinedFacts Tryz.pinned.checked.prog 3 Tryz.f3 Rows.knowledgeCommonsSpec Rows.knowledgeCommonsRow=true:=by
  unfold joinedFacts;exact(zO (zO (zO (zO (zO (zO (zO (zO (zO (zO (zO (zO (zO (zO (zO (zO (zO (zO (zO (zO (zO (zO (zO (zO (zO (zO (zO (zO (zO (zO (zO closed0 closed1) closed2) closed3) closed4) closed5) closed6) closed7) closed8) closed9) closed10) closed11) closed12) closed13) closed14) closed15) closed16) closed17) closed18) closed19) closed20) closed21) closed22) closed23) closed24) closed25) closed26) closed27) closed28) closed29) closed30) closed31)
theorem said:Rows.KnowledgeCommonsSaid:=
  OpenClaim.holds_of_wide 3 Tryz.f3 rfl rfl rfl rfl rfl rfl rfl ⟨rfl,rfl,rfl,rfl,rfl⟩ rfl rfl rfl rfl rfl (by kernel_rfl) Tryz.func3 closed
    (LF (by kernel_rfl)) (by unfold Func.isWrapper;first | (rw[Lh (by decide +kernel)];kernel_rfl) | (rw[Lg (by decide +kernel)];exact⟨rfl,rfl⟩))
    (fun os started H enc _=>lifted os started H enc)
theorem holds:Rows.KnowledgeCommonsCardSaid:=
  Claim7.holds_tied_plain_at .later [] [.data] true Rows.knowledgeCommonsCard.stood.harness false
    said (fun _ h=>by cases h) (by kernel_rfl) (fun _ h=>by cases h) knowledgeCommons_row_tie rfl ⟨rfl,rfl⟩ (by kernel_rfl) rfl
    (fun f fn hf hfn=>by
      obtain rfl:f=3:=NI ((show Tryz.prog.funcNamed Rows.knowledgeCommonsRow.func=some 3 by kernel_rfl).symm.trans hf) |>.symm;obtain rfl:fn=Tryz.f3:=(NI (Tryz.func3.symm.trans hfn)).symm
      exact⟨by kernel_rfl,fun j t ht=>by
        rw[Tryz.params3] at ht;have hm:t∈[35,3,36]:=by simpa using Array.mem_of_getElem? ht
        have hall:([35,3,36].all fun u=>!Tryz.prog.wantsStandIn u)=true:=by kernel_rfl
        exact(show Tryz.prog.wantsStandIn t=false by simpa using LK.1 hall t hm)⟩)
    (by kernel_rfl)
#print axioms holds
end Go.Proofs.YtohjmddnennajaaGreatDoor
