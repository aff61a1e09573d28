/- KnowledgeKnows: Knows, Everyone and Distributed return the sets or errors of the reference for all systems, processes, groups and sets: the law answers true for every input, and its arguments read behind the call as before. No further condition. -/
import Derived.Test.YtjmckgoegfipeaaGreatDoorCards
import Derived.Test.YtjmckgoegfipeaaGreatDoorTie
import Derived.Test.YtjmckgoegfipeaaGreatDoorPf
import Derived.Test.YtjmckgoegfipeaaGreatDoorPl
import Derived.SevenTiedAt
import Derived.Lay

namespace Go.Proofs.YtjmckgoegfipeaaGreatDoor
abbrev NR:=@Go.ChangeSpec.witness_shaped
abbrev PD:=@Go.World.laidAll_os
abbrev Pf:=@Go.World.shaped_of_ZipB
abbrev PK:=@Go.laidMet_laidAll
abbrev PM:=@List.all_append
abbrev N1:=@Go.OpenClaim.holds_of_wide
abbrev NI:=@Go.Claim7.holds_tied_plain_at
set_option maxRecDepth 100000
open Go.ChangeShapes Go.WideShapes Go.ChangeAt Go.RowKit
theorem lifted(os : Os)(started : os.Started)(H : Type)(enc : TypeId × Value → H) :
    ReturnsInHanded {} Tryz.checked os 3 .any (fun w args=>(Rows.knowledgeKnowsSpec.pre enc Tryz.prog Tryz.f3 [] false w args/\laidMetH Tryz.prog Rows.knowledgeKnowsRow.laid w)/\sizedMet enc Tryz.prog Tryz.f3 (OpenSpec.ofChange Rows.knowledgeKnowsSpec) false w args)
      (Rows.knowledgeKnowsSpec.post enc Tryz.prog Tryz.f3 false true false false):=by
  refine qv (C:=Tryz.checked) (X:=fun w _=>laidMetH Tryz.prog Rows.knowledgeKnowsRow.laid w) started (fun _ _ _ hh h=>h.of_heap hh) uM (by kernel_rfl) Tryz.func3
    (NR (enc:=enc) (C:=Tryz.checked) (os:=os) (X:=fun w _=>laidMetH Tryz.prog Rows.knowledgeKnowsRow.laid w) false (World.laidAll Tryz.prog os jc)
      #[.agg #[.int .i64 0,.int .i64 0,.int .i64 0,.slice none 0 0,.int .i64 0,.slice none 0 0,.int .i64 0,.int .i64 0,.slice none 0 0,.slice none 0 0],.int .i64 0,.slice none 0 0] 8 (PD _ _ _) (Pf (by kernel_rfl) (by kernel_rfl)) (by kernel_rfl) (by kernel_rfl) (by kernel_rfl)
      (by show laidMetH Tryz.prog jc _;rw[Nv _ _ _ (by kernel_rfl)];exact PK _ (by kernel_rfl) (by kernel_rfl)))
    (tb:=4) rfl Nt qw ?_ rfl ?_ ?_
  . intro t ht
    have hm:t∈[35,3,36]:=ht;simp only[List.mem_cons,List.not_mem_nil,or_false] at hm;rcases hm with rfl | rfl | rfl
    . exact⟨by kernel_rfl,Lv (by kernel_rfl)⟩
    . exact⟨by kernel_rfl,Lv (by kernel_rfl)⟩
    . exact⟨by kernel_rfl,Lv (by kernel_rfl)⟩
  . intro ds hd
    match ds,hd with
    | [_,_,_],_=>rfl
  . intro W base args ds ps hval hA hsz hlt hL
    have hA':DataW.TrodAll enc Tryz.prog W 0 (fun _=>true) true [35,3,36] args.toList ds ps:=hA;obtain⟨v0,v1,v2,d0,d1,d2,p0,p1,p2,rfl,rfl,rfl,h0,h1,h2⟩:=trodAll_three hA';have hsz':(DataW.weightsEach Tryz.prog [35,3,36] [d0,d1,d2]).all (·<=reachBytes)=true:=hsz;simp only[DataW.weightsEach,List.all_append,Bool.and_eq_true] at hsz';obtain⟨s,A,kc,SV,ks,AV,kv,AX,kx,rfl,hls,hv1,hv2,hSY⟩:=Zz (hval 0 35 v0 rfl rfl) h0 hsz'.1;obtain⟨i1,rfl,_,_,_⟩:=open_int Lz (hval 1 3 v1 rfl rfl) h1;obtain⟨AB,bs,kb,rfl,hBA⟩:=xS (hval 2 36 v2 rfl rfl) h2 hsz'.2.2.1;exact law_kknows s hls A SV AV AX kc ks kv kx i1 bs AB kb W (kT hL) hSY hBA
theorem closed0:(Rows.knowledgeKnowsRow.wf (OpenSpec.ofChange Rows.knowledgeKnowsSpec))=true:=by kernel_rfl
theorem closed1:(laidOutB Tryz.pinned.checked.prog)=true:=by kernel_rfl
theorem closed2:(mapsRowed Tryz.pinned.checked.prog)=true:=by kernel_rfl
theorem closed3:(Tryz.f3.params.all (Tryz.pinned.checked.prog.readableRec ·))=true:=by kernel_rfl
theorem closed4:(namedTie Tryz.pinned.checked.prog Rows.knowledgeKnowsRow.named Rows.knowledgeKnowsSpec.vars)=true:=by kernel_rfl
theorem closed5:((Rows.knowledgeKnowsRow.stops==[]))=true:=by kernel_rfl
theorem closed6:((Tryz.pinned.checked.prog.stops==[]))=true:=by kernel_rfl
theorem closed7:((Rows.knowledgeKnowsRow.knobs==[]))=true:=by kernel_rfl
theorem closed8:((Tryz.pinned.checked.prog.stopKnobs==[]))=true:=by kernel_rfl
theorem closed9:((Rows.knowledgeKnowsRow.inPlace==Tryz.pinned.checked.prog.inPlace 3))=true:=by kernel_rfl
theorem closed10:((Rows.knowledgeKnowsRow.unfollowed==Tryz.pinned.checked.prog.unfollowed 3))=true:=by kernel_rfl
theorem closed11:((Rows.knowledgeKnowsRow.recurses==Tryz.pinned.checked.prog.recurses 3))=true:=by kernel_rfl
theorem closed12:((Rows.knowledgeKnowsRow.named==Tryz.pinned.checked.prog.varsNamed 3))=true:=by kernel_rfl
theorem closed13:((Rows.knowledgeKnowsRow.maps==(Tryz.f3.params.toList++Rows.knowledgeKnowsSpec.plain.varTypes Tryz.pinned.checked.prog).any (Tryz.pinned.checked.prog.mapsRec ·)))=true:=by kernel_rfl
theorem closed14:((Rows.knowledgeKnowsRow.ifaces==(Tryz.f3.params.toList++Rows.knowledgeKnowsSpec.plain.varTypes Tryz.pinned.checked.prog).any (Tryz.pinned.checked.prog.ifacesRec ·)))=true:=by kernel_rfl
theorem closed15:((Rows.knowledgeKnowsRow.mapsOut==Tryz.pinned.checked.prog.mapsAmong Tryz.f3.resultTypes.toList))=true:=by kernel_rfl
theorem closed16:((Rows.knowledgeKnowsRow.loops==(Tryz.f3.params.toList++Rows.knowledgeKnowsSpec.plain.varTypes Tryz.pinned.checked.prog).any (Tryz.pinned.checked.prog.loopsFrom ·)))=true:=by kernel_rfl
theorem closed17:((Rows.knowledgeKnowsRow.wideKeys==(Tryz.f3.params.toList++Rows.knowledgeKnowsSpec.plain.varTypes Tryz.pinned.checked.prog++Tryz.f3.resultTypes.toList).any (Tryz.pinned.checked.prog.wideKeysFrom ·)))=true:=by kernel_rfl
theorem closed18:(Rows.knowledgeKnowsSpec.vars.all (Tryz.pinned.checked.prog.varReadable ·))=true:=by kernel_rfl
theorem closed19:(Tryz.f3.resultTypes.all (fun t=>Tryz.pinned.checked.prog.readableRec t&&decide (t<Tryz.pinned.checked.prog.types.size)))=true:=by kernel_rfl
theorem closed20:((Rows.knowledgeKnowsRow.ifacesOut==Tryz.f3.resultTypes.toList.any (Tryz.pinned.checked.prog.ifacesRec ·)))=true:=by kernel_rfl
theorem closed21:((Rows.knowledgeKnowsRow.loopsOut==Tryz.f3.resultTypes.toList.any (Tryz.pinned.checked.prog.loopsFrom ·)))=true:=by kernel_rfl
theorem closed22:((Rows.knowledgeKnowsRow.plainKeys==Tryz.pinned.checked.prog.plainKeys))=true:=by kernel_rfl
theorem closed23:(Rows.knowledgeKnowsRow.shortTexts.isNone)=true:=by kernel_rfl
theorem closed24:(Tryz.pinned.checked.prog.stopsHeard)=true:=by kernel_rfl
theorem closed25:(Tryz.pinned.checked.prog.mayEnter)=true:=by kernel_rfl
theorem closed26:((Rows.knowledgeKnowsRow.lifted==Tryz.pinned.checked.prog.liftsFinal))=true:=by kernel_rfl
theorem closed27:((Tryz.pinned.checked.prog.make==some Rows.knowledgeKnowsRow.make))=true:=by kernel_rfl
theorem closed28:((Rows.knowledgeKnowsRow.kinds==(if Rows.knowledgeKnowsRow.domain.isEmpty then [] else Tryz.f3.params.toList.map fun t=>match Tryz.pinned.checked.prog.underlying t with | some (.int k)=>some k | _=>none)))=true:=by kernel_rfl
theorem closed29:((Rows.knowledgeKnowsRow.pinned==Rows.knowledgeKnowsRow.pinnedBy))=true:=by kernel_rfl
theorem closed30:((Rows.knowledgeKnowsRow.veiled==(Tryz.f3.params.toList++Rows.knowledgeKnowsSpec.plain.varTypes Tryz.pinned.checked.prog++Tryz.f3.resultTypes.toList).any (Tryz.pinned.checked.prog.veiledRec ·)))=true:=by kernel_rfl
theorem closed31:(Rows.knowledgeKnowsRow.veiledFits Tryz.pinned.checked.prog Tryz.f3.params.toList (Tryz.f3.params.toList++Rows.knowledgeKnowsSpec.plain.varTypes Tryz.pinned.checked.prog++Tryz.f3.resultTypes.toList))=true:=by kernel_rfl
theorem and_both{a b:Bool}(ha:a=true)(hb:b=true):(a&&b)=true:=by rw[ha,hb];rfl
theorem closed:joinedFacts Tryz.pinned.checked.prog 3 Tryz.f3 Rows.knowledgeKnowsSpec Rows.knowledgeKnowsRow=true:=by
  unfold joinedFacts;exact(and_both (and_both (and_both (and_both (and_both (and_both (and_both (and_both (and_both (and_both (and_both (and_both (and_both (and_both (and_both (and_both (and_both (and_both (and_both (and_both (and_both (and_both (and_both (and_both (and_both (and_both (and_both (and_both (and_both (and_both (and_both closed0 closed1) closed2) closed3) closed4) closed5) closed6) closed7) closed8) closed9) closed10) closed11) closed12) closed13) closed14) closed15) closed16) closed17) closed18) closed19) closed20) closed21) closed22) closed23) closed24) closed25) closed26) closed27) closed28) closed29) closed30) closed31)
theorem said:Rows.KnowledgeKnowsSaid:=
  N1 3 Tryz.f3 rfl rfl rfl rfl rfl rfl rfl ⟨rfl,rfl,rfl,rfl,rfl⟩ rfl rfl rfl rfl rfl (by kernel_rfl) Tryz.func3 closed
    (Lv (by kernel_rfl)) (by unfold Func.isWrapper;first | (rw[Lh (by decide +kernel)];kernel_rfl) | (rw[Lf (by decide +kernel)];exact⟨rfl,rfl⟩))
    (fun os started H enc _=>lifted os started H enc)
theorem holds:Rows.KnowledgeKnowsCardSaid:=
  NI .later [] [.data] true Rows.knowledgeKnowsCard.stood.harness false
    said (fun _ h=>by cases h) (by kernel_rfl) (fun _ h=>by cases h) knowledgeKnows_row_tie rfl ⟨rfl,rfl⟩ (by kernel_rfl) rfl
    (fun f fn hf hfn=>by
      obtain rfl:f=3:=LO ((show Tryz.prog.funcNamed Rows.knowledgeKnowsRow.func=some 3 by kernel_rfl).symm.trans hf) |>.symm;obtain rfl:fn=Tryz.f3:=(LO (Tryz.func3.symm.trans hfn)).symm
      exact⟨by kernel_rfl,fun j t ht=>by
        rw[Tryz.params3] at ht;have hm:t∈[35,3,36]:=by simpa using NU ht
        have hall:([35,3,36].all fun u=>!Tryz.prog.wantsStandIn u)=true:=by kernel_rfl
        exact(show Tryz.prog.wantsStandIn t=false by simpa using LG.1 hall t hm)⟩)
    (by kernel_rfl)
#print axioms holds
end Go.Proofs.YtjmckgoegfipeaaGreatDoor
