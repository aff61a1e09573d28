/- KnowledgeIntrospects: what a process knows is true, it knows that it knows it, and what it does not know it knows that it does not know: the law answers true for every input, and its arguments read behind the call as before. No further condition. -/
import Derived.Test.YtjmckgoegfipeaaGreatDoorCards
import Derived.Test.YtjmckgoegfipeaaGreatDoorTie
import Derived.Test.YtjmckgoegfipeaaGreatDoorPk
import Derived.Test.YtjmckgoegfipeaaGreatDoorPq
import Derived.SevenTiedAt
import Derived.Lay

namespace Go.Proofs.YtjmckgoegfipeaaGreatDoor
abbrev P7:=@Go.Proofs.Tryz.underlying5
set_option maxRecDepth 100000
open Go.ChangeShapes Go.WideShapes Go.ChangeAt Go.RowKit
theorem lifted(os : Os)(started : os.Started)(H : Type)(enc : TypeId × Value → H) :
    ReturnsInHanded {} Tryz.checked os 6 .any (fun w args=>(Rows.knowledgeIntrospectsSpec.pre enc Tryz.prog Tryz.f6 [] false w args/\laidMetH Tryz.prog Rows.knowledgeIntrospectsRow.laid w)/\sizedMet enc Tryz.prog Tryz.f6 (OpenSpec.ofChange Rows.knowledgeIntrospectsSpec) false w args)
      (Rows.knowledgeIntrospectsSpec.post enc Tryz.prog Tryz.f6 false true false false):=by
  refine qv (C:=Tryz.checked) (X:=fun w _=>laidMetH Tryz.prog Rows.knowledgeIntrospectsRow.laid w) started (fun _ _ _ hh h=>h.of_heap hh) uM (by kernel_rfl) Tryz.func6
    (ChangeSpec.witness_shaped (enc:=enc) (C:=Tryz.checked) (os:=os) (X:=fun w _=>laidMetH Tryz.prog Rows.knowledgeIntrospectsRow.laid w) false (World.laidAll Tryz.prog os jc)
      #[.agg #[.int .i64 0,.int .i64 0,.int .i64 0,.slice none 0 0,.int .i64 0,.slice none 0 0,.int .i64 0],.int .u8 0,.slice none 0 0] 8 (World.laidAll_os _ _ _) (World.shaped_of_ZipB (by kernel_rfl) (by kernel_rfl)) (by kernel_rfl) (by kernel_rfl) (by kernel_rfl)
      (by show laidMetH Tryz.prog jc _;rw[Nv _ _ _ (by kernel_rfl)];exact laidMet_laidAll _ (by kernel_rfl) (by kernel_rfl)))
    (tb:=4) rfl Nt qw ?_ rfl ?_ ?_
  . intro t ht
    have hm:t∈[29,5,36]:=ht;simp only[List.mem_cons,List.not_mem_nil,or_false] at hm;rcases hm with rfl | rfl | rfl
    . exact⟨by kernel_rfl,Lv (by kernel_rfl)⟩
    . exact⟨by kernel_rfl,Lv (by kernel_rfl)⟩
    . exact⟨by kernel_rfl,Lv (by kernel_rfl)⟩
  . intro ds hd
    match ds,hd with
    | [_,_,_],_=>rfl
  . intro W base args ds ps hval hA hsz hlt hL
    have hA':DataW.TrodAll enc Tryz.prog W 0 (fun _=>true) true [29,5,36] args.toList ds ps:=hA;obtain⟨v0,v1,v2,d0,d1,d2,p0,p1,p2,rfl,rfl,rfl,h0,h1,h2⟩:=trodAll_three hA';have hsz':(DataW.weightsEach Tryz.prog [29,5,36] [d0,d1,d2]).all (·<=reachBytes)=true:=hsz;simp only[DataW.weightsEach,List.all_append,Bool.and_eq_true] at hsz';obtain⟨p,A,kc,SV,ks,rfl,hlp,hCA,hSA⟩:=qK (hval 0 29 v0 rfl rfl) h0 hsz'.1;obtain⟨i1,rfl,hu1,_,hu2⟩:=open_int P7 (hval 1 5 v1 rfl rfl) h1;obtain⟨n1,rfl,hn1⟩:=wT (by decide) hu2;have hn1':=JP hn1;obtain⟨AB,bs,kb,rfl,hBA⟩:=xS (hval 2 36 v2 rfl rfl) h2 hsz'.2.2.1;exact law_kintro p hlp A kc SV ks n1 hn1' bs AB kb W (kT hL) hCA hSA hBA
theorem closed0:(Rows.knowledgeIntrospectsRow.wf (OpenSpec.ofChange Rows.knowledgeIntrospectsSpec))=true:=by kernel_rfl
theorem closed1:(laidOutB Tryz.pinned.checked.prog)=true:=by kernel_rfl
theorem closed2:(mapsRowed Tryz.pinned.checked.prog)=true:=by kernel_rfl
theorem closed3:(Tryz.f6.params.all (Tryz.pinned.checked.prog.readableRec ·))=true:=by kernel_rfl
theorem closed4:(namedTie Tryz.pinned.checked.prog Rows.knowledgeIntrospectsRow.named Rows.knowledgeIntrospectsSpec.vars)=true:=by kernel_rfl
theorem closed5:((Rows.knowledgeIntrospectsRow.stops==[]))=true:=by kernel_rfl
theorem closed6:((Tryz.pinned.checked.prog.stops==[]))=true:=by kernel_rfl
theorem closed7:((Rows.knowledgeIntrospectsRow.knobs==[]))=true:=by kernel_rfl
theorem closed8:((Tryz.pinned.checked.prog.stopKnobs==[]))=true:=by kernel_rfl
theorem closed9:((Rows.knowledgeIntrospectsRow.inPlace==Tryz.pinned.checked.prog.inPlace 6))=true:=by kernel_rfl
theorem closed10:((Rows.knowledgeIntrospectsRow.unfollowed==Tryz.pinned.checked.prog.unfollowed 6))=true:=by kernel_rfl
theorem closed11:((Rows.knowledgeIntrospectsRow.recurses==Tryz.pinned.checked.prog.recurses 6))=true:=by kernel_rfl
theorem closed12:((Rows.knowledgeIntrospectsRow.named==Tryz.pinned.checked.prog.varsNamed 6))=true:=by kernel_rfl
theorem closed13:((Rows.knowledgeIntrospectsRow.maps==(Tryz.f6.params.toList++Rows.knowledgeIntrospectsSpec.plain.varTypes Tryz.pinned.checked.prog).any (Tryz.pinned.checked.prog.mapsRec ·)))=true:=by kernel_rfl
theorem closed14:((Rows.knowledgeIntrospectsRow.ifaces==(Tryz.f6.params.toList++Rows.knowledgeIntrospectsSpec.plain.varTypes Tryz.pinned.checked.prog).any (Tryz.pinned.checked.prog.ifacesRec ·)))=true:=by kernel_rfl
theorem closed15:((Rows.knowledgeIntrospectsRow.mapsOut==Tryz.pinned.checked.prog.mapsAmong Tryz.f6.resultTypes.toList))=true:=by kernel_rfl
theorem closed16:((Rows.knowledgeIntrospectsRow.loops==(Tryz.f6.params.toList++Rows.knowledgeIntrospectsSpec.plain.varTypes Tryz.pinned.checked.prog).any (Tryz.pinned.checked.prog.loopsFrom ·)))=true:=by kernel_rfl
theorem closed17:((Rows.knowledgeIntrospectsRow.wideKeys==(Tryz.f6.params.toList++Rows.knowledgeIntrospectsSpec.plain.varTypes Tryz.pinned.checked.prog++Tryz.f6.resultTypes.toList).any (Tryz.pinned.checked.prog.wideKeysFrom ·)))=true:=by kernel_rfl
theorem closed18:(Rows.knowledgeIntrospectsSpec.vars.all (Tryz.pinned.checked.prog.varReadable ·))=true:=by kernel_rfl
theorem closed19:(Tryz.f6.resultTypes.all (fun t=>Tryz.pinned.checked.prog.readableRec t&&decide (t<Tryz.pinned.checked.prog.types.size)))=true:=by kernel_rfl
theorem closed20:((Rows.knowledgeIntrospectsRow.ifacesOut==Tryz.f6.resultTypes.toList.any (Tryz.pinned.checked.prog.ifacesRec ·)))=true:=by kernel_rfl
theorem closed21:((Rows.knowledgeIntrospectsRow.loopsOut==Tryz.f6.resultTypes.toList.any (Tryz.pinned.checked.prog.loopsFrom ·)))=true:=by kernel_rfl
theorem closed22:((Rows.knowledgeIntrospectsRow.plainKeys==Tryz.pinned.checked.prog.plainKeys))=true:=by kernel_rfl
theorem closed23:(Rows.knowledgeIntrospectsRow.shortTexts.isNone)=true:=by kernel_rfl
theorem closed24:(Tryz.pinned.checked.prog.stopsHeard)=true:=by kernel_rfl
theorem closed25:(Tryz.pinned.checked.prog.mayEnter)=true:=by kernel_rfl
theorem closed26:((Rows.knowledgeIntrospectsRow.lifted==Tryz.pinned.checked.prog.liftsFinal))=true:=by kernel_rfl
theorem closed27:((Tryz.pinned.checked.prog.make==some Rows.knowledgeIntrospectsRow.make))=true:=by kernel_rfl
theorem closed28:((Rows.knowledgeIntrospectsRow.kinds==(if Rows.knowledgeIntrospectsRow.domain.isEmpty then [] else Tryz.f6.params.toList.map fun t=>match Tryz.pinned.checked.prog.underlying t with | some (.int k)=>some k | _=>none)))=true:=by kernel_rfl
theorem closed29:((Rows.knowledgeIntrospectsRow.pinned==Rows.knowledgeIntrospectsRow.pinnedBy))=true:=by kernel_rfl
theorem closed30:((Rows.knowledgeIntrospectsRow.veiled==(Tryz.f6.params.toList++Rows.knowledgeIntrospectsSpec.plain.varTypes Tryz.pinned.checked.prog++Tryz.f6.resultTypes.toList).any (Tryz.pinned.checked.prog.veiledRec ·)))=true:=by kernel_rfl
theorem closed31:(Rows.knowledgeIntrospectsRow.veiledFits Tryz.pinned.checked.prog Tryz.f6.params.toList (Tryz.f6.params.toList++Rows.knowledgeIntrospectsSpec.plain.varTypes Tryz.pinned.checked.prog++Tryz.f6.resultTypes.toList))=true:=by kernel_rfl
theorem and_both{a b:Bool}(ha:a=true)(hb:b=true):(a&&b)=true:=by rw[ha,hb];rfl
theorem closed:joinedFacts Tryz.pinned.checked.prog 6 Tryz.f6 Rows.knowledgeIntrospectsSpec Rows.knowledgeIntrospectsRow=true:=by
  unfold joinedFacts;exact(and_both (and_both (and_both (and_both (and_both (and_both (and_both (and_both (and_both (and_both (and_both (and_both (and_both (and_both (and_both (and_both (and_both (and_both (and_both (and_both (and_both (and_both (and_both (and_both (and_both (and_both (and_both (and_both (and_both (and_both (and_both closed0 closed1) closed2) closed3) closed4) closed5) closed6) closed7) closed8) closed9) closed10) closed11) closed12) closed13) closed14) closed15) closed16) closed17) closed18) closed19) closed20) closed21) closed22) closed23) closed24) closed25) closed26) closed27) closed28) closed29) closed30) closed31)
theorem said:Rows.KnowledgeIntrospectsSaid:=
  OpenClaim.holds_of_wide 6 Tryz.f6 rfl rfl rfl rfl rfl rfl rfl ⟨rfl,rfl,rfl,rfl,rfl⟩ rfl rfl rfl rfl rfl (by kernel_rfl) Tryz.func6 closed
    (Lv (by kernel_rfl)) (by unfold Func.isWrapper;first | (rw[Lh (by decide +kernel)];kernel_rfl) | (rw[Lf (by decide +kernel)];exact⟨rfl,rfl⟩))
    (fun os started H enc _=>lifted os started H enc)
theorem holds:Rows.KnowledgeIntrospectsCardSaid:=
  Claim7.holds_tied_plain_at .later [] [.data] true Rows.knowledgeIntrospectsCard.stood.harness false
    said (fun _ h=>by cases h) (by kernel_rfl) (fun _ h=>by cases h) knowledgeIntrospects_row_tie rfl ⟨rfl,rfl⟩ (by kernel_rfl) rfl
    (fun f fn hf hfn=>by
      obtain rfl:f=6:=LO ((show Tryz.prog.funcNamed Rows.knowledgeIntrospectsRow.func=some 6 by kernel_rfl).symm.trans hf) |>.symm;obtain rfl:fn=Tryz.f6:=(LO (Tryz.func6.symm.trans hfn)).symm
      exact⟨by kernel_rfl,fun j t ht=>by
        rw[Tryz.params6] at ht;have hm:t∈[29,5,36]:=by simpa using NU ht
        have hall:([29,5,36].all fun u=>!Tryz.prog.wantsStandIn u)=true:=by kernel_rfl
        exact(show Tryz.prog.wantsStandIn t=false by simpa using LG.1 hall t hm)⟩)
    (by kernel_rfl)
#print axioms holds
end Go.Proofs.YtjmckgoegfipeaaGreatDoor
