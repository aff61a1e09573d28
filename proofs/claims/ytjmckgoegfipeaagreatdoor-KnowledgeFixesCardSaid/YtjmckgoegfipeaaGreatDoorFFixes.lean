/- KnowledgeFixes: common knowledge is what everyone knows to hold together with the set; it is common knowledge itself, and holds exactly where all connected points are in the set: the law answers true for every input, and its arguments read behind the call as before. No further condition. -/
import Derived.Test.YtjmckgoegfipeaaGreatDoorCards
import Derived.Test.YtjmckgoegfipeaaGreatDoorTie
import Derived.Test.YtjmckgoegfipeaaGreatDoorPk
import Derived.Test.YtjmckgoegfipeaaGreatDoorPo
import Derived.SevenTiedAt
import Derived.Lay

namespace Go.Proofs.YtjmckgoegfipeaaGreatDoor
set_option maxRecDepth 100000
open Go.ChangeShapes Go.WideShapes Go.ChangeAt Go.RowKit
theorem lifted(os : Os)(started : os.Started)(H : Type)(enc : TypeId × Value → H) :
    ReturnsInHanded {} Tryz.checked os 9 .any (fun w args=>(Rows.knowledgeFixesSpec.pre enc Tryz.prog Tryz.f9 [] false w args/\laidMetH Tryz.prog Rows.knowledgeFixesRow.laid w)/\sizedMet enc Tryz.prog Tryz.f9 (OpenSpec.ofChange Rows.knowledgeFixesSpec) false w args)
      (Rows.knowledgeFixesSpec.post enc Tryz.prog Tryz.f9 false true false false):=by
  refine qv (C:=Tryz.checked) (X:=fun w _=>laidMetH Tryz.prog Rows.knowledgeFixesRow.laid w) started (fun _ _ _ hh h=>h.of_heap hh) uM (by kernel_rfl) Tryz.func9
    (ChangeSpec.witness_shaped (enc:=enc) (C:=Tryz.checked) (os:=os) (X:=fun w _=>laidMetH Tryz.prog Rows.knowledgeFixesRow.laid w) false (World.laidAll Tryz.prog os jc)
      #[.agg #[.int .i64 0,.int .i64 0,.int .i64 0,.slice none 0 0,.int .i64 0,.slice none 0 0,.int .i64 0],.int .u8 0,.slice none 0 0] 8 (World.laidAll_os _ _ _) (World.shaped_of_ZipB (by kernel_rfl) (by kernel_rfl)) (by kernel_rfl) (by kernel_rfl) (by kernel_rfl)
      (by show laidMetH Tryz.prog jc _;rw[Nv _ _ _ (by kernel_rfl)];exact laidMet_laidAll _ (by kernel_rfl) (by kernel_rfl)))
    (tb:=4) rfl Nt qw ?_ rfl ?_ ?_
  . intro t ht
    have hm:t∈[29,5,36]:=ht;simp only[List.mem_cons,List.not_mem_nil,or_false] at hm;rcases hm with rfl | rfl | rfl
    . exact⟨by kernel_rfl,Lv (by kernel_rfl)⟩
    . exact⟨by kernel_rfl,Lv (by kernel_rfl)⟩
    . exact⟨by kernel_rfl,Lv (by kernel_rfl)⟩
  . intro ds hd
    match ds,hd with
    | [_,_,_],_=>rfl
  . intro W base args ds ps hval hA hsz hlt hL
    have hA':DataW.TrodAll enc Tryz.prog W 0 (fun _=>true) true [29,5,36] args.toList ds ps:=hA;obtain⟨v0,v1,v2,d0,d1,d2,p0,p1,p2,rfl,rfl,rfl,h0,h1,h2⟩:=trodAll_three hA';have hsz':(DataW.weightsEach Tryz.prog [29,5,36] [d0,d1,d2]).all (·<=reachBytes)=true:=hsz;simp only[DataW.weightsEach,List.all_append,Bool.and_eq_true] at hsz';obtain⟨p,A,kc,SV,ks,rfl,hlp,hCA,hSA⟩:=qK (hval 0 29 v0 rfl rfl) h0 hsz'.1;obtain⟨i1,rfl,hu1,_,hu2⟩:=open_int Tryz.underlying5 (hval 1 5 v1 rfl rfl) h1;obtain⟨n1,rfl,hn1⟩:=wT (by decide) hu2;have hn1':=JP hn1;obtain⟨AB,bs,kb,rfl,hBA⟩:=xS (hval 2 36 v2 rfl rfl) h2 hsz'.2.2.1;exact law_kfixes p hlp A kc SV ks n1 hn1' bs AB kb W (kT hL) hCA hSA hBA
theorem closed0:(Rows.knowledgeFixesRow.wf (OpenSpec.ofChange Rows.knowledgeFixesSpec))=true:=by kernel_rfl
theorem closed1:(laidOutB Tryz.pinned.checked.prog)=true:=by kernel_rfl
theorem closed2:(mapsRowed Tryz.pinned.checked.prog)=true:=by kernel_rfl
theorem closed3:(Tryz.f9.params.all (Tryz.pinned.checked.prog.readableRec ·))=true:=by kernel_rfl
theorem closed4:(namedTie Tryz.pinned.checked.prog Rows.knowledgeFixesRow.named Rows.knowledgeFixesSpec.vars)=true:=by kernel_rfl
theorem closed5:((Rows.knowledgeFixesRow.stops==[]))=true:=by kernel_rfl
theorem closed6:((Tryz.pinned.checked.prog.stops==[]))=true:=by kernel_rfl
theorem closed7:((Rows.knowledgeFixesRow.knobs==[]))=true:=by kernel_rfl
theorem closed8:((Tryz.pinned.checked.prog.stopKnobs==[]))=true:=by kernel_rfl
theorem closed9:((Rows.knowledgeFixesRow.inPlace==Tryz.pinned.checked.prog.inPlace 9))=true:=by kernel_rfl
theorem closed10:((Rows.knowledgeFixesRow.unfollowed==Tryz.pinned.checked.prog.unfollowed 9))=true:=by kernel_rfl
theorem closed11:((Rows.knowledgeFixesRow.recurses==Tryz.pinned.checked.prog.recurses 9))=true:=by kernel_rfl
theorem closed12:((Rows.knowledgeFixesRow.named==Tryz.pinned.checked.prog.varsNamed 9))=true:=by kernel_rfl
theorem closed13:((Rows.knowledgeFixesRow.maps==(Tryz.f9.params.toList++Rows.knowledgeFixesSpec.plain.varTypes Tryz.pinned.checked.prog).any (Tryz.pinned.checked.prog.mapsRec ·)))=true:=by kernel_rfl
theorem closed14:((Rows.knowledgeFixesRow.ifaces==(Tryz.f9.params.toList++Rows.knowledgeFixesSpec.plain.varTypes Tryz.pinned.checked.prog).any (Tryz.pinned.checked.prog.ifacesRec ·)))=true:=by kernel_rfl
theorem closed15:((Rows.knowledgeFixesRow.mapsOut==Tryz.pinned.checked.prog.mapsAmong Tryz.f9.resultTypes.toList))=true:=by kernel_rfl
theorem closed16:((Rows.knowledgeFixesRow.loops==(Tryz.f9.params.toList++Rows.knowledgeFixesSpec.plain.varTypes Tryz.pinned.checked.prog).any (Tryz.pinned.checked.prog.loopsFrom ·)))=true:=by kernel_rfl
theorem closed17:((Rows.knowledgeFixesRow.wideKeys==(Tryz.f9.params.toList++Rows.knowledgeFixesSpec.plain.varTypes Tryz.pinned.checked.prog++Tryz.f9.resultTypes.toList).any (Tryz.pinned.checked.prog.wideKeysFrom ·)))=true:=by kernel_rfl
theorem closed18:(Rows.knowledgeFixesSpec.vars.all (Tryz.pinned.checked.prog.varReadable ·))=true:=by kernel_rfl
theorem closed19:(Tryz.f9.resultTypes.all (fun t=>Tryz.pinned.checked.prog.readableRec t&&decide (t<Tryz.pinned.checked.prog.types.size)))=true:=by kernel_rfl
theorem closed20:((Rows.knowledgeFixesRow.ifacesOut==Tryz.f9.resultTypes.toList.any (Tryz.pinned.checked.prog.ifacesRec ·)))=true:=by kernel_rfl
theorem closed21:((Rows.knowledgeFixesRow.loopsOut==Tryz.f9.resultTypes.toList.any (Tryz.pinned.checked.prog.loopsFrom ·)))=true:=by kernel_rfl
theorem closed22:((Rows.knowledgeFixesRow.plainKeys==Tryz.pinned.checked.prog.plainKeys))=true:=by kernel_rfl
theorem closed23:(Rows.knowledgeFixesRow.shortTexts.isNone)=true:=by kernel_rfl
theorem closed24:(Tryz.pinned.checked.prog.stopsHeard)=true:=by kernel_rfl
theorem closed25:(Tryz.pinned.checked.prog.mayEnter)=true:=by kernel_rfl
theorem closed26:((Rows.knowledgeFixesRow.lifted==Tryz.pinned.checked.prog.liftsFinal))=true:=by kernel_rfl
theorem closed27:((Tryz.pinned.checked.prog.make==some Rows.knowledgeFixesRow.make))=true:=by kernel_rfl
theorem closed28:((Rows.knowledgeFixesRow.kinds==(if Rows.knowledgeFixesRow.domain.isEmpty then [] else Tryz.f9.params.toList.map fun t=>match Tryz.pinned.checked.prog.underlying t with | some (.int k)=>some k | _=>none)))=true:=by kernel_rfl
theorem closed29:((Rows.knowledgeFixesRow.pinned==Rows.knowledgeFixesRow.pinnedBy))=true:=by kernel_rfl
theorem closed30:((Rows.knowledgeFixesRow.veiled==(Tryz.f9.params.toList++Rows.knowledgeFixesSpec.plain.varTypes Tryz.pinned.checked.prog++Tryz.f9.resultTypes.toList).any (Tryz.pinned.checked.prog.veiledRec ·)))=true:=by kernel_rfl
theorem closed31:(Rows.knowledgeFixesRow.veiledFits Tryz.pinned.checked.prog Tryz.f9.params.toList (Tryz.f9.params.toList++Rows.knowledgeFixesSpec.plain.varTypes Tryz.pinned.checked.prog++Tryz.f9.resultTypes.toList))=true:=by kernel_rfl
theorem and_both{a b:Bool}(ha:a=true)(hb:b=true):(a&&b)=true:=by rw[ha,hb];rfl
theorem closed:joinedFacts Tryz.pinned.checked.prog 9 Tryz.f9 Rows.knowledgeFixesSpec Rows.knowledgeFixesRow=true:=by
  unfold joinedFacts;exact(and_both (and_both (and_both (and_both (and_both (and_both (and_both (and_both (and_both (and_both (and_both (and_both (and_both (and_both (and_both (and_both (and_both (and_both (and_both (and_both (and_both (and_both (and_both (and_both (and_both (and_both (and_both (and_both (and_both (and_both (and_both closed0 closed1) closed2) closed3) closed4) closed5) closed6) closed7) closed8) closed9) closed10) closed11) closed12) closed13) closed14) closed15) closed16) closed17) closed18) closed19) closed20) closed21) closed22) closed23) closed24) closed25) closed26) closed27) closed28) closed29) closed30) closed31)
theorem said:Rows.KnowledgeFixesSaid:=
  OpenClaim.holds_of_wide 9 Tryz.f9 rfl rfl rfl rfl rfl rfl rfl ⟨rfl,rfl,rfl,rfl,rfl⟩ rfl rfl rfl rfl rfl (by kernel_rfl) Tryz.func9 closed
    (Lv (by kernel_rfl)) (by unfold Func.isWrapper;first | (rw[Lh (by decide +kernel)];kernel_rfl) | (rw[Lf (by decide +kernel)];exact⟨rfl,rfl⟩))
    (fun os started H enc _=>lifted os started H enc)
theorem holds:Rows.KnowledgeFixesCardSaid:=
  Claim7.holds_tied_plain_at .later [] [.data] true Rows.knowledgeFixesCard.stood.harness false
    said (fun _ h=>by cases h) (by kernel_rfl) (fun _ h=>by cases h) knowledgeFixes_row_tie rfl ⟨rfl,rfl⟩ (by kernel_rfl) rfl
    (fun f fn hf hfn=>by
      obtain rfl:f=9:=LO ((show Tryz.prog.funcNamed Rows.knowledgeFixesRow.func=some 9 by kernel_rfl).symm.trans hf) |>.symm;obtain rfl:fn=Tryz.f9:=(LO (Tryz.func9.symm.trans hfn)).symm
      exact⟨by kernel_rfl,fun j t ht=>by
        rw[Tryz.params9] at ht;have hm:t∈[29,5,36]:=by simpa using NU ht
        have hall:([29,5,36].all fun u=>!Tryz.prog.wantsStandIn u)=true:=by kernel_rfl
        exact(show Tryz.prog.wantsStandIn t=false by simpa using LG.1 hall t hm)⟩)
    (by kernel_rfl)
#print axioms holds
end Go.Proofs.YtjmckgoegfipeaaGreatDoor
