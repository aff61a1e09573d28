/- TopCommonAxioms: common knowledge is the greatest fixed point: everyone knows that it is there together with the formula; and what everyone knows wherever it holds is common knowledge there: the law answers true for every input, and its arguments read behind the call as before. No further condition. -/
import Derived.Test.YtkmbdfdaffmhjaaGreatTk
open Go.Proofs.Tryz
open Go.Value renaming int->O,slice->I,agg->Ai
open Go.IntKind renaming i64->U
open Option renaming none->Z,some->J
open Go.Proofs.Tryz renaming prog->Al
open Go renaming Value->Ar
open Bool renaming true->Au,false->Aw
namespace Go.Proofs.YtkmbdfdaffmhjaaGreat
set_option maxRecDepth 100000
open Go.ChangeShapes Go.WideShapes Go.ChangeAt Go.RowKit
theorem lifted(os : Os)(cz : os.Started)(H : Type)(enc : TypeId × Ar → H) :
    ReturnsInHanded {} Tryz.checked os 4 .any (fun w args=>Rows.topCommonAxiomsSpec.pre enc Al Tryz.f4 [] Aw w args/\sizedMet enc Al Tryz.f4 (OpenSpec.ofChange Rows.topCommonAxiomsSpec) Aw w args)
      (Rows.topCommonAxiomsSpec.post enc Al Tryz.f4 Aw Au Aw Aw):=by
  suffices h : ReturnsInHanded {} Tryz.checked os 4 .any (fun w args => (Rows.topCommonAxiomsSpec.pre enc Al Tryz.f4 [] Aw w args ∧ True) ∧ sizedMet enc Al Tryz.f4 (OpenSpec.ofChange Rows.topCommonAxiomsSpec) Aw w args)
      (Rows.topCommonAxiomsSpec.post enc Al Tryz.f4 Aw Au Aw Aw) by simpa only[and_true] using h
  refine ud (C:=Tryz.checked) (X:=fun _ _=>True) cz (fun _ _ _ _ h=>h) lawOwn (by kernel_rfl) func4
    (ChangeSpec.witness_shaped (enc:=enc) (C:=Tryz.checked) (os:=os) (X:=fun _ _=>True) Aw (World.doorLaid Al 400 os)
      #[Ai #[O U 0,O U 0,O U 0,I Z 0 0,O U 0,I Z 0 0,O U 0],Ai #[O U 0,O U 0,O U 0,O U 0,O U 0,I Z 0 0],.int .u8 0] 8 rfl (World.shaped_of_RefB (by kernel_rfl) (by kernel_rfl)) (by kernel_rfl) (by kernel_rfl) (by kernel_rfl) trivial)
    (tb:=4) rfl underlying4 ue ?_ rfl ?_ ?_
  . intro t ht
    have hm:t∈[29,32,5]:=ht;simp only[List.mem_cons,List.not_mem_nil,or_false] at hm;rcases hm with rfl | rfl | rfl
    . exact⟨by kernel_rfl,Lx (by kernel_rfl)⟩
    . exact⟨by kernel_rfl,Lx (by kernel_rfl)⟩
    exact⟨by kernel_rfl,Lx (by kernel_rfl)⟩
  . intro ds hd
    match ds,hd with
    | [_,_,_],_=>rfl
  intro W ab args ds ps dz hA bL ac hL;have nT:DataW.TrodAll enc Al W 0 (fun _=>Au) Au [29,32,5] args.toList ds ps:=hA;obtain⟨v0,v1,v2,d0,d1,d2,p0,p1,p2,rfl,rfl,rfl,h0,h1,h2⟩:=trodAll_three nT;have ic:(DataW.weightsEach Al [29,32,5] [d0,d1,d2]).all (·<=reachBytes)=Au:=bL;simp only[DataW.weightsEach,List.all_append,Bool.and_eq_true] at ic;obtain⟨p,A,kc,SV,ks,rfl,L8,Ek,Ee⟩:=jz (dz 0 29 v0 rfl rfl) h0 ic.1;obtain⟨f,dd,AF,kf,rfl,hlf,MX⟩:=qL (dz 1 32 v1 rfl rfl) h1 ic.2.1;obtain⟨i2,rfl,hu1,_,UL⟩:=open_int underlying5 (dz 2 5 v2 rfl rfl) h2;obtain⟨n2,rfl,sZ⟩:=lit_nat (by decide) UL;have FU:=u8_lt sZ;exact YT p L8 A SV AF kc ks kf dd f n2 FU W Ek Ee MX
theorem closed0:(Rows.topCommonAxiomsRow.wf (OpenSpec.ofChange Rows.topCommonAxiomsSpec))=Au:=by kernel_rfl
theorem closed1:(laidOutB Tryz.pinned.checked.prog)=Au:=by kernel_rfl
theorem closed2:(mapsRowed Tryz.pinned.checked.prog)=Au:=by kernel_rfl
theorem closed3:(Tryz.f4.params.all (Tryz.pinned.checked.prog.readableRec ·))=Au:=by kernel_rfl
theorem closed4:(namedTie Tryz.pinned.checked.prog Rows.topCommonAxiomsRow.named Rows.topCommonAxiomsSpec.vars)=Au:=by kernel_rfl
theorem closed5:((Rows.topCommonAxiomsRow.stops==[]))=Au:=by kernel_rfl
theorem closed6:((Tryz.pinned.checked.prog.stops==[]))=Au:=by kernel_rfl
theorem closed7:((Rows.topCommonAxiomsRow.knobs==[]))=Au:=by kernel_rfl
theorem closed8:((Tryz.pinned.checked.prog.stopKnobs==[]))=Au:=by kernel_rfl
theorem closed9:((Rows.topCommonAxiomsRow.inPlace==Tryz.pinned.checked.prog.inPlace 4))=Au:=by kernel_rfl
theorem closed10:((Rows.topCommonAxiomsRow.unfollowed==Tryz.pinned.checked.prog.unfollowed 4))=Au:=by kernel_rfl
theorem closed11:((Rows.topCommonAxiomsRow.recurses==Tryz.pinned.checked.prog.recurses 4))=Au:=by kernel_rfl
theorem closed12:((Rows.topCommonAxiomsRow.named==Tryz.pinned.checked.prog.varsNamed 4))=Au:=by kernel_rfl
theorem closed13:((Rows.topCommonAxiomsRow.maps==(Tryz.f4.params.toList++Rows.topCommonAxiomsSpec.plain.varTypes Tryz.pinned.checked.prog).any (Tryz.pinned.checked.prog.mapsRec ·)))=Au:=by kernel_rfl
theorem closed14:((Rows.topCommonAxiomsRow.ifaces==(Tryz.f4.params.toList++Rows.topCommonAxiomsSpec.plain.varTypes Tryz.pinned.checked.prog).any (Tryz.pinned.checked.prog.ifacesRec ·)))=Au:=by kernel_rfl
theorem closed15:((Rows.topCommonAxiomsRow.mapsOut==Tryz.pinned.checked.prog.mapsAmong Tryz.f4.resultTypes.toList))=Au:=by kernel_rfl
theorem closed16:((Rows.topCommonAxiomsRow.loops==(Tryz.f4.params.toList++Rows.topCommonAxiomsSpec.plain.varTypes Tryz.pinned.checked.prog).any (Tryz.pinned.checked.prog.loopsFrom ·)))=Au:=by kernel_rfl
theorem closed17:((Rows.topCommonAxiomsRow.wideKeys==(Tryz.f4.params.toList++Rows.topCommonAxiomsSpec.plain.varTypes Tryz.pinned.checked.prog++Tryz.f4.resultTypes.toList).any (Tryz.pinned.checked.prog.wideKeysFrom ·)))=Au:=by kernel_rfl
theorem closed18:(Rows.topCommonAxiomsSpec.vars.all (Tryz.pinned.checked.prog.varReadable ·))=Au:=by kernel_rfl
theorem closed19:(Tryz.f4.resultTypes.all (fun t=>Tryz.pinned.checked.prog.readableRec t&&decide (t<Tryz.pinned.checked.prog.types.size)))=Au:=by kernel_rfl
theorem closed20:((Rows.topCommonAxiomsRow.ifacesOut==Tryz.f4.resultTypes.toList.any (Tryz.pinned.checked.prog.ifacesRec ·)))=Au:=by kernel_rfl
theorem closed21:((Rows.topCommonAxiomsRow.loopsOut==Tryz.f4.resultTypes.toList.any (Tryz.pinned.checked.prog.loopsFrom ·)))=Au:=by kernel_rfl
theorem closed22:((Rows.topCommonAxiomsRow.plainKeys==Tryz.pinned.checked.prog.plainKeys))=Au:=by kernel_rfl
theorem closed23:(Rows.topCommonAxiomsRow.shortTexts.isNone)=Au:=by kernel_rfl
theorem closed24:(Tryz.pinned.checked.prog.stopsHeard)=Au:=by kernel_rfl
theorem closed25:(Tryz.pinned.checked.prog.mayEnter)=Au:=by kernel_rfl
theorem closed26:((Rows.topCommonAxiomsRow.lifted==Tryz.pinned.checked.prog.liftsFinal))=Au:=by kernel_rfl
theorem closed27:((Tryz.pinned.checked.prog.make==J Rows.topCommonAxiomsRow.make))=Au:=by kernel_rfl
theorem closed28:((Rows.topCommonAxiomsRow.kinds==(if Rows.topCommonAxiomsRow.domain.isEmpty then [] else Tryz.f4.params.toList.map fun t=>match Tryz.pinned.checked.prog.underlying t with | some (.int k)=>J k | _=>Z)))=Au:=by kernel_rfl
theorem closed29:((Rows.topCommonAxiomsRow.pinned==Rows.topCommonAxiomsRow.pinnedBy))=Au:=by kernel_rfl
theorem closed30:((Rows.topCommonAxiomsRow.veiled==(Tryz.f4.params.toList++Rows.topCommonAxiomsSpec.plain.varTypes Tryz.pinned.checked.prog++Tryz.f4.resultTypes.toList).any (Tryz.pinned.checked.prog.veiledRec ·)))=Au:=by kernel_rfl
theorem closed31:(Rows.topCommonAxiomsRow.veiledFits Tryz.pinned.checked.prog Tryz.f4.params.toList (Tryz.f4.params.toList++Rows.topCommonAxiomsSpec.plain.varTypes Tryz.pinned.checked.prog++Tryz.f4.resultTypes.toList))=Au:=by kernel_rfl
theorem and_both{a b:Bool}(ha:a=Au)(hb:b=Au):(a&&b)=Au:=by rw[ha,hb];rfl
theorem closed:joinedFacts Tryz.pinned.checked.prog 4 Tryz.f4 Rows.topCommonAxiomsSpec Rows.topCommonAxiomsRow=Au:=by
  unfold joinedFacts;exact(and_both (and_both (and_both (and_both (and_both (and_both (and_both (and_both (and_both (and_both (and_both (and_both (and_both (and_both (and_both (and_both (and_both (and_both (and_both (and_both (and_both (and_both (and_both (and_both (and_both (and_both (and_both (and_both (and_both (and_both (and_both closed0 closed1) closed2) closed3) closed4) closed5) closed6) closed7) closed8) closed9) closed10) closed11) closed12) closed13) closed14) closed15) closed16) closed17) closed18) closed19) closed20) closed21) closed22) closed23) closed24) closed25) closed26) closed27) closed28) closed29) closed30) closed31)
theorem holds:Rows.TopCommonAxiomsSaid:=
  OpenClaim.holds_of_wide 4 Tryz.f4 rfl rfl rfl rfl rfl rfl rfl ⟨rfl,rfl,rfl,rfl,rfl⟩ rfl rfl rfl rfl rfl (by kernel_rfl) func4 closed
    (Lx (by kernel_rfl)) (by unfold Func.isWrapper;first | (rw[Lj (by decide +kernel)];kernel_rfl) | (rw[Lg (by decide +kernel)];exact⟨rfl,rfl⟩))
    (fun os cz H enc _=>lifted os cz H enc)
#print axioms holds
end Go.Proofs.YtkmbdfdaffmhjaaGreat
