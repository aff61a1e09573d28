/- TopTimeAxioms: operators of time are unfolded by one round, and processes forget nothing: what a process knows about the next point it knows at the next point: the law answers true for every input, and its arguments read behind the call as before. No further condition. -/
import Derived.Test.YtkmbdfdaffmhjaaGreatTm
open Go.Proofs.Tryz
open Go.Value renaming int->O,slice->I,agg->Ai
open Go.IntKind renaming i64->U
open Option renaming none->Z,some->J
open Go.Proofs.Tryz renaming prog->Al
open Go renaming Value->Ar
open Bool renaming true->Au,false->Aw
namespace Go.Proofs.YtkmbdfdaffmhjaaGreat
set_option maxRecDepth 100000
open Go.ChangeShapes Go.WideShapes Go.ChangeAt Go.RowKit
theorem lifted(os : Os)(cz : os.Started)(H : Type)(enc : TypeId × Ar → H) :
    ReturnsInHanded {} Tryz.checked os 5 .any (fun w args=>Rows.topTimeAxiomsSpec.pre enc Al Tryz.f5 [] Aw w args/\sizedMet enc Al Tryz.f5 (OpenSpec.ofChange Rows.topTimeAxiomsSpec) Aw w args)
      (Rows.topTimeAxiomsSpec.post enc Al Tryz.f5 Aw Au Aw Aw):=by
  suffices h : ReturnsInHanded {} Tryz.checked os 5 .any (fun w args => (Rows.topTimeAxiomsSpec.pre enc Al Tryz.f5 [] Aw w args ∧ True) ∧ sizedMet enc Al Tryz.f5 (OpenSpec.ofChange Rows.topTimeAxiomsSpec) Aw w args)
      (Rows.topTimeAxiomsSpec.post enc Al Tryz.f5 Aw Au Aw Aw) by simpa only[and_true] using h
  refine ud (C:=Tryz.checked) (X:=fun _ _=>True) cz (fun _ _ _ _ h=>h) lawOwn (by kernel_rfl) func5
    (ChangeSpec.witness_shaped (enc:=enc) (C:=Tryz.checked) (os:=os) (X:=fun _ _=>True) Aw (World.doorLaid Al 400 os)
      #[Ai #[O U 0,O U 0,O U 0,I Z 0 0,O U 0,I Z 0 0,O U 0],Ai #[O U 0,O U 0,O U 0,O U 0,O U 0,I Z 0 0,O U 0,O U 0,O U 0,O U 0,O U 0,I Z 0 0],.int .u8 0] 8 rfl (World.shaped_of_RefB (by kernel_rfl) (by kernel_rfl)) (by kernel_rfl) (by kernel_rfl) (by kernel_rfl) trivial)
    (tb:=4) rfl underlying4 ue ?_ rfl ?_ ?_
  . intro t ht
    have hm:t∈[29,54,5]:=ht;simp only[List.mem_cons,List.not_mem_nil,or_false] at hm;rcases hm with rfl | rfl | rfl
    . exact⟨by kernel_rfl,Lx (by kernel_rfl)⟩
    . exact⟨by kernel_rfl,Lx (by kernel_rfl)⟩
    exact⟨by kernel_rfl,Lx (by kernel_rfl)⟩
  . intro ds hd
    match ds,hd with
    | [_,_,_],_=>rfl
  intro W ab args ds ps dz hA bL ac hL;have nT:DataW.TrodAll enc Al W 0 (fun _=>Au) Au [29,54,5] args.toList ds ps:=hA;obtain⟨v0,v1,v2,d0,d1,d2,p0,p1,p2,rfl,rfl,rfl,h0,h1,h2⟩:=trodAll_three nT;have ic:(DataW.weightsEach Al [29,54,5] [d0,d1,d2]).all (·<=reachBytes)=Au:=bL;simp only[DataW.weightsEach,List.all_append,Bool.and_eq_true] at ic;obtain⟨p,A,kc,SV,ks,rfl,L8,Ek,Ee⟩:=jz (dz 0 29 v0 rfl rfl) h0 ic.1;obtain⟨f,g,df,dg,AF,AG,kf,kg,rfl,MX,WK⟩:=open_twoFm (dz 1 54 v1 rfl rfl) h1 ic.2.1;obtain⟨i2,rfl,hu1,_,UL⟩:=open_int underlying5 (dz 2 5 v2 rfl rfl) h2;obtain⟨n2,rfl,sZ⟩:=lit_nat (by decide) UL;have FU:=u8_lt sZ;exact QX p L8 A SV AF AG kc ks kf kg df dg f g n2 FU W Ek Ee MX WK
theorem closed0:(Rows.topTimeAxiomsRow.wf (OpenSpec.ofChange Rows.topTimeAxiomsSpec))=Au:=by kernel_rfl
theorem closed1:(laidOutB Tryz.pinned.checked.prog)=Au:=by kernel_rfl
theorem closed2:(mapsRowed Tryz.pinned.checked.prog)=Au:=by kernel_rfl
theorem closed3:(Tryz.f5.params.all (Tryz.pinned.checked.prog.readableRec ·))=Au:=by kernel_rfl
theorem closed4:(namedTie Tryz.pinned.checked.prog Rows.topTimeAxiomsRow.named Rows.topTimeAxiomsSpec.vars)=Au:=by kernel_rfl
theorem closed5:((Rows.topTimeAxiomsRow.stops==[]))=Au:=by kernel_rfl
theorem closed6:((Tryz.pinned.checked.prog.stops==[]))=Au:=by kernel_rfl
theorem closed7:((Rows.topTimeAxiomsRow.knobs==[]))=Au:=by kernel_rfl
theorem closed8:((Tryz.pinned.checked.prog.stopKnobs==[]))=Au:=by kernel_rfl
theorem closed9:((Rows.topTimeAxiomsRow.inPlace==Tryz.pinned.checked.prog.inPlace 5))=Au:=by kernel_rfl
theorem closed10:((Rows.topTimeAxiomsRow.unfollowed==Tryz.pinned.checked.prog.unfollowed 5))=Au:=by kernel_rfl
theorem closed11:((Rows.topTimeAxiomsRow.recurses==Tryz.pinned.checked.prog.recurses 5))=Au:=by kernel_rfl
theorem closed12:((Rows.topTimeAxiomsRow.named==Tryz.pinned.checked.prog.varsNamed 5))=Au:=by kernel_rfl
theorem closed13:((Rows.topTimeAxiomsRow.maps==(Tryz.f5.params.toList++Rows.topTimeAxiomsSpec.plain.varTypes Tryz.pinned.checked.prog).any (Tryz.pinned.checked.prog.mapsRec ·)))=Au:=by kernel_rfl
theorem closed14:((Rows.topTimeAxiomsRow.ifaces==(Tryz.f5.params.toList++Rows.topTimeAxiomsSpec.plain.varTypes Tryz.pinned.checked.prog).any (Tryz.pinned.checked.prog.ifacesRec ·)))=Au:=by kernel_rfl
theorem closed15:((Rows.topTimeAxiomsRow.mapsOut==Tryz.pinned.checked.prog.mapsAmong Tryz.f5.resultTypes.toList))=Au:=by kernel_rfl
theorem closed16:((Rows.topTimeAxiomsRow.loops==(Tryz.f5.params.toList++Rows.topTimeAxiomsSpec.plain.varTypes Tryz.pinned.checked.prog).any (Tryz.pinned.checked.prog.loopsFrom ·)))=Au:=by kernel_rfl
theorem closed17:((Rows.topTimeAxiomsRow.wideKeys==(Tryz.f5.params.toList++Rows.topTimeAxiomsSpec.plain.varTypes Tryz.pinned.checked.prog++Tryz.f5.resultTypes.toList).any (Tryz.pinned.checked.prog.wideKeysFrom ·)))=Au:=by kernel_rfl
theorem closed18:(Rows.topTimeAxiomsSpec.vars.all (Tryz.pinned.checked.prog.varReadable ·))=Au:=by kernel_rfl
theorem closed19:(Tryz.f5.resultTypes.all (fun t=>Tryz.pinned.checked.prog.readableRec t&&decide (t<Tryz.pinned.checked.prog.types.size)))=Au:=by kernel_rfl
theorem closed20:((Rows.topTimeAxiomsRow.ifacesOut==Tryz.f5.resultTypes.toList.any (Tryz.pinned.checked.prog.ifacesRec ·)))=Au:=by kernel_rfl
theorem closed21:((Rows.topTimeAxiomsRow.loopsOut==Tryz.f5.resultTypes.toList.any (Tryz.pinned.checked.prog.loopsFrom ·)))=Au:=by kernel_rfl
theorem closed22:((Rows.topTimeAxiomsRow.plainKeys==Tryz.pinned.checked.prog.plainKeys))=Au:=by kernel_rfl
theorem closed23:(Rows.topTimeAxiomsRow.shortTexts.isNone)=Au:=by kernel_rfl
theorem closed24:(Tryz.pinned.checked.prog.stopsHeard)=Au:=by kernel_rfl
theorem closed25:(Tryz.pinned.checked.prog.mayEnter)=Au:=by kernel_rfl
theorem closed26:((Rows.topTimeAxiomsRow.lifted==Tryz.pinned.checked.prog.liftsFinal))=Au:=by kernel_rfl
theorem closed27:((Tryz.pinned.checked.prog.make==J Rows.topTimeAxiomsRow.make))=Au:=by kernel_rfl
theorem closed28:((Rows.topTimeAxiomsRow.kinds==(if Rows.topTimeAxiomsRow.domain.isEmpty then [] else Tryz.f5.params.toList.map fun t=>match Tryz.pinned.checked.prog.underlying t with | some (.int k)=>J k | _=>Z)))=Au:=by kernel_rfl
theorem closed29:((Rows.topTimeAxiomsRow.pinned==Rows.topTimeAxiomsRow.pinnedBy))=Au:=by kernel_rfl
theorem closed30:((Rows.topTimeAxiomsRow.veiled==(Tryz.f5.params.toList++Rows.topTimeAxiomsSpec.plain.varTypes Tryz.pinned.checked.prog++Tryz.f5.resultTypes.toList).any (Tryz.pinned.checked.prog.veiledRec ·)))=Au:=by kernel_rfl
theorem closed31:(Rows.topTimeAxiomsRow.veiledFits Tryz.pinned.checked.prog Tryz.f5.params.toList (Tryz.f5.params.toList++Rows.topTimeAxiomsSpec.plain.varTypes Tryz.pinned.checked.prog++Tryz.f5.resultTypes.toList))=Au:=by kernel_rfl
theorem and_both{a b:Bool}(ha:a=Au)(hb:b=Au):(a&&b)=Au:=by rw[ha,hb];rfl
theorem closed:joinedFacts Tryz.pinned.checked.prog 5 Tryz.f5 Rows.topTimeAxiomsSpec Rows.topTimeAxiomsRow=Au:=by
  unfold joinedFacts;exact(and_both (and_both (and_both (and_both (and_both (and_both (and_both (and_both (and_both (and_both (and_both (and_both (and_both (and_both (and_both (and_both (and_both (and_both (and_both (and_both (and_both (and_both (and_both (and_both (and_both (and_both (and_both (and_both (and_both (and_both (and_both closed0 closed1) closed2) closed3) closed4) closed5) closed6) closed7) closed8) closed9) closed10) closed11) closed12) closed13) closed14) closed15) closed16) closed17) closed18) closed19) closed20) closed21) closed22) closed23) closed24) closed25) closed26) closed27) closed28) closed29) closed30) closed31)
theorem holds:Rows.TopTimeAxiomsSaid:=
  OpenClaim.holds_of_wide 5 Tryz.f5 rfl rfl rfl rfl rfl rfl rfl ⟨rfl,rfl,rfl,rfl,rfl⟩ rfl rfl rfl rfl rfl (by kernel_rfl) func5 closed
    (Lx (by kernel_rfl)) (by unfold Func.isWrapper;first | (rw[Lj (by decide +kernel)];kernel_rfl) | (rw[Lg (by decide +kernel)];exact⟨rfl,rfl⟩))
    (fun os cz H enc _=>lifted os cz H enc)
#print axioms holds
end Go.Proofs.YtkmbdfdaffmhjaaGreat
