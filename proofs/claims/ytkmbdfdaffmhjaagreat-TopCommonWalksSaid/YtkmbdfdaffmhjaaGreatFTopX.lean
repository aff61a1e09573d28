/- TopCommonWalks: a formula is common knowledge of a group with processes exactly where no walk refutes it, and walks that are found are accepted: the law answers true for every input, and its arguments read behind the call as before. No further condition. -/
import Derived.Test.YtkmbdfdaffmhjaaGreatUj
open Go.Proofs.Tryz
open Go.Value renaming int->O,slice->I,agg->Ai
open Go.IntKind renaming i64->U
open Option renaming none->Z,some->J
open Go.Proofs.Tryz renaming prog->Al
open Go renaming Value->Au
open Bool renaming true->Av,false->Aw
namespace Go.Proofs.YtkmbdfdaffmhjaaGreat
set_option maxRecDepth 100000
open Go.ChangeShapes Go.WideShapes Go.ChangeAt Go.RowKit
theorem lifted(os : Os)(fI : os.Started)(H : Type)(enc : TypeId × Au → H) :
    ReturnsInHanded {} Tryz.checked os 6 .any (fun w args=>Rows.topCommonWalksSpec.pre enc Al Tryz.f6 [] Aw w args/\sizedMet enc Al Tryz.f6 (OpenSpec.ofChange Rows.topCommonWalksSpec) Aw w args)
      (Rows.topCommonWalksSpec.post enc Al Tryz.f6 Aw Av Aw Aw):=by
  suffices h : ReturnsInHanded {} Tryz.checked os 6 .any (fun w args => (Rows.topCommonWalksSpec.pre enc Al Tryz.f6 [] Aw w args ∧ True) ∧ sizedMet enc Al Tryz.f6 (OpenSpec.ofChange Rows.topCommonWalksSpec) Aw w args)
      (Rows.topCommonWalksSpec.post enc Al Tryz.f6 Aw Av Aw Aw) by simpa only[and_true] using h
  refine law_lifted (C:=Tryz.checked) (X:=fun _ _=>True) fI (fun _ _ _ _ h=>h) lawOwn (by kernel_rfl) func6
    (ChangeSpec.witness_shaped (enc:=enc) (C:=Tryz.checked) (os:=os) (X:=fun _ _=>True) Aw (World.doorLaid Al 400 os)
      #[Ai #[O U 0,O U 0,O U 0,I Z 0 0,O U 0,I Z 0 0,O U 0],Ai #[O U 0,O U 0,O U 0,O U 0,O U 0,I Z 0 0],.int .u8 0] 8 rfl (World.shaped_of_RefB (by kernel_rfl) (by kernel_rfl)) (by kernel_rfl) (by kernel_rfl) (by kernel_rfl) trivial)
    (tb:=4) rfl underlying4 lawLaidOut ?_ rfl ?_ ?_
  . intro t ht
    have hm:t∈[29,32,5]:=ht;simp only[List.mem_cons,List.not_mem_nil,or_false] at hm;rcases hm with rfl | rfl | rfl
    . exact⟨by kernel_rfl,LA (by kernel_rfl)⟩
    . exact⟨by kernel_rfl,LA (by kernel_rfl)⟩
    exact⟨by kernel_rfl,LA (by kernel_rfl)⟩
  . intro ds hd
    match ds,hd with
    | [_,_,_],_=>rfl
  intro W base args ds ps nt hA aP hlt hL;have rc:DataW.TrodAll enc Al W 0 (fun _=>Av) Av [29,32,5] args.toList ds ps:=hA;obtain⟨v0,v1,v2,d0,d1,d2,p0,p1,p2,rfl,rfl,rfl,h0,h1,h2⟩:=trodAll_three rc;have tF:(DataW.weightsEach Al [29,32,5] [d0,d1,d2]).all (·<=reachBytes)=Av:=aP;simp only[DataW.weightsEach,List.all_append,Bool.and_eq_true] at tF;obtain⟨p,A,kc,SV,ks,rfl,hlp,Ud,T6⟩:=X8 (nt 0 29 v0 rfl rfl) h0 tF.1;obtain⟨f,dd,AF,kf,rfl,hlf,hFA⟩:=Zt (nt 1 32 v1 rfl rfl) h1 tF.2.1;obtain⟨i2,rfl,hu1,_,hu2⟩:=open_int underlying5 (nt 2 5 v2 rfl rfl) h2;obtain⟨n2,rfl,BH⟩:=lit_nat (by decide) hu2;have VP:=u8_lt BH;exact Qm p hlp A SV AF kc ks kf dd f n2 VP W Ud T6 hFA
theorem closed0:(Rows.topCommonWalksRow.wf (OpenSpec.ofChange Rows.topCommonWalksSpec))=Av:=by kernel_rfl
theorem closed1:(laidOutB Tryz.pinned.checked.prog)=Av:=by kernel_rfl
theorem closed2:(mapsRowed Tryz.pinned.checked.prog)=Av:=by kernel_rfl
theorem closed3:(Tryz.f6.params.all (Tryz.pinned.checked.prog.readableRec ·))=Av:=by kernel_rfl
theorem closed4:(namedTie Tryz.pinned.checked.prog Rows.topCommonWalksRow.named Rows.topCommonWalksSpec.vars)=Av:=by kernel_rfl
theorem closed5:((Rows.topCommonWalksRow.stops==[]))=Av:=by kernel_rfl
theorem closed6:((Tryz.pinned.checked.prog.stops==[]))=Av:=by kernel_rfl
theorem closed7:((Rows.topCommonWalksRow.knobs==[]))=Av:=by kernel_rfl
theorem closed8:((Tryz.pinned.checked.prog.stopKnobs==[]))=Av:=by kernel_rfl
theorem closed9:((Rows.topCommonWalksRow.inPlace==Tryz.pinned.checked.prog.inPlace 6))=Av:=by kernel_rfl
theorem closed10:((Rows.topCommonWalksRow.unfollowed==Tryz.pinned.checked.prog.unfollowed 6))=Av:=by kernel_rfl
theorem closed11:((Rows.topCommonWalksRow.recurses==Tryz.pinned.checked.prog.recurses 6))=Av:=by kernel_rfl
theorem closed12:((Rows.topCommonWalksRow.named==Tryz.pinned.checked.prog.varsNamed 6))=Av:=by kernel_rfl
theorem closed13:((Rows.topCommonWalksRow.maps==(Tryz.f6.params.toList++Rows.topCommonWalksSpec.plain.varTypes Tryz.pinned.checked.prog).any (Tryz.pinned.checked.prog.mapsRec ·)))=Av:=by kernel_rfl
theorem closed14:((Rows.topCommonWalksRow.ifaces==(Tryz.f6.params.toList++Rows.topCommonWalksSpec.plain.varTypes Tryz.pinned.checked.prog).any (Tryz.pinned.checked.prog.ifacesRec ·)))=Av:=by kernel_rfl
theorem closed15:((Rows.topCommonWalksRow.mapsOut==Tryz.pinned.checked.prog.mapsAmong Tryz.f6.resultTypes.toList))=Av:=by kernel_rfl
theorem closed16:((Rows.topCommonWalksRow.loops==(Tryz.f6.params.toList++Rows.topCommonWalksSpec.plain.varTypes Tryz.pinned.checked.prog).any (Tryz.pinned.checked.prog.loopsFrom ·)))=Av:=by kernel_rfl
theorem closed17:((Rows.topCommonWalksRow.wideKeys==(Tryz.f6.params.toList++Rows.topCommonWalksSpec.plain.varTypes Tryz.pinned.checked.prog++Tryz.f6.resultTypes.toList).any (Tryz.pinned.checked.prog.wideKeysFrom ·)))=Av:=by kernel_rfl
theorem closed18:(Rows.topCommonWalksSpec.vars.all (Tryz.pinned.checked.prog.varReadable ·))=Av:=by kernel_rfl
theorem closed19:(Tryz.f6.resultTypes.all (fun t=>Tryz.pinned.checked.prog.readableRec t&&decide (t<Tryz.pinned.checked.prog.types.size)))=Av:=by kernel_rfl
theorem closed20:((Rows.topCommonWalksRow.ifacesOut==Tryz.f6.resultTypes.toList.any (Tryz.pinned.checked.prog.ifacesRec ·)))=Av:=by kernel_rfl
theorem closed21:((Rows.topCommonWalksRow.loopsOut==Tryz.f6.resultTypes.toList.any (Tryz.pinned.checked.prog.loopsFrom ·)))=Av:=by kernel_rfl
theorem closed22:((Rows.topCommonWalksRow.plainKeys==Tryz.pinned.checked.prog.plainKeys))=Av:=by kernel_rfl
theorem closed23:(Rows.topCommonWalksRow.shortTexts.isNone)=Av:=by kernel_rfl
theorem closed24:(Tryz.pinned.checked.prog.stopsHeard)=Av:=by kernel_rfl
theorem closed25:(Tryz.pinned.checked.prog.mayEnter)=Av:=by kernel_rfl
theorem closed26:((Rows.topCommonWalksRow.lifted==Tryz.pinned.checked.prog.liftsFinal))=Av:=by kernel_rfl
theorem closed27:((Tryz.pinned.checked.prog.make==J Rows.topCommonWalksRow.make))=Av:=by kernel_rfl
theorem closed28:((Rows.topCommonWalksRow.kinds==(if Rows.topCommonWalksRow.domain.isEmpty then [] else Tryz.f6.params.toList.map fun t=>match Tryz.pinned.checked.prog.underlying t with | some (.int k)=>J k | _=>Z)))=Av:=by kernel_rfl
theorem closed29:((Rows.topCommonWalksRow.pinned==Rows.topCommonWalksRow.pinnedBy))=Av:=by kernel_rfl
theorem closed30:((Rows.topCommonWalksRow.veiled==(Tryz.f6.params.toList++Rows.topCommonWalksSpec.plain.varTypes Tryz.pinned.checked.prog++Tryz.f6.resultTypes.toList).any (Tryz.pinned.checked.prog.veiledRec ·)))=Av:=by kernel_rfl
theorem closed31:(Rows.topCommonWalksRow.veiledFits Tryz.pinned.checked.prog Tryz.f6.params.toList (Tryz.f6.params.toList++Rows.topCommonWalksSpec.plain.varTypes Tryz.pinned.checked.prog++Tryz.f6.resultTypes.toList))=Av:=by kernel_rfl
theorem zT{a b:Bool}(ha:a=Av)(hb:b=Av):(a&&b)=Av:=by rw[ha,hb];rfl
theorem closed:joinedFacts Tryz.pinned.checked.prog 6 Tryz.f6 Rows.topCommonWalksSpec Rows.topCommonWalksRow=Av:=by
  unfold joinedFacts;exact(zT (zT (zT (zT (zT (zT (zT (zT (zT (zT (zT (zT (zT (zT (zT (zT (zT (zT (zT (zT (zT (zT (zT (zT (zT (zT (zT (zT (zT (zT (zT closed0 closed1) closed2) closed3) closed4) closed5) closed6) closed7) closed8) closed9) closed10) closed11) closed12) closed13) closed14) closed15) closed16) closed17) closed18) closed19) closed20) closed21) closed22) closed23) closed24) closed25) closed26) closed27) closed28) closed29) closed30) closed31)
theorem holds:Rows.TopCommonWalksSaid:=
  OpenClaim.holds_of_wide 6 Tryz.f6 rfl rfl rfl rfl rfl rfl rfl ⟨rfl,rfl,rfl,rfl,rfl⟩ rfl rfl rfl rfl rfl (by kernel_rfl) func6 closed
    (LA (by kernel_rfl)) (by unfold Func.isWrapper;first | (rw[Lj (by decide +kernel)];kernel_rfl) | (rw[Lg (by decide +kernel)];exact⟨rfl,rfl⟩))
    (fun os fI H enc _=>lifted os fI H enc)
#print axioms holds
end Go.Proofs.YtkmbdfdaffmhjaaGreat
