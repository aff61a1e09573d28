/- Parts FromR BdA Silence Rep8 PlayA Vecs PlayC PlayB Execs NumA NumB CountA WordsB CatL Copy CountB BuildA BuildB PutA. -/
import Derived.Test.YtohjmddnennajaaGreatDoorProg
import Derived.Test.YtohjmddnennajaaGreatDoorPc
import Derived.Deep.DeepCutAuto
import Derived.Laws.Pointers
import Derived.Test.YtohjmddnennajaaGreatDoorPa
import Derived.Laws.CopyOwn
import Derived.Deep.RegionLaw
import Derived.Deep.QuietTactic
import Derived.BigQuiet
import Derived.StillTactics
import Derived.IntWalk
import Derived.Maps.RangeWalk
import Derived.Test.YtohjmddnennajaaGreatDoorPb
import Derived.Deep.RegionHeld3
import Derived.Deep.LoopGhost
import Derived.Laws.EntriesVeiled
import Derived.StillTailTactics

namespace Go.Proofs.YtohjmddnennajaaGreatDoor
abbrev L6:=@Option.getD_some
abbrev NP:=@Option.isSome_some
abbrev PH:=@Option.getD_none
abbrev Px:=@Option.isSome_none
abbrev Rz:=@Go.wpList_copy_splice
abbrev Nt:=@List.getElem?_replicate
abbrev Ro:=@List.getElem?_toArray
abbrev Sf:=@Go.IntWalk.i64_in
abbrev RU:=@Go.step_copy_splice
abbrev LB:=@List.length_replicate
abbrev Rg:=@List.eq_of_mem_replicate
abbrev N6:=@List.ext_getElem
abbrev Rj:=@Nat.le_mul_of_pos_right
set_option maxRecDepth 100000
set_option maxHeartbeats 4000000
section
open Go.RowKit
attribute [local go_sem] Oper.semAt_some
theorem grow_grow{W w w':Ba}{r r':Option Nat}(h:W.grownBy w r)(hg:w.grownBy w' r')(hr:∀k,r'=some k->k<W.heap.size->r=some k):W.grownBy w' r:=
 ⟨hg.os.trans h.os,hg.tape.trans h.tape,hg.output.trans h.output,Lz h.size hg.size,fun k hk hn=>(hg.block k (LC hk h.size) (fun e=>hn (hr k e.symm hk).symm)).trans (h.block k hk hn)⟩
theorem grow_below{W w w':Ba}{r:Option Nat}(h:W.grownBy w r)(hb:Below w.heap.size w w'):W.grownBy w' r:=
 ⟨hb.os.trans h.os,hb.tape.trans h.tape,hb.output.trans h.output,Lz h.size hb.size,fun k hk hn=>(hb.block k (LC hk h.size)).trans (h.block k hk hn)⟩
def kT(a:Ad)(SV:Bb)(ks k:Nat):Prop:=∀(s:Int) (w:Ba),(k=0\/(0<=s/\s<a.sts.length))->(zJ a k s).length<=5000->SAt w w.heap.size SV a.sts ->
 Calls Tryz.prog 84 #[.agg #[.int .i64 a.n,.slice SV a.sts.length ks],.int .i64 s,.int .i64 k] w fun e w'=>∃v,e=.returned v/\OwnX cWd (fun b=>w.heap.size<=b) w' w.heap.size v (zJ a k s)/\Below w.heap.size w w'
theorem fromR_zero(a:Ad)(SV:Bb)(ks:Nat):kT a SV ks 0:=by
 intro s w _ _ _;go_enter Tryz.func84,Tryz.ntmps84;go_wp2_with fail;obtain⟨w1,hw1,d0,d1,hs1,hBw⟩:=yB w #[.int .i64 a.n,.slice SV a.sts.length ks] #[.slice none 0 0] 27 53;rw[hw1];go_ret;refine⟨_,rfl,⟨[[.slice none 0 0]],rfl,?_,?_⟩,hBw⟩
 . exact OwnR.of_block (K:=kWd) (n:=1) d1 (by omega) rfl (by unfold maxLen;omega)
 . intro i h1 h2
   obtain rfl:i=0:=by simp at h1;omega
   exact⟨none,0,rfl,RAtS.nil _ _ _,Le _⟩
theorem fromR_succ(a:Ad)(SV:Bb)(ks k:Nat)(hk6:k<=6)(hz:zI a a.sts=0)(hf:FewA a)(ih:kT a SV ks k):kT a SV ks (k+1):=by
 intro s w hs0 hlen hS;have hs:0<=s/\s<a.sts.length:=hs0.resolve_left (by omega);obtain⟨S,rfl⟩:=Lr hs.1;have hSl:S<a.sts.length:=by omega
 have HIH:=zH ih;have HZ:=zH (@xT a hz);have hm40:=hf.each (Ld hSl);have HWE:=zH (wt a k hSl);have HLN:=zH hlen;have HML:=zH (fun (m:Mv) (hm:m∈a.sts[S])=>(NA.2 ⟨_,Ld hSl,hm⟩:m∈a.mvs));have HS:=zH hS;obtain⟨bs,os,A',cs',hSV,hbs,s0,hMA⟩:=hS.at_ S hSl;subst hSV;have HMA:=zH hMA;obtain⟨M,hM⟩:=Ki (a.sts[S]);rw[hM] at s0 HMA HWE HML hm40;have e0:(((k+1:Nat):Int)==0)=false:=by simp;omega
 have hw1:IntKind.i64.wrap (((k+1:Nat):Int)-1)=(k:Int):=by rw[Lp];omega
 have hs1:(S:Int)<(a.sts.length:Int):=by omega
 have hs2:(0:Int)<=(S:Int):=by omega
 obtain⟨K,hK⟩:∃K:Int,((k+1:Nat):Int)=K:=⟨_,rfl⟩;rw[hK] at e0 hw1 ⊢;clear hS hMA hM hz hf ih hs hs0 hlen hK;go_enter Tryz.func84,Tryz.ntmps84;go_wp2_with fail;obtain⟨w1,hW1,d0,hsz1,hB1⟩:=zn w #[.int .i64 a.n,.slice (some ⟨bs,os,none⟩) a.sts.length ks] 27;rw[hW1];clear hW1;have HD0:=zH d0;have HB1:=zH hB1;clear d0 hB1 e0
 go_loopw [7,8] (fun o i wr=>∃j:Nat,j<=M.length/\i=.int .i64 (j:Int)/\Hid (OwnX cWd (fun b=>w.heap.size<b) wr (w.heap.size+1) o (yw a k M j))/\Hid (Below w1.heap.size w1 wr)) (fun _ i _=>M.length-(intOf i).toNat)
 case atStart=>exact⟨0,by omega,rfl,by rw[vN];exact OwnX.nil _ _ _ _,Lo _ _⟩
 case round=>
  obtain⟨j,hj,rfl,HO,HBL⟩:=hrel;have D0:=Lb HBL.out (by omega) HD0.out;have q1:=zh D0 1 rfl;have hbl:=HBL.out.size;have s1:wr.cell? ⟨bs,os+S,none⟩=some (.slice A' M.length cs'):=((HB1.out.trans (HBL.out.mono (by omega))).cell (p:=⟨bs,os+S,none⟩) hbs).trans s0
  by_cases hjl:j<M.length
  case neg=>
   obtain rfl:j=M.length:=by omega
   go_wp2_with fail;go_ret;refine⟨_,rfl,?_,HB1.out.trans (HBL.out.mono (by omega))⟩;rw[<-HWE.out];exact(HO.out.mono qu fun b _ hb=>by omega).low (by omega)
  case pos=>
   obtain⟨bm,om,e1,hbm,m0,m1,m2,m3,m4,m5,m6,m7⟩:=(HMA.out.keep (HB1.out.trans (HBL.out.mono (by omega)))).row j hjl;subst e1;have hj0:(0:Int)<=(j:Int):=by omega
   have hj1:(j:Int)<(M.length:Int):=by omega
   have q0:=zh D0 0 rfl;have hgw:w.heap.size<wr.heap.size:=by omega
   have hmm:=HML.out M[j] (Ld hjl);obtain⟨z1,z2,z3,z4⟩:=HZ.out _ hmm;have HST:=zH (qK a k M hjl);have hlen2:=ws a k M (j+1);rw[qK a k M hjl,Lv,LR] at hlen2;obtain⟨m,hme⟩:=Ki (M[j]);rw[hme] at m0 m1 m2 m3 m4 m5 m6 m7 hmm z1 z2 z3 z4 HST hlen2
   have hl5:(yw a k M j).length+(zJ a k m.to).length<=5000:=by
    have:=HLN.out;rw[<-HWE.out] at this;omega
   have HC:=zH (fun (W:Ba) (hW:Below wr.heap.size wr W)=>HIH.out m.to W (.inr ⟨z3,z4⟩) (by omega) (((HS.out.keep (HB1.out.trans ((HBL.out.trans (hW.mono hbl)).mono (by omega)))).more (by have:=hW.size;omega))));clear hme hlen2 z1 z2 z3 z4 hmm HML HZ HLN HMA HWE;go_wp2_with fail;clear m0 m1 m2 m3 m4 m5 m6 m7 q0 q1 s1;obtain⟨W1,hW1,g0,hsz2,hB2⟩:=zn wr m.cells 94;unfold Mv.cells at hW1;rw[hW1];refine(HC.out W1 hB2).mono ?_;rintro e w3 ⟨rv,rfl,ho3,hb3⟩;obtain⟨AR,cR,rfl,hcR,hmR,hWR⟩:=Z3 ho3;have G0:=Lb hb3 (by omega) g0;have HB3:Hid (Below wr.heap.size wr w3):=hB2.trans (hb3.mono (by omega));have HO3:=zH (HO.out.below qu HB3.out (Le _));have hlo:=HO.out.lt;have HR3:=zH (ho3.mono (S':=fun b=>wr.heap.size<b) qu fun b _ hb=>by omega);have HG0:=zH G0;have hsz3:=hb3.size;obtain⟨R,hR⟩:=Ki (zJ a k m.to);have HRK:=zH (xy a k m.to);rw[hR] at hl5 HST HR3 HRK ⊢;clear hW1 ho3 hWR hb3 HC g0 G0 hR;go_wp2_with fail;obtain⟨U,rfl⟩:∃U,U=u7:=⟨_,rfl⟩;obtain⟨wo,rfl⟩:∃x,x=wr:=⟨_,rfl⟩
   go_loopw [7,11] (fun o i wx=>∃l:Nat,l<=R.length/\i=.int .i64 (l:Int)/\Hid (OwnX cWd (fun b=>w.heap.size<b) wx (w.heap.size+1) o (yw a k M j++(R.take l).map (m.r::·)))/\Hid (w3.grownBy wx (Value.ownBlock U))/\Hid (o.ownBlock=Value.ownBlock U\/∀b,o.ownBlock=some b->w3.heap.size<=b)) (fun _ i _=>R.length-(intOf i).toNat)
   case atStart=>exact⟨0,by omega,rfl,by rw[LS,Ns,Nf];exact HO3.out,RE _ _,.inl rfl⟩
   case round=>
    obtain⟨l,hl,rfl,HX,HG,HW⟩:=hrel;have HBX:Hid (Below w1.heap.size w1 wr):=(HBL.out.trans (HB3.out.mono hbl)).grown HG.out (by omega) (fun b hb=>by have:=(hlo b hb).1;omega)
    by_cases hll:l<R.length
    case neg=>
     obtain rfl:l=R.length:=by omega
     rw[LG,<-HST.out] at HX;clear HR3 HG HW;go_wp2_with fail
     go_roundw
     case rel=>exact⟨j+1,by omega,by go_num,HX,HBX⟩
     case measure=>simp[intOf];omega
    case pos=>
     have hRx:OwnX cWd (fun b=>wo.heap.size<b) wr W1.heap.size (.slice AR R.length cR) R:=HR3.out.kept qu HG.out (by
      cases hAR:(Value.slice AR R.length cR).ownBlock with
      | none=>exact .inl rfl
      | some b=>exact .inr fun e=>by have h1:=(HR3.out.lt b hAR).1;have h2:=(hlo b e.symm).2;omega) (fun b hb=>.inl fun h=>by have:=(hlo b hb).2;omega)
     obtain⟨A9,c9,e9,_,_,hWX⟩:=Z3 hRx
     cases e9
     obtain⟨br,or_,A2,c2,er,hbr,r0,hr2⟩:=hWX.at_ l hll;subst er;have G1:=(HG.out.block wo.heap.size (by omega) (fun e=>by have:=(hlo _ e.symm).2;omega)).trans HG0.out;have g0:=zh G1 0 rfl;have hx1:=zj G1;have HRX:=zH hr2;have HOX:=zH HX.out;have hll2:(yw a k M j++(R.take l).map (m.r::·)).length=(yw a k M j).length+l:=by simp;omega
     have hstl:Hid (yw a k M j++(R.take (l+1)).map (m.r::·)=(yw a k M j++(R.take l).map (m.r::·))++[m.r::R[l]]):=by
      show _=_;rw[Lu hll,LI,Na];rfl
     have hlk:=HRK.out _ (Ld hll);have hlk6:R[l].length<=6:=by omega
     clear hlk;have hl0:(0:Int)<=(l:Int):=by omega
     have hl1:(l:Int)<(R.length:Int):=by omega
     obtain⟨x,hx⟩:=Ki (R[l]);rw[hx] at r0 HRX hstl hlk6;have hraw:Hid (Raw (wr.alloc (.cells m.r.cells 92)) A2 x.length (yO x)):=Zr ((HRX.out.keep (zW wr _)).more (by simp));have g0:wr.cell? ⟨wo.heap.size,0,none⟩=some (.int .i64 m.r.n):=zh G1 0 rfl;have g1:wr.cell? ⟨wo.heap.size,1,none⟩=some (.int .i64 m.r.h0):=zh G1 1 rfl;have g2:wr.cell? ⟨wo.heap.size,2,none⟩=some (.int .i64 m.r.h1):=zh G1 2 rfl;have g3:wr.cell? ⟨wo.heap.size,3,none⟩=some (.int .i64 m.r.h2):=zh G1 3 rfl;have g4:wr.cell? ⟨wo.heap.size,4,none⟩=some (.int .i64 m.r.h3):=zh G1 4 rfl;have g5:wr.cell? ⟨wo.heap.size,5,none⟩=some (.int .i64 m.r.h4):=zh G1 5 rfl;have g6:wr.cell? ⟨wo.heap.size,6,none⟩=some (.int .i64 m.r.f):=zh G1 6 rfl;have hbr2:br<wr.heap.size:=hbr;have hw0:w.heap.size+1<=wr.heap.size:=by have:=HG.out.size;omega
     clear hx hRx hWX hr2 G1 HX;have HG0:=zH (zw wr (.cells m.r.cells 92));obtain⟨N,hN⟩:=Ki ((yw a k M j++(R.take l).map (m.r::·)).length);have hN5:N<=5000:=by omega
     have HN:=zH hN;clear hN hll2
     go_wp2_with (at_builtin;(first
      | ((refine XU XA rfl (.tmp 50) (.tmp 54) rfl wr.heap.size (.slice (some ⟨wr.heap.size, 0, none⟩) 1 1) 1 m.r.cells.toList rfl (OwnR.of_block HG0.out (Nat.le_refl _) rfl (by unfold maxLen; omega)) A2 x.length c2 (yO x) rfl (xS _) hraw.out (vx _) (by omega) (by simp) ?_)
         intro v1 w5 hr1 hg1 _;have hr1':OwnR kRd w5 wr.heap.size v1 (m.r::x).length (yO (m.r::x)):=by rw[LE,Nat.add_comm];exact hr1
         obtain⟨A5,c5,rfl,hc5,_,hl5⟩:=vu hr1';have hB5:Below wr.heap.size wr w5:=(zW wr _).grown hg1 (by simp) (fun b hb=>by cases hb;exact Le _);have hB6:=zH (hB5.alloc hB5.size (.cells #[.slice A5 (m.r::x).length c5] 53));have HG6:=zH (zw w5 (.cells #[.slice A5 (m.r::x).length c5] 53));have HL6:=zH (hl5.keep (KeepB.alloc _ w5 (.cells #[.slice A5 (m.r::x).length c5] 53)));have HO6:=zH (HOX.out.below qu hB6.out (Le _));have hsz6:wr.heap.size<=w5.heap.size:=hB5.size
         clear hr1 hr1' hg1 hl5 hB5)
      | (obtain ⟨css, hcl, hcr, hcs⟩ := HO6.out
         rw[HN.out] at hcr;refine xx J8 rfl (.tmp 49) (.tmp 56) rfl (w.heap.size+1) u7 N css.flatten rfl hcr w5.heap.size #[.slice A5 (m.r::x).length c5] rfl HG6.out rfl (by simp[Value.oneCell']) (by omega) (by simp;omega) _ rfl ?_;intro g' cap w7 hr7 hg7 hat7 hlt7;have hX:cWd.lies (fun b=>(fun b=>w.heap.size<b) b/\Value.ownBlock u7≠some b) _ [.slice A5 (m.r::x).length c5] (m.r::x):=⟨A5,c5,rfl,HL6.out.mono fun b _ hb=>⟨by have:wr.heap.size<=b:=hb;show w.heap.size<b;omega,fun e=>by have:=(HOX.out.lt b e).2;have:wr.heap.size<=b:=hb;omega⟩,hc5⟩;have hr7':=hr7;rw[<-HN.out] at hr7';have HO7:=zH (OwnX.app qu hcl hcs hX hr7' hg7 hat7);rw[<-hstl.out,HN.out] at HO7
         have HG7:Hid (w3.grownBy w7 U.ownBlock):=grow_grow (grow_below HG.out hB6.out) hg7 (fun b hb hlt=>by
          rcases HW.out with h | h
          . rw[<-h];exact hb
          . have:=h b hb;omega)
         have HW7:Hid ((Value.slice (some ⟨g',0,none⟩) (N+1) cap).ownBlock=U.ownBlock\/∀b,(Value.slice (some ⟨g',0,none⟩) (N+1) cap).ownBlock=some b->w3.heap.size<=b):=by
          have hs3:=HG.out.size;rcases hat7 with e | e
          . rcases HW.out with h | h
            . exact .inl (by rw[<-h,e];rfl)
            . exact .inr fun b hb=>h b (by rw[e];exact hb)
          . refine .inr fun b hb=>?_
            have h9:g'=b:=by simpa[Value.ownBlock] using hb
            simp at e;omega
         clear hr7 hr7' hg7 hat7 hX hcs hcr hcl)
      ))
     go_roundw
     case rel=>exact⟨l+1,by omega,by go_num,HO7,HG7,HW7⟩
     case measure=>simp[intOf];omega
theorem YY(a:Ad)(SV:Bb)(ks:Nat)(hz:zI a a.sts=0)(hf:FewA a):∀k,k<=6->kT a SV ks k
 | 0,_=>fromR_zero a SV ks
 | k+1,h=>fromR_succ a SV ks k (by omega) hz hf (YY a SV ks hz hf k (by omega))
structure Wrote(R:Nat->Prop)(w w':Ba):Prop where
 os:w'.os=w.os
 tape:w'.tape=w.tape
 output:w'.output=w.output
 size:w.heap.size<=w'.heap.size
 block:∀k,k<w.heap.size->¬R k->w'.heap[k]?=w.heap[k]?
theorem Wrote.refl(R:Nat->Prop)(w:Ba):Wrote R w w:=⟨rfl,rfl,rfl,Le _,fun _ _ _=>rfl⟩
theorem Wrote.trans{R R':Nat->Prop}{a b c:Ba}(h:Wrote R a b)(k:Wrote R' b c)(hr:∀k,k<a.heap.size->R' k->R k):Wrote R a c:=
 ⟨k.os.trans h.os,k.tape.trans h.tape,k.output.trans h.output,Lz h.size k.size,fun i hi hn=>(k.block i (LC hi h.size) (fun h'=>hn (hr i hi h'))).trans (h.block i hi hn)⟩
theorem Wrote.of_below{R:Nat->Prop}{a b:Ba}(h:Below a.heap.size a b):Wrote R a b:=⟨h.os,h.tape,h.output,h.size,fun k hk _=>h.block k hk⟩
theorem Wrote.of_grown{R:Nat->Prop}{a b:Ba}{row:Option Nat}(h:a.grownBy b row)(hr:∀k,row=some k->k<a.heap.size->R k):Wrote R a b:=⟨h.os,h.tape,h.output,h.size,fun k hk hn=>h.block k hk (fun e=>hn (hr k e.symm hk))⟩
theorem Wrote.below{R:Nat->Prop}{a b:Ba}{B:Nat}(h:Wrote R a b)(hB:B<=a.heap.size)(hr:∀k,k<B->¬R k):Below B a b:=⟨h.os,h.tape,h.output,h.size,fun k hk=>h.block k (by omega) (hr k hk)⟩
theorem Wrote.keep{R S:Nat->Prop}{a b:Ba}(h:Wrote R a b)(hr:∀k,k<a.heap.size->S k->¬R k):KeepB S a b:=⟨h.size,fun k hs hk=>h.block k hk (hr k hk hs)⟩
theorem Wrote.more{R R':Nat->Prop}{a b:Ba}(h:Wrote R a b)(hr:∀k,k<a.heap.size->R k->R' k):Wrote R' a b:=⟨h.os,h.tape,h.output,h.size,fun k hk hn=>h.block k hk (fun h'=>hn (hr k hk h'))⟩
def ub(vs:List Vw):Vw->Option Value:=fun v=>if v∈vs then some (.int .i64 (kg vs v)) else none
theorem numF_nil:ub []=fun _=>none:=by funext v;simp[ub]
theorem numF_put{vs:List Vw}{v:Vw}(h:v∉vs):xf (ub vs) v (.int .i64 vs.length)=ub (vs++[v]):=by
 funext x
 unfold xf ub
 by_cases e:x=v
 . subst e
   rw[Lh rfl,Lh (by simp)]
   congr 2
   exact(QM (k:=vs.length) (by simp) (by simp) (by rw[List.take_left];exact h)).symm
 . rw[Lg e]
   by_cases hx:x∈vs
   . rw[Lh hx,Lh (by simp[hx])]
     congr 2
     unfold kg;rw[Lh hx,Lh (by simp[hx]),NF,Lh hx]
   . rw[Lg hx,Lg (by simp[hx,e])]
structure BdIn(B bB bM:Nat)(n:Int)(V:Value)(vs:List Vw)(w:Ba):Prop where
 hB:w.heap[bB]?=some (.cells #[.int .i64 n,V,.map (some bM)] 172 (0,0))
 num:∃m,MapOf (fun v:Vw=>.agg v.cells) w bM m (ub vs)
 own:OwnV w B V vs
 ne:∀k,V.ownBlock=some k->k≠bB/\k≠bM
 bm:bB≠bM
 lo:B<=bB/\B<=bM
def Bk(bB bM:Nat)(V:Value)(k:Nat):Prop:=k=bB\/k=bM\/V.ownBlock=some k
def BdOn(bB bM:Nat)(V:Value)(w:Ba)(V':Value)(w':Ba):Prop:=Wrote (Bk bB bM V) w w'/\∀k,V'.ownBlock=some k->V.ownBlock=some k\/w.heap.size<=k
theorem BdOn.refl(bB bM:Nat)(V:Value)(w:Ba):BdOn bB bM V w V w:=⟨Wrote.refl _ _,fun _ h=>.inl h⟩
theorem BdOn.trans{bB bM:Nat}{V V1 V2:Value}{w w1 w2:Ba}(h:BdOn bB bM V w V1 w1)(k:BdOn bB bM V1 w1 V2 w2):BdOn bB bM V w V2 w2:=by
 refine⟨h.1.trans k.1 fun j hj hr=>?_,fun j hj=>?_⟩
 . rcases hr with e | e | e
   . exact .inl e
   . exact .inr (.inl e)
   . rcases h.2 j e with e | e
     . exact .inr (.inr e)
     . omega
 . rcases k.2 j hj with e | e
   . exact h.2 j e
   . exact .inr (Lz h.1.size e)
theorem BdOn.after{bB bM:Nat}{V V1:Value}{w w1 w2:Ba}(h:BdOn bB bM V w V1 w1)(k:Below w1.heap.size w1 w2):BdOn bB bM V w V1 w2:=⟨h.1.trans (Wrote.of_below (R:=fun _=>False) k) (fun _ _ h=>h.elim),h.2⟩
theorem BdIn.on{B bB bM:Nat}{n:Int}{V:Value}{vs:List Vw}{w w':Ba}(h:BdIn B bB bM n V vs w)(hb:Below w.heap.size w w'):BdIn B bB bM n V vs w':=by
 obtain⟨m,hm⟩:=h.num;exact⟨La hb h.hB,⟨m,hm.same (hb.block _ hm.lt)⟩,h.own.below hb (Le _),h.ne,h.bm,h.lo⟩
theorem BdIn.push{B bB bM m:Nat}{n:Int}{A:Bb}{cap:Nat}{vs:List Vw}{v:Vw}{w w2 W w4:Ba}{g' cap':Nat}(H:BdIn B bB bM n (.slice A vs.length cap) vs w)(hg2:w.grownBy w2 (some bM))
  (hm2:MapOf (fun v:Vw=>.agg v.cells) w2 bM m (ub (vs++[v]))) (hW:Below w2.heap.size w2 W)
  (hr:OwnR kVw w4 B (.slice (some ⟨g',0,none⟩) (vs.length+1) cap') (vs.length+1) (yN vs++v.cells.toList)) (hg:W.grownBy w4 (Value.slice A vs.length cap).ownBlock)
  (hat:(Value.slice A vs.length cap).ownBlock=some g'\/g'=W.heap.size) :
  BdIn B bB bM n (.slice (some ⟨g',0,none⟩) (vs.length+1) cap') (vs++[v]) (w4.setCell ⟨bB,1,none⟩ (.slice (some ⟨g',0,none⟩) (vs.length+1) cap')) /\
   BdOn bB bM (.slice A vs.length cap) w (.slice (some ⟨g',0,none⟩) (vs.length+1) cap') (w4.setCell ⟨bB,1,none⟩ (.slice (some ⟨g',0,none⟩) (vs.length+1) cap')):=by
 have hlb:=zj H.hB;obtain⟨m0,hm0⟩:=H.num;have hlm:=hm0.lt;have hs2:=hg2.size;have hsW:=hW.size;have hlo:=H.own.lt;have hb2:=(hg2.block bB hlb (fun e=>by cases e;exact H.bm rfl)).trans H.hB;have hb4:=(hg.block bB (by omega) (fun e=>(H.ne bB e.symm).1 rfl)).trans ((hW.block bB (by omega)).trans hb2);have hm4:=((hm2.same (hW.block bM (by omega))).same (hg.block bM (by omega) (fun e=>(H.ne bM e.symm).2 rfl)));have hgl:=hr.lt g' rfl
 have hne:g'≠bB/\g'≠bM:=by
  rcases hat with e | e
  . exact H.ne g' e
  . exact⟨by omega,by omega⟩
 refine⟨⟨?_,⟨m,hm4.same (Lf w4 _ _ bM (fun e=>H.bm e.symm))⟩,?_,?_,H.bm,H.lo⟩,?_,?_⟩
 . rw[Ll w4 bB 1 _ _ _ hb4];rfl
 . have h5:OwnR kVw (w4.setCell ⟨bB,1,none⟩ (.slice (some ⟨g',0,none⟩) (vs.length+1) cap')) B (.slice (some ⟨g',0,none⟩) (vs.length+1) cap') (vs.length+1) (yN vs++v.cells.toList):=hr.kept (zS w4 bB 1 _) (.inr (fun e=>hne.1 (by simpa[Value.ownBlock] using e)))
   unfold OwnV;rw[Lv,vc,show yN [v]=v.cells.toList by simp[yN]];exact h5
 . intro k hk
   have:g'=k:=by simpa[Value.ownBlock] using hk
   subst this;exact hne
 . have h1:Wrote (Bk bB bM (.slice A vs.length cap)) w w2:=Wrote.of_grown hg2 (fun k hk _=>by cases hk;exact .inr (.inl rfl))
   have h2:Wrote (Bk bB bM (.slice A vs.length cap)) w2 W:=Wrote.of_below hW;have h3:Wrote (Bk bB bM (.slice A vs.length cap)) W w4:=Wrote.of_grown hg (fun k hk _=>.inr (.inr hk));have h4:Wrote (Bk bB bM (.slice A vs.length cap)) w4 (w4.setCell ⟨bB,1,none⟩ (.slice (some ⟨g',0,none⟩) (vs.length+1) cap')):=Wrote.of_grown (zS w4 bB 1 _) (fun k hk _=>by cases hk;exact .inl rfl);exact((h1.trans h2 (fun _ _ h=>h)).trans h3 (fun _ _ h=>h)).trans h4 (fun _ _ h=>h)
 . intro k hk
   have:g'=k:=by simpa[Value.ownBlock] using hk
   subst this;rcases hat with e | e
   . exact .inl e
   . exact .inr (by omega)
theorem Ja(B bB bM:Nat)(n:Int)(V:Value)(vs:List Vw)(v:Vw)(hl:vs.length<=50000)(w:Ba)(H:BdIn B bB bM n V vs w) :
  Calls Tryz.prog 138 #[.pointer (some ⟨bB,0,none⟩),.agg v.cells] w fun e w'=>e=.returned (.int .i64 (qg vs v).2)/\∃V',BdIn B bB bM n V' (qg vs v).1 w'/\BdOn bB bM V w V' w':=by
 obtain⟨A,cap,rfl⟩:=H.own.lit;obtain⟨w1,hw1,d0,hsz1,hB1⟩:=zn w v.cells 128;have H1:=H.on hB1;have HI:=zH H1;have HW1:=zH hw1;have HB1:=zH hB1;have HD0:=zH d0;have HV:=zH (show ub vs v=if v∈vs then some (.int .i64 (kg vs v)) else none from rfl);have hlb:=zj H.hB;have HVL:=zH (fun (k:Nat) (e:(Value.slice A vs.length cap).ownBlock=some k)=>(H.own.lt k e).2);have hbMw:bM<w.heap.size:=by obtain⟨_,hm⟩:=H.num;exact hm.lt
 have b0:=H1.hB;obtain⟨m,hm⟩:=H1.num;have HM:=zH hm;have hz:∀W:Ba,(zeroValue 3).run Tryz.prog W=.ok (.int .i64 0) W:=fun W=>by kernel_rfl
 have ht:Tryz.prog.underlying 170=some (.map 128 3):=Tryz.underlying170;have hbv:bB≠w.heap.size:=by omega
 clear hw1 H1 H;go_enter Tryz.func138,Tryz.ntmps138;unfold Vw.cells at HW1 ⊢;go_wp2_with fail;rw[HW1.out]
 by_cases hv:v∈vs
 case pos=>
  have hf:ub vs v=some (.int .i64 (kg vs v)):=Lh hv;have hpw:=Qi hv;have HPW:=zH hpw;have HF:=zH hf;have hid:=QL hv;clear hpw hf hv HV;refine zz [(0,true),(1,true),(2,true),(3,true),(4,true),(5,true),(6,true),(7,true),(8,true),(9,true),(10,true)] (fun W=>W.heap[bB]?=some (.cells #[.int .i64 n,.slice A vs.length cap,.map (some bM)] 172 (0,0))/\MapOf (fun v:Vw=>.agg v.cells) W bM m (ub vs)/\W.heap[w.heap.size]?=some (.cells v.cells 128 (0,0))) (by kernel_rfl) (by kernel_rfl) ⟨b0,hm,d0⟩ ?_
  repeat
   apply zG rfl
   . rintro K' hK' W ⟨y0,y1,y2⟩
     have g0:W.cell? ⟨w.heap.size,0,none⟩=some (.int .i64 v.p):=zh y2 0 rfl;have g1:W.cell? ⟨w.heap.size,1,none⟩=some (.int .i64 v.r):=zh y2 1 rfl;have g2:W.cell? ⟨w.heap.size,2,none⟩=some (.int .i64 v.i):=zh y2 2 rfl;have g3:W.cell? ⟨w.heap.size,3,none⟩=some (.int .i64 v.h0):=zh y2 3 rfl;have g4:W.cell? ⟨w.heap.size,4,none⟩=some (.int .i64 v.h1):=zh y2 4 rfl;have g5:W.cell? ⟨w.heap.size,5,none⟩=some (.int .i64 v.h2):=zh y2 5 rfl;have g6:W.cell? ⟨w.heap.size,6,none⟩=some (.int .i64 v.h3):=zh y2 6 rfl;have g7:W.cell? ⟨w.heap.size,7,none⟩=some (.int .i64 v.h4):=zh y2 7 rfl;have b0:W.cell? ⟨bB,0,none⟩=some (.int .i64 n):=zh y0 0 rfl;have b1:W.cell? ⟨bB,1,none⟩=some (.slice A vs.length cap):=zh y0 1 rfl;have b2:W.cell? ⟨bB,2,none⟩=some (.map (some bM)):=zh y0 2 rfl;have hlk:=y1.look2 gZ ht (hz W) v;rw[HF.out] at hlk;simp only[Option.getD_some,Option.isSome_some,Vw.cells] at hlk;clear y0 y1 y2;go_simp;exact hK'
  refine zQ ?_;clear b0 hm d0;go_wp2_with fail;go_ret;rw[HPW.out];exact⟨rfl,_,HI.out.on (Lo _ _).drew,(BdOn.refl bB bM _ w).after (HB1.out.drew)⟩
 case neg=>
  have hf:ub vs v=none:=Lg hv;have hpw:=putW_no hv;have HPW:=zH hpw;have HF:=zH hf;have HVN:Hid (v∉vs):=hv;clear hpw hf hv HV;refine zz [(0,true),(1,true),(2,true),(3,true),(4,true),(5,true),(6,true),(7,true),(8,true),(9,true),(10,true)] (fun W=>W.heap[bB]?=some (.cells #[.int .i64 n,.slice A vs.length cap,.map (some bM)] 172 (0,0))/\MapOf (fun v:Vw=>.agg v.cells) W bM m (ub vs)/\W.heap[w.heap.size]?=some (.cells v.cells 128 (0,0))) (by kernel_rfl) (by kernel_rfl) ⟨b0,hm,d0⟩ ?_
  repeat
   apply zG rfl
   . rintro K' hK' W ⟨y0,y1,y2⟩
     have g0:W.cell? ⟨w.heap.size,0,none⟩=some (.int .i64 v.p):=zh y2 0 rfl;have g1:W.cell? ⟨w.heap.size,1,none⟩=some (.int .i64 v.r):=zh y2 1 rfl;have g2:W.cell? ⟨w.heap.size,2,none⟩=some (.int .i64 v.i):=zh y2 2 rfl;have g3:W.cell? ⟨w.heap.size,3,none⟩=some (.int .i64 v.h0):=zh y2 3 rfl;have g4:W.cell? ⟨w.heap.size,4,none⟩=some (.int .i64 v.h1):=zh y2 4 rfl;have g5:W.cell? ⟨w.heap.size,5,none⟩=some (.int .i64 v.h2):=zh y2 5 rfl;have g6:W.cell? ⟨w.heap.size,6,none⟩=some (.int .i64 v.h3):=zh y2 6 rfl;have g7:W.cell? ⟨w.heap.size,7,none⟩=some (.int .i64 v.h4):=zh y2 7 rfl;have b0:W.cell? ⟨bB,0,none⟩=some (.int .i64 n):=zh y0 0 rfl;have b1:W.cell? ⟨bB,1,none⟩=some (.slice A vs.length cap):=zh y0 1 rfl;have b2:W.cell? ⟨bB,2,none⟩=some (.map (some bM)):=zh y0 2 rfl;have hlk:=y1.look2 gZ ht (hz W) v;rw[HF.out] at hlk;simp only[Option.getD_none,Option.isSome_none,Vw.cells] at hlk;clear y0 y1 y2;go_simp;exact hK'
  refine zQ ?_;clear hm;have b1:w1.cell? ⟨bB,1,none⟩=some (.slice A vs.length cap):=zh HI.out.hB 1 rfl;go_wp2_with fail;obtain⟨w2,hrun,hm2,hgr2⟩:=MapOf.put (w:=w1.drew.drew) (P:=Tryz.prog) (show MapOf (fun v:Vw=>.agg v.cells) w1.drew.drew bM m (ub vs) from HM.out) gZ ht v (.int .i64 vs.length);rw[numF_put HVN.out] at hm2;have HM2:=zH hm2;have HG2:Hid (w1.grownBy w2 (some bM)):=⟨hgr2.os,hgr2.tape,hgr2.output,hgr2.size,hgr2.block⟩;have hlm:=HM.out.lt;have hbM:=HI.out.bm;have hbm2:w.heap.size≠bM:=by omega
  simp only[Vw.cells] at hrun;have d2:=(HG2.out.block _ (zj HD0.out) (fun e=>by cases e;exact hbm2 rfl)).trans HD0.out;have b2:=(HG2.out.block _ (zj HI.out.hB) (fun e=>by cases e;exact hbM rfl)).trans HI.out.hB;clear hm2 hgr2;refine zz [(0,true),(1,true),(2,true),(3,true),(4,true),(5,true),(6,false)] (fun W=>W.heap[bB]?=some (.cells #[.int .i64 n,.slice A vs.length cap,.map (some bM)] 172 (0,0))/\W.heap[w.heap.size]?=some (.cells v.cells 128 (0,0))) (by kernel_rfl) (by kernel_rfl) ⟨HI.out.hB,d0⟩ ?_;clear b0 b1 d0
  repeat
   apply zG rfl
   . rintro K' hK' W ⟨y0,y2⟩
     have g0:W.cell? ⟨w.heap.size,0,none⟩=some (.int .i64 v.p):=zh y2 0 rfl;have g1:W.cell? ⟨w.heap.size,1,none⟩=some (.int .i64 v.r):=zh y2 1 rfl;have g2:W.cell? ⟨w.heap.size,2,none⟩=some (.int .i64 v.i):=zh y2 2 rfl;have g3:W.cell? ⟨w.heap.size,3,none⟩=some (.int .i64 v.h0):=zh y2 3 rfl;have g4:W.cell? ⟨w.heap.size,4,none⟩=some (.int .i64 v.h1):=zh y2 4 rfl;have g5:W.cell? ⟨w.heap.size,5,none⟩=some (.int .i64 v.h2):=zh y2 5 rfl;have g6:W.cell? ⟨w.heap.size,6,none⟩=some (.int .i64 v.h3):=zh y2 6 rfl;have g7:W.cell? ⟨w.heap.size,7,none⟩=some (.int .i64 v.h4):=zh y2 7 rfl;have b2:W.cell? ⟨bB,2,none⟩=some (.map (some bM)):=zh y0 2 rfl;clear y0 y2;go_simp;exact hK'
  refine zE rfl ?_;intro K' hK';go_simp;refine hK' _ _ ⟨b2,d2⟩ ?_;refine zQ ?_;clear hK' K' hrun;go_wp2_with fail;have hs2:=HG2.out.size;have hbB2:bB<w2.heap.size:=by omega
  have HDD:=zH d2;have HBB:=zH b2;refine zz [(0,true),(1,true),(2,true),(3,true),(4,true),(5,true),(6,false),(7,false),(8,false),(9,false),(10,false)] (fun W=>W.heap[bB]?=some (.cells #[.int .i64 n,.slice A vs.length cap,.map (some bM)] 172 (0,0))/\W.heap[w.heap.size]?=some (.cells v.cells 128 (0,0))) (by kernel_rfl) (by kernel_rfl) ⟨b2,d2⟩ ?_;clear b2 d2
  repeat
   apply zG rfl
   . rintro K' hK' W ⟨y0,y2⟩
     have g0:W.cell? ⟨w.heap.size,0,none⟩=some (.int .i64 v.p):=zh y2 0 rfl;have g1:W.cell? ⟨w.heap.size,1,none⟩=some (.int .i64 v.r):=zh y2 1 rfl;have g2:W.cell? ⟨w.heap.size,2,none⟩=some (.int .i64 v.i):=zh y2 2 rfl;have g3:W.cell? ⟨w.heap.size,3,none⟩=some (.int .i64 v.h0):=zh y2 3 rfl;have g4:W.cell? ⟨w.heap.size,4,none⟩=some (.int .i64 v.h1):=zh y2 4 rfl;have g5:W.cell? ⟨w.heap.size,5,none⟩=some (.int .i64 v.h2):=zh y2 5 rfl;have g6:W.cell? ⟨w.heap.size,6,none⟩=some (.int .i64 v.h3):=zh y2 6 rfl;have g7:W.cell? ⟨w.heap.size,7,none⟩=some (.int .i64 v.h4):=zh y2 7 rfl;have b1:W.cell? ⟨bB,1,none⟩=some (.slice A vs.length cap):=zh y0 1 rfl;clear y0 y2;go_simp;exact hK'
  refine zE rfl ?_;intro K' hK';go_simp;obtain⟨W3,hW3,e3,hs3,hB3⟩:=gO w2 v.cells 128;simp only[Vw.cells] at hW3;rw[hW3];clear hW3;refine hK' _ _ ⟨Lb hB3 hbB2 HBB.out,Lb hB3 (by omega) HDD.out⟩ ?_;clear hK' K';refine zE rfl ?_;intro K' hK';rw[Lh (by rfl)]
  have hOw:OwnR kVw W3 B (.slice A vs.length cap) vs.length (yN vs):=by
   have h0:OwnR kVw w1 B (.slice A vs.length cap) vs.length (yN vs):=HI.out.own;refine(h0.kept HG2.out ?_).below hB3 (Le _);rcases hA:(Value.slice A vs.length cap).ownBlock with _ | k
   . exact .inl rfl
   . exact .inr fun e=>(HI.out.ne k hA).2 (by simpa using e)
  have hlo:=HI.out.lo;refine kU kVw_ok (.tmp 33) (.tmp 35) (by rfl) B (.slice A vs.length cap) vs.length (yN vs) (by rfl) hOw w2.heap.size v.cells (by rfl) e3 rfl (we v) (by omega) (by omega) _ rfl ?_;intro g' cap' w4 hr hg hat hlt;have HP:=zH (BdIn.push HI.out HG2.out HM2.out hB3 hr hg hat);have z0:=(hg.block bB (by omega) (fun e=>(HI.out.ne bB e.symm).1 rfl)).trans (Lb hB3 hbB2 HBB.out);have z1:=(hg.block w.heap.size (by omega) (fun e=>by have:=HVL.out _ e.symm;omega)).trans (Lb hB3 (by omega) HDD.out);refine hK' _ _ ⟨z0,z1⟩ ?_;clear hK' K' hr hg hat hOw e3 hB3;refine zE rfl ?_;intro K' hK';go_simp;refine hK' _ _ ⟨z0,z1⟩ ?_;clear hK' K';refine zE rfl ?_;intro K' hK';go_simp;refine hK' _ _ ⟨z0,z1⟩ ?_;clear hK' K';have b1:w4.cell? ⟨bB,1,none⟩=some (.slice A vs.length cap):=zh z0 1 rfl;have f1:=zi z0 1;clear z0 z1;refine xa rfl (by kernel_rfl) ?_;intro K' hK';go_simp;refine hK' (fun _=>True) _ _ trivial ?_;refine zQ ?_;clear hK' K' b1 f1;go_wp2_with fail;go_ret;rw[HPW.out];exact⟨rfl,_,HP.out.1,(BdOn.refl bB bM _ w).after HB1.out |>.trans HP.out.2⟩
def ZC(k:Nat):Array Value:=#[.int .i64 (if 0<k then -1 else 0),.int .i64 (if 1<k then -1 else 0),.int .i64 (if 2<k then -1 else 0),.int .i64 (if 3<k then -1 else 0),.int .i64 (if 4<k then -1 else 0)]
theorem minus_set(k:Nat)(hk:k<5):(ZC k).setIfInBounds k (.int .i64 (-1))=ZC (k+1):=by
 match k,hk with
 | 0,_=>rfl
 | 1,_=>rfl
 | 2,_=>rfl
 | 3,_=>rfl
 | 4,_=>rfl
theorem minus_at(k:Nat)(hk:k<5):(ZC k)[k]?=some (.int .i64 0):=by
 match k,hk with
 | 0,_=>rfl
 | 1,_=>rfl
 | 2,_=>rfl
 | 3,_=>rfl
 | 4,_=>rfl
theorem wH(w:Ba):Calls Tryz.prog 139 #[] w fun e w'=>e=.returned (.agg #[.int .i64 (-1),.int .i64 (-1),.int .i64 (-1),.int .i64 (-1),.int .i64 (-1)])/\Below w.heap.size w w':=by
 obtain⟨w1,hw1,d0,d1,hs1,hB⟩:=yB w (ZC 0) (ZC 0) 88 88;have HW1:=zH hw1;go_enter Tryz.func139,Tryz.ntmps139;go_wp2_with fail;rw[show((w.alloc (.cells #[.int .i64 0,.int .i64 0,.int .i64 0,.int .i64 0,.int .i64 0] 88)).alloc (.cells #[.int .i64 0,.int .i64 0,.int .i64 0,.int .i64 0,.int .i64 0] 88))=w1 from HW1.out];have H0:=zH d0;have H1:=zH d1;have HB:=zH hB;clear hw1 d0 d1 hB
 go_loopw [3] (fun i wr=>∃k:Nat,k<=5/\i=.int .i64 (k:Int)/\Hid (wr.heap[w.heap.size]?=some (.cells (ZC 0) 88 (0,0)))/\Hid (wr.heap[w.heap.size+1]?=some (.cells (ZC k) 88 (0,0)))/\Hid (Below w.heap.size w wr)) (fun i _=>5-(intOf i).toNat)
 case atStart=>exact⟨0,by omega,rfl,H0.out,H1.out,HB.out⟩
 case round=>
  clear H0 H1;obtain⟨k,hk,rfl,H0,H1,HBr⟩:=hrel
  by_cases hk5:k<5
  case neg=>
   obtain rfl:k=5:=by omega
   have x0:wr.cell? ⟨w.heap.size+1,0,none⟩=some (.int .i64 (-1)):=zh H1.out 0 rfl;have x1:wr.cell? ⟨w.heap.size+1,1,none⟩=some (.int .i64 (-1)):=zh H1.out 1 rfl;have x2:wr.cell? ⟨w.heap.size+1,2,none⟩=some (.int .i64 (-1)):=zh H1.out 2 rfl;have x3:wr.cell? ⟨w.heap.size+1,3,none⟩=some (.int .i64 (-1)):=zh H1.out 3 rfl;have x4:wr.cell? ⟨w.heap.size+1,4,none⟩=some (.int .i64 (-1)):=zh H1.out 4 rfl;have y0:wr.cell? ⟨w.heap.size,0,none⟩=some (.int .i64 0):=zh H0.out 0 rfl;have y1:wr.cell? ⟨w.heap.size,1,none⟩=some (.int .i64 0):=zh H0.out 1 rfl;have y2:wr.cell? ⟨w.heap.size,2,none⟩=some (.int .i64 0):=zh H0.out 2 rfl;have y3:wr.cell? ⟨w.heap.size,3,none⟩=some (.int .i64 0):=zh H0.out 3 rfl;have y4:wr.cell? ⟨w.heap.size,4,none⟩=some (.int .i64 0):=zh H0.out 4 rfl;have f0:=zi H0.out 0;have f1:=zi H0.out 1;have f2:=zi H0.out 2;have f3:=zi H0.out 3;have f4:=zi H0.out 4;go_wp2_with fail;refine L1 (v:=.agg #[.int .i64 (-1),.int .i64 (-1),.int .i64 (-1),.int .i64 (-1),.int .i64 (-1)]) (by simp[results,Tryz.results139,go_sem,y0,y1,y2,y3,y4]) rfl ⟨rfl,?_⟩;exact((((HBr.out.setCell (Le _) _).setCell (Le _) _).setCell (Le _) _).setCell (Le _) _).setCell (Le _) _
  case pos=>
   have x0:=zh H1.out k (minus_at k hk5);have f0:=zi H1.out k;have hk0:(0:Int)<=(k:Int):=by omega
   have hk1:(k:Int)<5:=by omega
   go_wp2_with fail
   go_roundw
   case rel=>exact⟨k+1,by omega,by go_num,(Lf wr _ _ w.heap.size (by show w.heap.size≠w.heap.size+1;omega)).trans H0.out,by show _=_;rw[Ll wr _ k _ _ _ H1.out,minus_set k hk5],HBr.out.setCell (by show w.heap.size<=w.heap.size+1;omega) _⟩
   case measure=>simp[intOf];omega
end
section
open Go.RowKit
theorem uP(n:Nat)(h1:1<=n)(h5:n<=8)(W:Ba):(Instr.makeSlice 44 (.int .i64 n) (.int .i64 n)).run Tryz.prog W=.ok (.slice (some ⟨W.heap.size,0,none⟩) n n) (W.alloc (.cells ((List.replicate n 0).map (Value.int .i64)).toArray 3)):=by
 obtain rfl | rfl | rfl | rfl | rfl | rfl | rfl | rfl:n=1\/n=2\/n=3\/n=4\/n=5\/n=6\/n=7\/n=8:=by omega
 all_goals kernel_rfl
theorem qq{cur:List Value}{x:Value}{k m n:Nat}(hl:cur.length=n)(h:cur.take k=List.replicate k x)(hk:k+m<=n):(splice cur k (List.replicate m x)).take (k+m)=List.replicate (k+m) x/\(splice cur k (List.replicate m x)).length=n:=by
 constructor
 . unfold splice
   rw[h,<-Na,R5 (by simp),Nz (by simp)];exact List.replicate_append_replicate
 . rw[length_splice _ _ _ (by simp;omega),hl]
theorem Xr{w:Ba}{b o:Nat}{x:Value}(h:w.cell? ⟨b,o,none⟩=some x):∀j v,[x][j]?=some v->w.cell? ((⟨b,o,none⟩:Addr).add j)=some v:=by
 intro j v hj;have h0:j=0:=by have:=(Lq.1 hj).1;simp at this;omega
 subst h0;simp at hj;subst hj;rw[N5];exact h
theorem vR:(Tryz.prog.info? 3).map (·.size)=some 1:=by kernel_rfl
theorem Qd(n b:Nat)(h1:1<=n)(h5:n<=8)(u:Int)(w:Ba)(hb:w.heap[b]?=some (.cells #[.int .i64 u] 3 (0,0))) :
  Calls Tryz.prog 23 #[.slice (some ⟨b,0,none⟩) 1 1,.int .i64 n] w fun e w'=>∃g,e=.returned (.slice (some ⟨g,0,none⟩) n n)/\w.heap.size<=g/\RowAt w' g (List.replicate n u)/\Below w.heap.size w w':=by
 have hmk:=uP n h1 h5;obtain⟨ar,har⟩:∃ar:List Value,(List.replicate n 0).map (Value.int .i64)=ar:=⟨_,rfl⟩;rw[har] at hmk;have hal:ar.length=n:=by rw[<-har];simp
 have hc:=zh hb 0 rfl;have hbl:=zj hb;have hm:=Tryz.bits_Mul 1 n (by omega) (by omega) w;have e1:(1*n / 18446744073709551616:Nat)=0:=by omega
 have e2:(1*n % 18446744073709551616:Nat)=n:=by omega
 rw[e1,e2] at hm;have hn0:¬(n:Int)<0:=by omega
 clear har e1 e2;go_enter Tryz.func23,Tryz.ntmps23;go_wp2_with fail;refine hm.mono ?_;rintro e w1 ⟨rfl,hw1⟩;obtain rfl:=hw1;clear hm;obtain⟨W0,hW0,b0,hsz,hB0⟩:=zn w1 ar.toArray 3;have hx:W0.cell? ⟨b,0,none⟩=some (.int .i64 u):=(hB0.cell (p:=⟨b,0,none⟩) hbl).trans hc;have BB:=zH hB0;have BX:=zH b0;have HX:=zH hx;clear hc hB0 b0 hx hb;go_wp2_with ((refine Rz rfl (.tmp 31) (.tmp 32) 44 44 rfl 3 Nq vR (some ⟨w1.heap.size,0,none⟩) (some ⟨b,0,none⟩) n n 1 1 rfl rfl w1.heap.size 0 ar 3 BX.out [.int .i64 u] (by simp[Nat.min_def];omega) (fun _=>⟨rfl,_,rfl,Xr HX.out⟩) (by simp;omega) (by simp[Value.oneCell']) w1.heap.size w1 BB.out (Le _) ?_);intro w2 hr2 hb2);obtain⟨g,hg⟩:=Ki w1.heap.size;have s1:=qq (cur:=ar) (x:=.int .i64 u) (k:=0) (m:=1) (n:=n) hal (by simp) (by omega);have S1:=zH s1;have HGG:=zH hg;rw[hg] at hr2 hb2 ⊢;clear s1 BX HX BB hW0 hsz hmk hg
 go_loopw [8] (fun l wr=>∃(k:Nat) (cur:List Value),1<=k/\k<=n/\l=.int .i64 k/\Hid (cur.length=n)/\Hid (cur.take k=List.replicate k (.int .i64 u))/\Hid (wr.heap[g]?=some (.cells cur.toArray 3 (0,0)))/\Below g w1 wr) (fun l _=>n-(intOf l).toNat)
 case atStart=>exact⟨1,splice ar 0 [.int .i64 u],by omega,h1,rfl,S1.out.2,S1.out.1,hr2,hb2⟩
 case round=>
  obtain⟨k,cur,hk1,hkn,rfl,hcl,hct,hcell,hbl2⟩:=hrel
  by_cases hlt:k<n
  . clear S1 hr2 hb2
    have hk0:(0:Int)<=(k:Int):=by omega
    have hk2:(k:Int)<=(n:Int):=by omega
    have hne:¬n=k:=by omega
    have hne':¬k=n:=by omega
    go_upto_region 9 with fail
    obtain⟨d,hd⟩:=Ki (n-k);obtain⟨m,hm⟩:=Ki (Nat.min k d);have hm0:min k d=m:=hm;have hm1:1<=m:=by omega
    have hm2:k+m<=n:=by omega
    have hm3:m<=k:=by omega
    clear hm0
    have hsrc:∀j v,(List.replicate m (Value.int .i64 u))[j]?=some v->wr.cell? ((⟨g,0,none⟩:Addr).add j)=some v:=by
     intro j v hj;have hjm:j<m:=by have:=(Lq.1 hj).1;simpa using this
     rw[Nt,Lh hjm] at hj
     cases hj
     rw[N5,LH];refine zh hcell.out j ?_;rw[Ro];have h2:=congrArg (fun l=>l[j]?) hct.out;simp only[List.getElem?_take,List.getElem?_replicate] at h2;rwa[Lh (by omega),Lh (by omega)] at h2
    have SP:=zH (qq (cur:=cur) (x:=Value.int .i64 u) (k:=k) (m:=m) (n:=n) hcl.out hct.out hm2);have HSRC:=zH hsrc;have HM:=zH hm;have HBL2:=zH hbl2;have hs1:IntKind.i64.wrap ((k:Int)+(m:Int))=(k:Int)+(m:Int):=Sf _ (by omega);have HS1:=zH hs1;clear hsrc hm hbl2 hs1
    go_region_law ((refine RU (by rfl) (.tmp 41) (.tmp 44) 44 44 (by rfl) 3 Nq vR (some ⟨g,k,none⟩) (some ⟨g,0,none⟩) d d k n (by simp[go_sem]) (by simp[go_sem]) g k cur 3 hcell.out (List.replicate m (.int .i64 u)) (by rw[LB];exact HM.out.symm) (fun _=>⟨rfl,_,rfl,HSRC.out⟩) (by rw[LB,hcl.out];exact hm2) (by intro v hv;rw[Rg hv];rfl) g w1 HBL2.out.drew (Le _) ?_;intro w3 hr3 hb3;rw[LB]))
    all_goals
     rw[HS1.out];go_wp2_with fail
     go_frame
     go_roundw
     case rel=>
      (repeat apply Exists.intro)
      exact⟨⟨k+m,splice cur k (List.replicate m (.int .i64 u)),by omega,by omega,rfl,SP.out.2,SP.out.1,hr3,hb3⟩,by first | rfl | (go_frame;rfl) | (simp[Act.put];done)⟩
     case measure=>simp[intOf];omega
  . obtain rfl:k=n:=by omega
    go_wp2_with fail;go_ret;refine⟨g,rfl,by have:=HGG.out;omega,?_,by have:=HGG.out;rw[this];exact hbl2⟩;unfold RowAt;have e:=hct.out;rw[Nz (by have:=hcl.out;omega)] at e;rw[hcell.out,e];simp
theorem BdIn.set{B bB bM:Nat}{n:Int}{V:Value}{vs:List Vw}{w:Ba}(h:BdIn B bB bM n V vs w){g:Nat}(h1:g≠bB)(h2:g≠bM)(h3:V.ownBlock≠some g)(o:Nat)(u:Value):BdIn B bB bM n V vs (w.setCell ⟨g,o,none⟩ u):=by
 obtain⟨m,hm⟩:=h.num;exact⟨(Lf w _ _ bB (fun e=>h1 e.symm)).trans h.hB,⟨m,hm.same (Lf w _ _ bM (fun e=>h2 e.symm))⟩,h.own.kept (zS w g o _) (.inr h3),h.ne,h.bm,h.lo⟩
theorem BdIn.grown{B bB bM:Nat}{n:Int}{V:Value}{vs:List Vw}{w w':Ba}{row:Option Nat}(h:BdIn B bB bM n V vs w)(hg:w.grownBy w' row)(h1:row≠some bB)(h2:row≠some bM)(h3:∀k,V.ownBlock=some k->row≠some k):BdIn B bB bM n V vs w':=by
 obtain⟨m,hm⟩:=h.num;refine⟨(hg.block _ (zj h.hB) (fun e=>h1 e.symm)).trans h.hB,⟨m,hm.same (hg.block _ hm.lt (fun e=>h2 e.symm))⟩,h.own.kept hg ?_,h.ne,h.bm,h.lo⟩
 cases hv:V.ownBlock with
 | none=>exact .inl rfl
 | some k=>exact .inr fun e=>h3 k hv e.symm
theorem BdIn.lts{B bB bM:Nat}{n:Int}{V:Value}{vs:List Vw}{w:Ba}(h:BdIn B bB bM n V vs w):bB<w.heap.size/\bM<w.heap.size/\∀k,V.ownBlock=some k->B<=k/\k<w.heap.size:=by
 obtain⟨m,hm⟩:=h.num;exact⟨zj h.hB,hm.lt,h.own.lt⟩
theorem BdOn.bel{B bB bM:Nat}{n:Int}{V V':Value}{vs:List Vw}{w w':Ba}(h:BdIn B bB bM n V vs w)(k:BdOn bB bM V w V' w'):Below B w w':=by
 obtain⟨h1,h2,h3⟩:=h.lts;have h4:=h.lo;refine k.1.below (by omega) fun j hj hr=>?_
 rcases hr with e | e | e
 . omega
 . omega
 . have:=(h3 j e).1;omega
theorem BdOn.set{bB bM:Nat}{V V':Value}{w w':Ba}(k:BdOn bB bM V w V' w'){g:Nat}(hg:w.heap.size<=g)(o:Nat)(u:Value):BdOn bB bM V w V' (w'.setCell ⟨g,o,none⟩ u):=
 ⟨k.1.trans (Wrote.of_grown (R:=fun k=>k=g) (zS w' g o u) (fun k e _=>by cases e;rfl)) (fun k hk e=>by subst e;omega),k.2⟩
theorem BdOn.grown{bB bM:Nat}{V V':Value}{w w' w2:Ba}{row:Option Nat}(k:BdOn bB bM V w V' w')(hg:w'.grownBy w2 row)(hr:∀j,row=some j->w.heap.size<=j):BdOn bB bM V w V' w2:=
 ⟨k.1.trans (Wrote.of_grown (R:=fun k=>row=some k) hg (fun _ e _=>e)) (fun j hj e=>by have:=hr j e;omega),k.2⟩
theorem row_set{xs:List Int}{N p:Nat}(hx:xs.length=p)(hp:p<N)(u:Int):(xs++List.replicate (N-p) 0).set p u=(xs++[u])++List.replicate (N-(p+1)) 0:=by
 subst hx;rw[List.set_append_right _ _ (Le _),NN,show N-xs.length=(N-(xs.length+1))+1 by omega,List.replicate_succ,List.set_cons_zero];simp
structure RwIn(B bB bM N:Nat)(V0:Value)(w0:Ba)(gN:Nat)(f:Nat->Vw)(vs:List Vw)(p:Nat)(V1:Value)(W:Ba):Prop where
 bd:BdIn B bB bM N V1 (yl f vs p).1 W
 row:RowAt W gN ((yl f vs p).2++List.replicate (N-p) 0)
 on:BdOn bB bM V0 w0 V1 W
 ne:V1.ownBlock≠some gN
 ng:w0.heap.size<=gN
 nb:gN≠bB/\gN≠bM
theorem RwIn.on_{B bB bM N:Nat}{V0:Value}{w0:Ba}{gN:Nat}{f:Nat->Vw}{vs:List Vw}{p:Nat}{V1:Value}{W W':Ba}(H:RwIn B bB bM N V0 w0 gN f vs p V1 W)(hb:Below W.heap.size W W'):RwIn B bB bM N V0 w0 gN f vs p V1 W':=
 ⟨H.bd.on hb,Lb hb H.row.lt H.row,H.on.after hb,H.ne,H.ng,H.nb⟩
theorem RwIn.mid{B bB bM N:Nat}{V0:Value}{w0:Ba}{gN:Nat}{f:Nat->Vw}{vs:List Vw}{p:Nat}{V1 V':Value}{W W':Ba}(H:RwIn B bB bM N V0 w0 gN f vs p V1 W)(ho:BdOn bB bM V1 W V' W') :
  RowAt W' gN ((yl f vs p).2++List.replicate (N-p) 0)/\V'.ownBlock≠some gN:=by
 refine⟨(ho.1.block gN H.row.lt fun hr=>?_).trans H.row,fun e=>?_⟩
 . rcases hr with e | e | e
   . exact H.nb.1 e
   . exact H.nb.2 e
   . exact H.ne e
 . rcases ho.2 gN e with e | e
   . exact H.ne e
   . have:=H.row.lt;omega
theorem RwIn.step{B bB bM N:Nat}{V0:Value}{w0:Ba}{gN:Nat}{f:Nat->Vw}{vs:List Vw}{p:Nat}{V1 V':Value}{W W':Ba}(H:RwIn B bB bM N V0 w0 gN f vs p V1 W)(hp:p<N)
  (hb:BdIn B bB bM N V' (qg (yl f vs p).1 (f p)).1 W') (ho:BdOn bB bM V1 W V' W') :
  RwIn B bB bM N V0 w0 gN f vs (p+1) V' (W'.setCell ⟨gN,p,none⟩ (.int .i64 (qg (yl f vs p).1 (f p)).2)):=by
 obtain⟨h1,h2⟩:=H.mid ho;refine⟨hb.set H.nb.1 H.nb.2 h2 p _,?_,(H.on.trans ho).set H.ng p _,h2,H.ng,H.nb⟩;have h3:=h1.set p (qg (yl f vs p).1 (f p)).2;rw[row_set (xR f vs p) hp] at h3;exact h3
end
section
open Go.RowKit
attribute [local go_sem] Oper.semAt_some
theorem ints_raw{w:Ba}{A:Bb}{xs:List Int}(h:IAt w w.heap.size A xs):Raw w A xs.length (xs.map (Value.int .i64)):=fun h0=>by
 obtain⟨b,off,e,hlt,hc⟩:=h h0;refine⟨b,off,e,hlt,fun j u hj=>?_⟩;obtain⟨x,hx,rfl⟩:∃x,xs[j]?=some x/\Value.int .i64 x=u:=by simpa using hj
 obtain⟨hjl,rfl⟩:=Lq.1 hx;exact hc j hjl
theorem ints_one(xs:List Int):∀u∈xs.map (Value.int .i64),u.oneCell'=true:=fun u hu=>by obtain⟨x,_,rfl⟩:=LX.1 hu;rfl
theorem ints_own{w:Ba}{base:Nat}{v:Value}{xs:List Int}(h:OwnR kIn w base v xs.length (xs.map (Value.int .i64))):∃A cap,v=.slice A xs.length cap/\xs.length<=cap/\cap<=maxLen/\IAtS (fun k=>base<=k) w A xs:=by
 have hlt:=h.lt;obtain⟨A,cap,rfl,hc,hm,hr⟩:=h.form;refine⟨A,cap,rfl,hc,hm,fun h0=>?_⟩;obtain⟨g,rfl,hg,hgl,hcl⟩:=hr h0;refine⟨g,0,rfl,(hlt g hg).1,hgl,fun i hi=>?_⟩;rw[LH];exact hcl i _ (by simp[hi])
theorem ZY(A:Bb)(cap:Nat)(xs:List Int)(w:Ba)(hA:IAt w w.heap.size A xs)(hl:xs.length<=1000000) :
  Calls Tryz.prog 133 #[.slice A xs.length cap] w fun e w'=>∃A' c,e=.returned (.slice A' xs.length c)/\IAtS (fun k=>w.heap.size<=k) w' A' xs/\Below w.heap.size w w':=
 (clone_kIn A xs.length cap (xs.map (Value.int .i64)) w (by simp) (ints_raw hA) (ints_one xs) hl).mono fun e w' ⟨v,h1,h2,h3⟩=>by
  obtain⟨A',c,h4,_,_,h5⟩:=ints_own h2;exact⟨A',c,by rw[h1,h4],h5,h3⟩
theorem ww(A:Bb)(cap:Nat)(xss:List (List Int))(w:Ba)(hA:LAt w w.heap.size A xss)(hl:xss.length<=100000)(hll:∀v∈xss,v.length<=100000) :
  Calls Tryz.prog 134 #[.slice A xss.length cap] w fun e w'=>∃v,e=.returned v/\OwnX cIs (fun k=>w.heap.size<=k) w' w.heap.size v xss/\Below w.heap.size w w':=by
 have HA:=zH hA;have HLL:=zH hll;clear hA hll;go_enter Tryz.func134,Tryz.ntmps134;go_wp2_with fail
 go_loopw [3,8] (fun o i wr=>∃k:Nat,k<=xss.length/\i=.int .i64 (k:Int)/\Hid (OwnX cIs (fun b=>w.heap.size<=b) wr w.heap.size o (xss.take k))/\Hid (Below w.heap.size w wr)) (fun _ i _=>xss.length-(intOf i).toNat)
 case atStart=>exact⟨0,by omega,rfl,by rw[LS];exact OwnX.nil _ _ _ _,Lo _ _⟩
 case round=>
  obtain⟨k,hk,rfl,HO,HB⟩:=hrel
  by_cases hkl:k<xss.length
  case neg=>
   obtain rfl:k=xss.length:=by omega
   rw[LG] at HO;go_wp2_with fail;go_ret;exact⟨_,rfl,HO.out,HB.out⟩
  case pos=>
   obtain⟨b,off,A',c',e1,hb,c0,hI⟩:=(HA.out.keep HB.out).at_ k hkl;subst e1;have hst:Hid (xss.take (k+1)=xss.take k++[xss[k]]):=Lu hkl;have hln:=HLL.out _ (Ld hkl);have hbs:=HB.out.size;have hk0:(0:Int)<=(k:Int):=by omega
   have hk1:(k:Int)<(xss.length:Int):=by omega
   have htl:(xss.take k).length=k:=by rw[Rk];omega
   have HTL:=zH htl;obtain⟨x,hx⟩:=Ki (xss[k]);rw[hx] at c0 hI hst hln;have HC:=zH (ZY A' c' x wr (hI.more hbs) (by omega));clear hx hI hln htl;go_wp2_with fail;refine HC.out.mono ?_;rintro e w2 ⟨A2,c2,rfl,hi2,hb2⟩;have HB2:Hid (Below wr.heap.size wr (w2.alloc (.cells #[.slice A2 x.length c2] 44))):=hb2.alloc hb2.size _;have HI2:Hid (IAtS (fun b=>wr.heap.size<=b) (w2.alloc (.cells #[.slice A2 x.length c2] 44)) A2 x):=hi2.keep (KeepB.alloc _ _ _);have HG2:=zH (zw w2 (.cells #[.slice A2 x.length c2] 44));have HO2:=zH (HO.out.below yQ HB2.out (Le _));have hsz2:=hb2.size;have HLT:=zH HO.out.lt;clear hi2 hb2 HC c0;go_wp2_with (at_builtin;obtain⟨css,hcl,hcr,hcs⟩:=HO2.out;rw[HTL.out] at hcr;refine xx XB rfl (.tmp 12) (.tmp 15) rfl w.heap.size u3 k css.flatten rfl hcr w2.heap.size #[.slice A2 x.length c2] rfl HG2.out rfl (by simp[Value.oneCell']) (by omega) (by simp;omega) _ rfl ?_;intro g' cap w7 hr7 hg7 hat7 hlt7);have hX:cIs.lies (fun b=>(fun b=>w.heap.size<=b) b/\Value.ownBlock u3≠some b) _ [.slice A2 x.length c2] x:=⟨A2,c2,rfl,HI2.out.mono fun b _ hb=>⟨by show w.heap.size<=b;omega,fun e=>by have:=(HLT.out b e).2;omega⟩⟩;have hr7':=hr7;rw[<-HTL.out] at hr7';have HO7:=zH (OwnX.app yQ hcl hcs hX hr7' hg7 hat7);rw[<-hst.out,HTL.out] at HO7;have HB7:Hid (Below w.heap.size w w7):=(HB.out.trans (HB2.out.mono hbs)).grown hg7 (by simp;omega) (fun b hb=>(HLT.out b hb).1);clear hr7 hr7' hg7 hat7 hX hcs hcr hcl
   go_roundw
   case rel=>exact⟨k+1,by omega,by go_num,HO7,HB7⟩
   case measure=>simp[intOf];omega
end
section
open Go.RowKit
def f0(inp:List Int):Nat->Vw:=fun p=>yP p (inp.getD p 0)
def fk(word:List Rd)(k:Nat)(row:List Int):Nat->Vw:=fun p=>ql (word.getD k default) (k+1) p row
structure PlIn(B bB bM N:Nat)(V0:Value)(w0:Ba)(vs:List Vw)(inp:List Int)(word:List Rd)(k:Nat)(V1 o:Value)(gk:Nat)(W:Ba):Prop where
 bd:BdIn B bB bM N V1 (zA vs N inp word k).1 W
 on:BdOn bB bM V0 w0 V1 W
 out:OwnX cIs (fun b=>w0.heap.size<=b/\V1.ownBlock≠some b) W w0.heap.size o (zA vs N inp word k).2
 no:∀b,V1.ownBlock=some b->o.ownBlock≠some b
 row:RowAt W gk ((zA vs N inp word k).2.getD k [])
 gl:w0.heap.size<=gk
 ng:V1.ownBlock≠some gk
 og:o.ownBlock≠some gk
 lt:bB<w0.heap.size/\bM<w0.heap.size
theorem rowk_len(vs:List Vw)(N:Nat)(inp:List Int)(word:List Rd)(k:Nat):((zA vs N inp word k).2.getD k []).length=N:=by
 have hl:=yy vs N inp word k;rw[Lj,Lm (by omega)];exact qS vs N inp word k _ (Ld _)
section
variable {B bB bM N:Nat} {V0:Value} {w0:Ba} {vs:List Vw} {inp:List Int} {word:List Rd}
theorem PlIn.start{V1:Value}{gN:Nat}{W:Ba}(_hN:N<=5)(h:RwIn B bB bM N V0 w0 gN (f0 inp) vs N V1 W)(hl:bB<w0.heap.size/\bM<w0.heap.size) :
  PlIn B bB bM N V0 w0 vs inp word 0 V1 (.slice (some ⟨W.heap.size,0,none⟩) 1 1) gN (W.alloc (.cells #[.slice (some ⟨gN,0,none⟩) N N] 44)):=by
 have hrl:=xR (f0 inp) vs N;have hgl:=h.row.lt;have hb:=zW W (.cells #[.slice (some ⟨gN,0,none⟩) N N] 44);have hrow:=h.row;rw[NN,List.replicate_zero,Nf] at hrow;refine⟨h.bd.on hb,h.on.after hb,⟨[[.slice (some ⟨gN,0,none⟩) N N]],rfl,?_,fun i i1 i2=>?_⟩,fun b e e2=>?_,Lb hb hgl hrow,h.ng,h.ne,fun e=>?_,hl⟩
 . refine OwnR.of_block (K:=kIs) (n:=1) (zw W _) ?_ rfl (by unfold maxLen;omega)
   have:=h.on.1.size;omega
 . obtain rfl:i=0:=by simp at i1;omega
   refine⟨some ⟨gN,0,none⟩,N,?_,?_⟩
   . show [Value.slice (some ⟨gN,0,none⟩) N N]=[.slice (some ⟨gN,0,none⟩) (yl (f0 inp) vs N).2.length N]
     rw[hrl]
   . intro _
     refine⟨gN,0,rfl,⟨⟨h.ng,h.ne⟩,fun e=>?_⟩,by simp;omega,fun j hj=>?_⟩
     . have:W.heap.size=gN:=by simpa[Value.ownBlock] using e
       omega
     . rw[LH];exact RowAt.cell (Lb hb hgl hrow) j hj
 . have h1:W.heap.size=b:=by simpa[Value.ownBlock] using e2
   have:=(h.bd.own.lt b e).2;omega
 . have h1:W.heap.size=gN:=by simpa[Value.ownBlock] using e
   omega
theorem PlIn.outn{k:Nat}{V1 o:Value}{gk:Nat}{W Wx:Ba}{gX:Nat}{f:Nat->Vw}{V3:Value}{p:Nat}{W3:Ba}(h:PlIn B bB bM N V0 w0 vs inp word k V1 o gk W)(hx:Below W.heap.size W Wx)
  (r:RwIn B bB bM N V1 Wx gX f (zA vs N inp word k).1 p V3 W3) :
  OwnX cIs (fun b=>w0.heap.size<=b/\V3.ownBlock≠some b) W3 w0.heap.size o (zA vs N inp word k).2/\(∀b,V3.ownBlock=some b->o.ownBlock≠some b):=by
 have hsx:=hx.size;have hol:=h.out.lt
 have h1:OwnX cIs (fun b=>(w0.heap.size<=b/\V1.ownBlock≠some b)/\V3.ownBlock≠some b) Wx w0.heap.size o (zA vs N inp word k).2:=
  (h.out.below yQ hx (Le _)).mono yQ fun b hb hs=>⟨hs,fun e=>by
   rcases r.on.2 b e with e | e
   . exact hs.2 e
   . omega⟩
 refine⟨(h1.keep yQ (r.on.1.keep fun b _ hs hr=>?_) fun b hb=>r.on.1.block b (by have:=(hol b hb).2;omega) fun hr=>?_).mono yQ fun b _ hs=>⟨hs.1.1,hs.2⟩,fun b e e2=>?_⟩
 . rcases hr with e | e | e
   . have:=h.lt.1;have:=hs.1.1;omega
   . have:=h.lt.2;have:=hs.1.1;omega
   . exact hs.1.2 e
 . have:=(hol b hb).1
   rcases hr with e | e | e
   . have:=h.lt.1;omega
   . have:=h.lt.2;omega
   . exact h.no b e hb
 . rcases r.on.2 b e with e | e
   . exact h.no b e e2
   . have:=(hol b e2).2;omega
theorem PlIn.rown{k:Nat}{V1 o:Value}{gk:Nat}{W Wx:Ba}{gX:Nat}{f:Nat->Vw}{V3:Value}{p:Nat}{W3:Ba}(h:PlIn B bB bM N V0 w0 vs inp word k V1 o gk W)(hx:Below W.heap.size W Wx)
  (r:RwIn B bB bM N V1 Wx gX f (zA vs N inp word k).1 p V3 W3):RowAt W3 gk ((zA vs N inp word k).2.getD k []):=by
 have hsx:=hx.size;have hgl:=h.row.lt;refine(r.on.1.block gk (by omega) fun hr=>?_).trans (Lb hx hgl h.row);have:=h.gl;rcases hr with e | e | e
 . have:=h.lt.1;omega
 . have:=h.lt.2;omega
 . exact h.ng e
theorem PlIn.next{k:Nat}{V1 o:Value}{gk:Nat}{W Wx:Ba}{gX:Nat}{V3:Value}{W3 W4 w5:Ba}{css:List (List Value)}{g' cap:Nat}(h:PlIn B bB bM N V0 w0 vs inp word k V1 o gk W)(hx:Below W.heap.size W Wx)
  (r:RwIn B bB bM N V1 Wx gX (fk word k ((zA vs N inp word k).2.getD k [])) (zA vs N inp word k).1 N V3 W3) (h4:Below W3.heap.size W3 W4)
  (hcl:css.length=(zA vs N inp word k).2.length) (hcs:∀(i:Nat) (h1:i<css.length) (h2:i<(zA vs N inp word k).2.length),cIs.lies (fun b=>(w0.heap.size<=b/\V3.ownBlock≠some b)/\o.ownBlock≠some b) W4 css[i] (zA vs N inp word k).2[i])
  (hr:OwnR kIs w5 w0.heap.size (.slice (some ⟨g',0,none⟩) ((zA vs N inp word k).2.length+1) cap) ((zA vs N inp word k).2.length+1) (css.flatten++[.slice (some ⟨gX,0,none⟩) N N]))
  (hg:W4.grownBy w5 o.ownBlock) (hat:o.ownBlock=some g'\/g'=W4.heap.size) :
  PlIn B bB bM N V0 w0 vs inp word (k+1) V3 (.slice (some ⟨g',0,none⟩) ((zA vs N inp word k).2.length+1) cap) gX w5:=by
 obtain⟨ho3,hno⟩:=h.outn hx r;have hrl:=xR (fk word k ((zA vs N inp word k).2.getD k [])) (zA vs N inp word k).1 N;have hgl:=r.row.lt;have hs4:=h4.size;have hsx:=hx.size;have hol:=ho3.lt;have hlW:=h.on.1.size;have hxg:=r.ng
 have hogX:o.ownBlock≠some gX:=fun e=>by
  have:=(h.out.lt gX e).2;omega
 have hrow:=r.row;rw[NN,List.replicate_zero,Nf] at hrow;have hrow5:RowAt w5 gX (yl (fk word k ((zA vs N inp word k).2.getD k [])) (zA vs N inp word k).1 N).2:=(hg.block gX (by omega) (fun e=>hogX e.symm)).trans (Lb h4 hgl hrow);have e1:(zA vs N inp word (k+1)).2=(zA vs N inp word k).2++[(yl (fk word k ((zA vs N inp word k).2.getD k [])) (zA vs N inp word k).1 N).2]:=rfl;have hlen:=yy vs N inp word k
 have hV3:V3.ownBlock≠some g':=fun e=>by
  rcases hat with e2 | e2
  . exact hno g' e e2
  . have:=(r.bd.own.lt g' e).2;omega
 have hX:cIs.lies (fun b=>(w0.heap.size<=b/\V3.ownBlock≠some b)/\o.ownBlock≠some b) W4 [.slice (some ⟨gX,0,none⟩) N N] (yl (fk word k ((zA vs N inp word k).2.getD k [])) (zA vs N inp word k).1 N).2:=by
  refine⟨some ⟨gX,0,none⟩,N,by rw[hrl],fun _=>⟨gX,0,rfl,⟨⟨by omega,r.ne⟩,hogX⟩,by omega,fun j hj=>?_⟩⟩;rw[LH];exact RowAt.cell (Lb h4 hgl hrow) j hj
 refine⟨?_,?_,?_,?_,?_,by omega,r.ne,?_,h.lt⟩
 . refine(r.bd.on h4).grown hg (fun e=>?_) (fun e=>?_) (fun b hb e=>hno b hb e)
   . have:=(hol bB e).1;have:=h.lt.1;omega
   . have:=(hol bM e).1;have:=h.lt.2;omega
 . exact((h.on.after hx).trans (r.on.after h4)).grown hg (fun j hj=>(hol j hj).1)
 . rw[e1]
   exact OwnX.app yQ hcl hcs hX hr hg hat
 . intro b hb e
   have:g'=b:=by simpa[Value.ownBlock] using e
   subst this;exact hV3 hb
 . rw[e1,Lj,LM (by omega),hlen,NN]
   exact hrow5
 . intro e
   have:g'=gX:=by simpa[Value.ownBlock] using e
   subst this;rcases hat with e2 | e2
   . exact hogX e2
   . omega
end
def xW(r:Rd)(p:Nat)(row:List Int)(q j:Nat):Int:=if j<q then yc r p row j else -1
def kH(r:Rd)(k p:Nat)(row:List Int)(q:Nat):Vw:=⟨p,k,0,xW r p row q 0,xW r p row q 1,xW r p row q 2,xW r p row q 3,xW r p row q 4⟩
theorem heardQ_end(r:Rd)(p:Nat)(row:List Int)(j:Nat):xW r p row row.length j=yc r p row j:=by
 unfold xW yc
 split
 . rfl
 . rename_i h;rw[Lg (fun h2=>h h2.1)]
theorem seenQ_end(r:Rd)(k p:Nat)(row:List Int):kH r k p row row.length=ql r k p row:=by
 unfold kH ql;simp only[heardQ_end]
theorem gc(r:Rd)(p:Nat)(row:List Int)(q j:Nat)(h:j≠q):xW r p row (q+1) j=xW r p row q j:=by
 unfold xW
 by_cases h1:j<q
 . rw[Lh h1,Lh (by omega)]
 . rw[Lg h1,Lg (by omega)]
theorem seenQ_no(r:Rd)(k p:Nat)(row:List Int)(q:Nat)(h:(r.h p).toNat.testBit q=false):kH r k p row (q+1)=kH r k p row q:=by
 have key:∀j,xW r p row (q+1) j=xW r p row q j:=fun j=>by
  by_cases e:j=q
  . subst e
    have h1:yc r p row j=-1:=by unfold yc;rw[Lg (fun h2=>by rw[h] at h2;cases h2.2)]
    unfold xW;rw[Lh (by omega),Lg (by omega),h1]
  . exact gc r p row q j e
 unfold kH;simp only[key]
theorem seenQ_yes(r:Rd)(k p:Nat)(row:List Int)(q:Nat)(hq:q<row.length)(h5:q<5)(h:(r.h p).toNat.testBit q=true):(kH r k p row q).cells.setIfInBounds (3+q) (.int .i64 row[q])=(kH r k p row (q+1)).cells:=by
 have e:xW r p row (q+1) q=row[q]:=by
  unfold xW;rw[Lh (by omega)];unfold yc;rw[Lh ⟨hq,h⟩,Lj,Lm hq];rfl
 have key:=fun j (h:j≠q)=>gc r p row q j h
 unfold kH Vw.cells
 match q,h5 with
 | 0,_=>simp only[key 1 (by decide),key 2 (by decide),key 3 (by decide),key 4 (by decide),e];rfl
 | 1,_=>simp only[key 0 (by decide),key 2 (by decide),key 3 (by decide),key 4 (by decide),e];rfl
 | 2,_=>simp only[key 1 (by decide),key 0 (by decide),key 3 (by decide),key 4 (by decide),e];rfl
 | 3,_=>simp only[key 1 (by decide),key 2 (by decide),key 0 (by decide),key 4 (by decide),e];rfl
 | 4,_=>simp only[key 1 (by decide),key 2 (by decide),key 3 (by decide),key 0 (by decide),e];rfl
theorem Rd.cells_h(r:Rd)(p:Nat)(hp:p<5):r.cells[1+p]?=some (.int .i64 (r.h p)):=by
 match p,hp with
 | 0,_=>rfl
 | 1,_=>rfl
 | 2,_=>rfl
 | 3,_=>rfl
 | 4,_=>rfl
theorem Q5{h j:Nat}(hh:h<32)(hj:j<5):(bits BinOp.and IntKind.i64 ((h:Int) / 2^j) 1==1)=h.testBit j:=by
 match j,hj with
 | 0,_=>exact LF (jk (p:=fun h=>decide ((bits BinOp.and IntKind.i64 ((h:Int) / 2^0) 1==1)=h.testBit 0)) (by decide +kernel) hh)
 | 1,_=>exact LF (jk (p:=fun h=>decide ((bits BinOp.and IntKind.i64 ((h:Int) / 2^1) 1==1)=h.testBit 1)) (by decide +kernel) hh)
 | 2,_=>exact LF (jk (p:=fun h=>decide ((bits BinOp.and IntKind.i64 ((h:Int) / 2^2) 1==1)=h.testBit 2)) (by decide +kernel) hh)
 | 3,_=>exact LF (jk (p:=fun h=>decide ((bits BinOp.and IntKind.i64 ((h:Int) / 2^3) 1==1)=h.testBit 3)) (by decide +kernel) hh)
 | 4,_=>exact LF (jk (p:=fun h=>decide ((bits BinOp.and IntKind.i64 ((h:Int) / 2^4) 1==1)=h.testBit 4)) (by decide +kernel) hh)
theorem wZ{r:Rd}(h:yJ r=0)(p:Nat)(hp:p<5):0<=r.h p/\r.h p<32:=by
 unfold yJ at h
 split at h
 . cases h
 . rename_i hn
   have hn1:1<=r.n/\r.n<=5:=by omega
   have key:∀k,k<=5->yC r (5-k) k=0->∀q,k<=q->q<5->xN r.n q (r.h q)=0:=by
    intro k hk
    induction hm:5-k generalizing k with
    | zero=>intro _ q h1 h2;omega
    | succ m ih=>
     intro hz q h1 h2;unfold yC at hz
     split at hz
     . rename_i hne;exact absurd hz hne
     . rename_i hne
       by_cases e:q=k
       . subst e;simpa using hne
       . exact ih (k+1) (by omega) (by omega) hz q (by omega) h2
   have h1:=key 0 (by omega) h p (by omega) hp;unfold xN at h1
   split at h1
   . split at h1
     . cases h1
     . rename_i h2;have:r.h p=0:=by simpa using h2
       omega
   . split at h1
     . cases h1
     . rename_i h2
       have h3:(2^r.n.toNat-1:Nat)<32:=by
        have:2^r.n.toNat<=2^5:=Ni (by omega) (by omega);omega
       omega
end
section
open Go.RowKit
attribute [local go_sem] Oper.semAt_some
theorem play_any(B bB bM N:Nat)(h1:1<=N)(h5:N<=5)(V:Value)(vs:List Vw)(hvs:vs.length<=40000)(inp:List Int)(hin:inp.length=N)(word:List Rd)(hk6:word.length<=6)(hwd:∀r∈word,yi r=0/\r.n=N)
  (A AW:Bb) (ci cw:Nat) (w:Ba) (hBw:B<=w.heap.size) (H:BdIn B bB bM N V vs w) (hI:IAt w B A inp) (hW:RAt w B AW word) :
  Calls Tryz.prog 99 #[.pointer (some ⟨bB,0,none⟩),.slice A inp.length ci,.slice AW word.length cw] w fun e w'=>∃v V',e=.returned v/\BdIn B bB bM N V' (zA vs N inp word word.length).1 w'/\BdOn bB bM V w V' w' /\
   OwnX cIs (fun b=>w.heap.size<=b/\V'.ownBlock≠some b) w' w.heap.size v (zA vs N inp word word.length).2/\∀b,V'.ownBlock=some b->v.ownBlock≠some b:=by
 have HI:=zH hI;have HW:=zH hW;have HWD:=zH hwd;have HH:=zH H;have hmk:=uP N h1 (by omega);have HM:=zH hmk;obtain⟨ar,har⟩:=Ki (((List.replicate N 0).map (Value.int .i64)).toArray);rw[har] at hmk;have HAR:=zH har;have b0:=zh H.hB 0 rfl;have HIN:=zH hin;rw[hin];obtain⟨l1,l2,l3⟩:=H.lts;clear har hI hW hwd H hin l3;go_enter Tryz.func99,Tryz.ntmps99;go_wp2_with fail;obtain⟨w1,hw1,d0,hs1,hB1⟩:=zn w ar 3;rw[hw1]
 have R1:Hid (RwIn B bB bM N V w w.heap.size (f0 inp) vs 0 V w1):=
  ⟨HH.out.on hB1,by show w1.heap[w.heap.size]?=_;rw[d0,<-HAR.out];rfl,(BdOn.refl _ _ _ _).after hB1,fun e=>by have:=(HH.out.own.lt _ e).2;omega,Le _,by omega,by omega⟩
 clear hw1 d0 hB1 b0
 go_loopw [24] (fun i wr=>∃(p:Nat) (V1:Value),p<=N/\i=.int .i64 (p:Int)/\Hid (RwIn B bB bM N V w w.heap.size (f0 inp) vs p V1 wr)) (fun i _=>N-(intOf i).toNat)
 case atStart=>exact⟨0,V,by omega,rfl,R1.out⟩
 case round=>
  clear R1;obtain⟨p,V1,hp,rfl,HR⟩:=hrel
  by_cases hpN:p<N
  case neg=>
   obtain rfl:N=p:=by omega
   go_wp2_with fail;have P0:=zH (PlIn.start (word:=word) h5 HR.out ⟨l1,l2⟩);obtain⟨W1,hW1⟩:=Ki (wr.alloc (.cells #[.slice (some ⟨w.heap.size,0,none⟩) N N] 44));rw[hW1] at P0 ⊢;obtain⟨g0,hg0⟩:=Ki wr.heap.size;rw[hg0] at P0 ⊢;obtain⟨gn,hgn⟩:=Ki w.heap.size;rw[hgn];have P0:Hid (PlIn B bB bM N V w vs inp word 0 V1 (.slice (some ⟨g0,0,none⟩) 1 1) gn W1):=by rw[<-hgn];exact P0.out
   clear hW1 hg0 hgn HR HI HIN
   go_loopw [7,9,44] (fun nw o i wr=>∃(k:Nat) (V1:Value) (gk:Nat),k<=word.length/\nw=.slice (some ⟨gk,0,none⟩) N N/\i=.int .i64 (k:Int)/\Hid (PlIn B bB bM N V w vs inp word k V1 o gk wr)) (fun _ _ i _=>word.length-(intOf i).toNat)
   case atStart=>exact⟨0,V1,gn,by omega,rfl,rfl,P0.out⟩
   case round=>
    clear P0;obtain⟨k,V2,gk,hk,rfl,rfl,HP⟩:=hrel
    by_cases hkl:k<word.length
    case neg=>
     obtain rfl:k=word.length:=by omega
     go_wp2_with fail;go_ret;exact⟨_,V2,rfl,HP.out.bd,HP.out.on,HP.out.out,HP.out.no⟩
    case pos=>
     obtain⟨bw,ow,e1,hbw,c0,c1,c2,c3,c4,c5,c6⟩:=(HW.out.keep (HP.out.on.bel HH.out)).row k hkl;subst e1;have hrd:=HWD.out _ (Ld hkl);have hgd:word.getD k default=word[k]:=by rw[Lj,Lm hkl];rfl
     obtain⟨r,hr⟩:=Ki (word[k]);rw[hr] at c0 c1 c2 c3 c4 c5 c6 hrd hgd;have HGD:=zH hgd;have HRD:=zH (qR hrd.1).2.2.1;have hk0:(0:Int)<=(k:Int):=by omega
     have hk1:(k:Int)<(word.length:Int):=by omega
     have hkw:IntKind.i64.wrap ((k:Int)+1)=(k:Int)+1:=by rw[Lp];omega
     have b0:wr.cell? ⟨bB,0,none⟩=some (.int .i64 (N:Int)):=zh HP.out.bd.hB 0 rfl;have hbBw:bB<wr.heap.size:=HP.out.bd.lts.1;have hbww:bw<wr.heap.size:=by have:=HP.out.on.1.size;omega
     clear hr hrd hgd;go_wp2_with fail;clear c0 c1 c2 c3 c4 c5 c6 b0;obtain⟨W1,hW1,g0,hsz1,hBx⟩:=zn wr r.cells 92;unfold Rd.cells at hW1;rw[hW1];obtain⟨W2,hW2,x0,hsz2,hBy⟩:=zn W1 ar 3;rw[hW2];rw[hsz1] at x0;clear hW1 hW2;have HG0:=zH g0;have HBX:=zH hBx;obtain⟨row,hrow⟩:=Ki ((zA vs N inp word k).2.getD k []);have HROW:=zH hrow;have HRL:Hid (row.length=N):=by rw[<-hrow];exact rowk_len vs N inp word k
     have hll:=HP.out.lt;have hw0:=HP.out.on.1.size
     have R0:Hid (RwIn B bB bM N V2 W1 (wr.heap.size+1) (fk word k row) (zA vs N inp word k).1 0 V2 W2):=
      ⟨(HP.out.bd.on hBx).on hBy,by show W2.heap[_]?=_;rw[x0,<-HAR.out];rfl,(BdOn.refl _ _ _ _).after hBy,fun e=>by have:=(HP.out.bd.own.lt _ e).2;omega,by omega,by omega,by omega⟩
     have HPF:=zH (kJ vs N inp word k)
     have hNk:(k+1)*N<=35:=by
      have:=LO (show k+1<=7 by omega) h5;omega
     clear x0 hBy hrow hBx g0;obtain⟨wo,rfl⟩:∃x,x=wr:=⟨_,rfl⟩
     go_loopw [56] (fun i wx=>∃(q:Nat) (V3:Value),q<=N/\i=.int .i64 (q:Int)/\Hid (RwIn B bB bM N V2 W1 (wo.heap.size+1) (fk word k row) (zA vs N inp word k).1 q V3 wx)) (fun i _=>N-(intOf i).toNat)
     case atStart=>exact⟨0,V2,by omega,rfl,R0.out⟩
     case round=>
      clear R0;obtain⟨q,V3,hq,rfl,HR⟩:=hrel
      by_cases hqN:q<N
      case neg=>
       obtain rfl:N=q:=by omega
       have ho3:=HP.out.outn HBX.out HR.out;have hlen:=yy vs N inp word k;have hgX:=HR.out.row.lt;have HG4:=zH (zw wr (.cells #[.slice (some ⟨wo.heap.size+1,0,none⟩) N N] 44));have HO4:=zH (ho3.1.below yQ (zW wr (.cells #[.slice (some ⟨wo.heap.size+1,0,none⟩) N N] 44)) (Le _));have HL:=zH hlen;have hwr0:w.heap.size<=wr.heap.size:=by have:=HR.out.on.1.size;omega
       clear ho3 hlen;go_wp2_with (at_builtin;obtain⟨css,hcl,hcr,hcs⟩:=HO4.out;rw[HL.out] at hcr;refine xx XB rfl (.tmp 92) (.tmp 94) rfl w.heap.size u9 (k+1) css.flatten rfl hcr wr.heap.size #[.slice (some ⟨wo.heap.size+1,0,none⟩) N N] rfl HG4.out rfl (by simp[Value.oneCell']) (by omega) (by simp;omega) _ rfl ?_;intro g' cap w7 hr7 hg7 hat7 hlt7);have HRX:=HR.out;rw[<-HROW.out] at HRX;have hr7':=hr7;rw[<-HL.out] at hr7';have HPN:=zH (PlIn.next HP.out HBX.out HRX (zW wr _) hcl hcs hr7' hg7 hat7);rw[HL.out] at HPN;clear hr7 hr7' hg7 hat7 hcs hcr hcl HRX
       go_roundw
       case rel=>exact⟨k+1,V3,wo.heap.size+1,by omega,rfl,by go_num,HPN⟩
       case measure=>simp[intOf];omega
      case pos=>
       go_wp2_with fail;refine(wH wr).mono ?_;rintro e w3 ⟨rfl,hb3⟩;have R3:=zH (HR.out.on_ hb3);go_wp2_with fail;obtain⟨W4,hW4,v0,hsz4,hB4⟩:=zn w3 (kH r (k+1) q row 0).cells 128;have hW4':w3.alloc (.cells #[.int .i64 (q:Int),.int .i64 ((k:Int)+1),.int .i64 0,.int .i64 (-1),.int .i64 (-1),.int .i64 (-1),.int .i64 (-1),.int .i64 (-1)] 128)=W4:=by rw[<-hW4];rfl
       rw[hW4'];have hs3:=hb3.size;clear hW4 hW4' hb3;have hg0w:wo.heap.size<w3.heap.size:=by have:=HR.out.on.1.size;omega
       have HG3:Hid (w3.heap[wo.heap.size]?=some (.cells r.cells 92 (0,0))):=by
        refine(R3.out.on.1.block wo.heap.size (by omega) fun hr=>?_).trans HG0.out;have:=HP.out.bd.lts;rcases hr with e | e | e
        . omega
        . omega
        . have:=(this.2.2 _ e).2;omega
       have HROW3:Hid (RowAt w3 gk row):=by have:=HP.out.rown HBX.out R3.out;rw[HROW.out] at this;exact this
       obtain⟨wp,rfl⟩:∃x,x=wr:=⟨_,rfl⟩
       go_loopw [66] (fun i wy=>∃j:Nat,j<=N/\i=.int .i64 (j:Int)/\Hid (wy.heap[w3.heap.size]?=some (.cells (kH r (k+1) q row j).cells 128 (0,0)))/\Hid (Below w3.heap.size w3 wy)) (fun i _=>N-(intOf i).toNat)
       case atStart=>exact⟨0,by omega,rfl,v0,hB4⟩
       case round=>
        clear v0 hB4 hsz4;obtain⟨j,hj,rfl,HV,HBy⟩:=hrel
        by_cases hjN:j<N
        case neg=>
         obtain rfl:N=j:=by omega
         have hfk:fk word k row q=kH r (k+1) q row N:=by
          have:=seenQ_end r (k+1) q row;rw[HRL.out] at this;rw[this];show ql (word.getD k default) (k+1) q row=_;rw[HGD.out]
         obtain⟨vw,hvw⟩:=Ki (kH r (k+1) q row N);rw[hvw] at HV hfk;have x0:wr.cell? ⟨w3.heap.size,0,none⟩=some (.int .i64 vw.p):=zh HV.out 0 rfl;have x1:wr.cell? ⟨w3.heap.size,1,none⟩=some (.int .i64 vw.r):=zh HV.out 1 rfl;have x2:wr.cell? ⟨w3.heap.size,2,none⟩=some (.int .i64 vw.i):=zh HV.out 2 rfl;have x3:wr.cell? ⟨w3.heap.size,3,none⟩=some (.int .i64 vw.h0):=zh HV.out 3 rfl;have x4:wr.cell? ⟨w3.heap.size,4,none⟩=some (.int .i64 vw.h1):=zh HV.out 4 rfl;have x5:wr.cell? ⟨w3.heap.size,5,none⟩=some (.int .i64 vw.h2):=zh HV.out 5 rfl;have x6:wr.cell? ⟨w3.heap.size,6,none⟩=some (.int .i64 vw.h3):=zh HV.out 6 rfl;have x7:wr.cell? ⟨w3.heap.size,7,none⟩=some (.int .i64 vw.h4):=zh HV.out 7 rfl;have R4:=R3.out.on_ HBy.out;have hsq:=kI (fk word k row) (zA vs N inp word k).1 q;have HAD:=zH (Ja B bB bM N V3 (yl (fk word k row) (zA vs N inp word k).1 q).1 vw (by have:=HPF.out;omega) wr R4.bd);have HR4:=zH R4;have HFK:=zH hfk;have hq0:(0:Int)<=(q:Int):=by omega
         have hq1:(q:Int)<(N:Int):=by omega
         clear hvw R4 hsq hfk;go_wp2_with fail;refine HAD.out.mono ?_;rintro e w5 ⟨rfl,V5,hd5,ho5⟩;have hm5:=HR4.out.mid ho5;rw[<-HFK.out] at hd5;have HS5:=zH (HR4.out.step hqN hd5 ho5);rw[HFK.out] at HS5;obtain⟨u5,c5⟩:∃u:Int,w5.cell? ⟨wo.heap.size+1,q,none⟩=some (.int .i64 u):=⟨_,hm5.1.cell q (by rw[Lv,xR,LB];omega)⟩;have y5:=hm5.1.froz q;clear hm5 hd5 ho5 HAD x0 x1 x2 x3 x4 x5 x6 x7;go_wp2_with fail
         go_roundw
         case rel=>exact⟨q+1,V5,by omega,by go_num,HS5⟩
         case measure=>simp[intOf];omega
        case pos=>
         have hgk3:=HROW3.out.lt;have hjr:j<row.length:=by have:=HRL.out;omega
         have n0:=(HBy.out.cell (p:=⟨gk,j,none⟩) hgk3).trans (HROW3.out.cell j hjr);have m0:wr.cell? ⟨wo.heap.size,1+q,none⟩=some (.int .i64 (r.h q)):=(HBy.out.cell (p:=⟨wo.heap.size,1+q,none⟩) hg0w).trans (zh HG3.out (1+q) (Rd.cells_h r q (by omega)));obtain⟨y,hy⟩:=Ki (row[j]);rw[hy] at n0;have HYY:=zH hy;have hsm:=wZ HRD.out q (by omega);obtain⟨h,hh⟩:=Lr hsm.1;have hh32:h<32:=by omega
         have HHH:=zH hh;rw[hh] at m0;have hj0:(0:Int)<=(j:Int):=by omega
         have hj1:(j:Int)<(N:Int):=by omega
         have hj5:(j:Int)<5:=by omega
         have hq0:(0:Int)<=(q:Int):=by omega
         have hq5:(q:Int)<5:=by omega
         have hbt:=Q5 hh32 (show j<5 by omega);have hrt:(r.h q).toNat=h:=by rw[hh];rfl
         have HNO:=zH (seenQ_no r (k+1) q row j);have HYES:=zH (seenQ_yes r (k+1) q row j hjr (by omega));rw[hrt,hy] at HYES;rw[hrt] at HNO;have z0:wr.cell? ⟨w3.heap.size,3+j,none⟩=some (.int .i64 ((kH r (k+1) q row j).h j)):=zh HV.out (3+j) (Vw.cells_h _ j (by omega));have zf:=zi HV.out (3+j);clear hy hsm hh hrt
         by_cases hb:h.testBit j=true
         case pos=>
          rw[hb] at hbt;have HS:=zH (HYES.out hb);clear HNO HYES hb;go_wp2_with fail
          go_roundw
          case rel=>exact⟨j+1,by omega,by go_num,by show _=_;rw[Ll wr _ (3+j) _ _ _ HV.out,HS.out],HBy.out.setCell (Le _) _⟩
          case measure=>simp[intOf];omega
         case neg=>
          have hb2:h.testBit j=false:=by simpa using hb
          rw[hb2] at hbt;have HS:=zH (HNO.out hb2);clear HNO HYES hb hb2;go_wp2_with fail
          go_roundw
          case rel=>exact⟨j+1,by omega,by go_num,by show _=_;rw[HS.out];exact HV.out,HBy.out⟩
          case measure=>simp[intOf];omega
  case pos=>
   have hin:=HIN.out;obtain⟨bi,oi,e1,hbi,i0⟩:=(HI.out.keep (HR.out.on.bel HH.out)).at_ p (by omega);subst e1;have hip:Hid ((f0 inp) p=yP p inp[p]):=by show yP p (inp.getD p 0)=_;rw[Lj,Lm (by omega)];rfl
   obtain⟨x,hx⟩:=Ki (inp[p]);rw[hx] at i0 hip;have hp0:(0:Int)<=(p:Int):=by omega
   have hp1:(p:Int)<(N:Int):=by omega
   have hbl:bi<wr.heap.size:=by have:=HR.out.row.lt;omega
   clear hx hin;go_wp2_with fail;have b0:=HR.out.bd.hB;have HSZ:=zH (kI (f0 inp) vs p)
   refine zz [(0,true),(1,true),(2,true),(3,true),(4,true),(5,true),(6,true),(7,true),(8,false),(9,false),(10,false),(11,false),(12,false)]
    (fun W=>W.cell? ⟨bi,oi+p,none⟩=some (.int .i64 x)) (by kernel_rfl) (by kernel_rfl) (by exact i0) ?_
   repeat
    apply zG rfl
    . rintro K' hK' W y0
      go_simp;exact hK'
   refine zE rfl ?_;intro K' hK';go_simp;refine(wH wr.drew).mono ?_;rintro e w3 ⟨rfl,hb3⟩;have hb3:Below wr.heap.size wr w3:=Q7 hb3;have R3:=HR.out.on_ hb3;have i3:=(hb3.cell (p:=⟨bi,oi+p,none⟩) hbl).trans i0;refine hK' _ _ i3 ?_;clear hK' K';refine zE rfl ?_;intro K' hK';go_simp;refine hK' _ _ i3 ?_;clear hK' K';refine zE rfl ?_;intro K' hK';go_simp;refine(Ja B bB bM N V1 (yl (f0 inp) vs p).1 (yP p x) (by have:=HSZ.out;omega) w3 R3.bd).mono ?_;rintro e w4 ⟨rfl,V4,hd4,ho4⟩;have hm4:=R3.mid ho4;rw[<-hip.out] at hd4;have HS4:=zH (R3.step hpN hd4 ho4);rw[hip.out] at HS4
   have i4:w4.cell? ⟨bi,oi+p,none⟩=some (.int .i64 x):=by
    refine(LA (ho4.1.block bi (by have:=hb3.size;omega) fun hr=>?_)).trans i3;have hlo:=HR.out.bd.lo;rcases hr with e | e | e
    . omega
    . omega
    . have:=(R3.bd.own.lt bi e).1;omega
   refine hK' _ _ i4 ?_;clear hK' K';obtain⟨u4,c4⟩:∃u:Int,w4.cell? ⟨w.heap.size,p,none⟩=some (.int .i64 u):=⟨_,hm4.1.cell p (by rw[Lv,xR,LB];omega)⟩;have y4:=hm4.1.froz p;have hgl:=hm4.1.lt;clear hm4 hd4 ho4 R3 hb3;refine zE rfl ?_;intro K' hK';go_simp;refine hK' _ _ i4 ?_;clear hK' K';refine xa rfl (by kernel_rfl) ?_;intro K' hK';go_simp;refine hK' (fun _=>True) _ _ trivial ?_;refine zQ ?_;clear hK' K' c4 y4 i4 i3;go_wp2_with fail
   go_roundw
   case rel=>exact⟨p+1,V4,by omega,by go_num,HS4⟩
   case measure=>simp[intOf];omega
end
section
open Go.RowKit Go.Shelf
attribute [local go_sem] Oper.semAt_some
def zr(n:Nat):Nat->Nat->List (Nat×Nat)
 | _,0=>[]
 | i,m+1=>(List.range n).map (fun j=>(i,j))++zr n (i+1) m
def yS(n i j:Nat):List (Nat×Nat):=((List.range n).drop j).map fun j=>(i,j)
theorem vW{n i j:Nat}(h:j<n):yS n i j=(i,j)::yS n i (j+1):=by
 unfold yS;rw[Ly (by simpa using h)];simp
theorem wI(n i:Nat):yS n i n=[]:=by unfold yS;simp
theorem qc{n:Nat}:∀(m i:Nat) (x:Nat×Nat),x∈zr n i m->i<=x.1/\x.1<i+m/\x.2<n
 | 0,_,_,h=>by cases h
 | m+1,i,x,h=>by
  rcases Nd.1 h with h | h
  . obtain⟨j,hj,rfl⟩:=LX.1 h
    exact⟨Le _,by show i<_;omega,by simpa using hj⟩
  . obtain⟨a,b,c⟩:=qc m (i+1) x h
    exact⟨by omega,by omega,c⟩
theorem execs_any(p:Pb)(A:Bb)(kc:Nat)(SV:Bb)(ks:Nat)(V:Bb)(nw cw:Nat)(w:Ba):Calls Tryz.prog 97 #[.agg (p.vs A kc SV ks),.slice V nw cw] w fun e w'=>
  e=.returned (.func (.func 137) #[] #[.pointer (some ⟨w.heap.size,0,none⟩),.pointer (some ⟨w.heap.size+1,0,none⟩)])/\(w.alloc (.cells (p.vs A kc SV ks) 29)).alloc (.cells #[.slice V nw cw] 151)=w':=by
 unfold Pb.vs;go_enter Tryz.func97,Tryz.ntmps97;go_wp2;go_ret;exact⟨rfl,rfl⟩
def SlAt(w:Ba)(B:Nat)(AW:Bb)(nw:Nat)(sl:Nat->Value):Prop:=∀j,j<nw->∃b off,AW=some ⟨b,off,none⟩/\b<B/\w.cell? ⟨b,off+j,none⟩=some (sl j)
theorem SlAt.same{w w':Ba}{B:Nat}{AW:Bb}{nw:Nat}{sl:Nat->Value}(h:SlAt w B AW nw sl)(hk:∀k,k<B->w'.heap[k]?=w.heap[k]?):SlAt w' B AW nw sl:=fun j hj=>by
 obtain⟨b,off,e,hb,hc⟩:=h j hj;exact⟨b,off,e,hb,(LA (hk b hb)).trans hc⟩
theorem QV(C:Array Value)(M:Nat)(hf:M<=30)(A:Bb)(kc:Nat)(hC:C[3]?=some (.slice A M kc))(AW:Bb)(nw cw:Nat)(hnw:nw<=5000)(sl:Nat->Value)(B bp bw:Nat)(w:Ba)(hp:w.heap[bp]?=some (.cells C 29))(hw:w.heap[bw]?=some (.cells #[.slice AW nw cw] 151))
  (hS:SlAt w B AW nw sl) (hB:B<=w.heap.size) :
  Iter Tryz.prog 137 #[.pointer (some ⟨bp,0,none⟩),.pointer (some ⟨bw,0,none⟩)] (fun x:Nat×Nat=>#[.int .i64 x.1,sl x.2]) (fun k=>k<B\/k=bp\/k=bw) (zr nw 0 M) w:=fun n hn l J Jx W hW hJ hJx hY h0=>by
 have hbp:bp<w.heap.size:=(Ln.1 hp).1;have hbw:bw<w.heap.size:=(Ln.1 hw).1;have hp0:=(hW.block bp hbp).trans hp;have hw0:=(hW.block bw hbw).trans hw;have HS0:=zH (hS.same (w':=W) fun k hk=>hW.block k (by omega));have HY:=zH hY;have c3:=zh hp0 3 hC;have H0:=zH h0;have HP0:=zH hp0;have HW0:=zH hw0;have hBs:B<=W.heap.size:=Lz hB hW.size;have hpW:bp<W.heap.size:=LC hbp hW.size;have hwW:bw<W.heap.size:=LC hbw hW.size;clear hY hS hJ hJx h0 hp0 hw0 hp hw hW hB hbp hbw;refine callsIn_of_wp Tryz.func137 rfl trivial ?_ rfl;simp only[Tryz.ntmps137,List.size_toArray,List.length_cons,List.length_nil,Nat.reduceAdd,Nat.reduceSub,Array.replicate_succ,Array.replicate_zero,List.push_toArray,List.append_toArray,List.nil_append,List.cons_append];gi_wp2
 gi_loopw [11] (fun q wr=>∃s:Nat,s<=M/\q=.int .i64 (s:Int)/\∃pre:List { x:Nat×Nat // x∈zr nw 0 M },Hid (pre.map (·.1)++zr nw s (M-s)=zr nw 0 M)/\Hid (J pre wr)/\Hid (SlAt wr B AW nw sl)/\Hid (wr.heap[bp]?=some (.cells C 29))/\Hid (wr.heap[bw]?=some (.cells #[.slice AW nw cw] 151))/\W.heap.size<=wr.heap.size) (fun q _=>M-(intOf q).toNat)
 case atStart=>exact⟨0,by omega,rfl,[],by simp[Hid],H0,HS0,HP0,HW0,Le _⟩
 case round=>
  obtain⟨s,hs,rfl,pre,hpr,hJ0,hSr,hPr,hWr,hsz⟩:=hrel;clear c3 HP0 HW0 HS0 H0
  by_cases hlt:s<M
  · have hdr : zr nw s (M - s) = yS nw s 0 ++ zr nw (s + 1) (M - (s + 1)) := by
     rw[show M-s=(M-(s+1))+1 by omega,zr];unfold yS;rw[L4]
    have HP:Hid (pre.map (·.1)++(yS nw s 0++zr nw (s+1) (M-(s+1)))=zr nw 0 M):=by rw[<-hdr];exact hpr.out
    have q0:=zh hWr.out 0 rfl;clear hdr hpr;gi_wp2_with fail
    gi_loopw [16] (fun q wr=>∃j:Nat,j<=nw/\q=.int .i64 (j:Int)/\∃pre:List { x:Nat×Nat // x∈zr nw 0 M },Hid (pre.map (·.1)++(yS nw s j++zr nw (s+1) (M-(s+1)))=zr nw 0 M)/\Hid (J pre wr)/\Hid (SlAt wr B AW nw sl)/\Hid (wr.heap[bp]?=some (.cells C 29))/\Hid (wr.heap[bw]?=some (.cells #[.slice AW nw cw] 151))/\W.heap.size<=wr.heap.size) (fun q _=>nw-(intOf q).toNat)
    case atStart=>exact⟨0,by omega,rfl,pre,HP,hJ0,hSr,hPr,hWr,hsz⟩
    case round=>
     clear HP q0 hJ0 hSr hPr hWr hsz;obtain⟨j,hj,rfl,pre,hpr,hJ0,hSr,hPr,hWr,hsz⟩:=hrel
     by_cases hjl:j<nw
     . obtain⟨b2,o2,rfl,hb2,m0⟩:=hSr.out j hjl
       have hp2:pre.map (·.1)++((s,j)::(yS nw s (j+1)++zr nw (s+1) (M-(s+1))))=zr nw 0 M:=by
        have:=hpr.out;rw[vW hjl,Ng] at this;exact this
       have hmem:(s,j)∈zr nw 0 M:=by rw[<-hp2];simp
       have hlen:pre.length<(zr nw 0 M).length:=by
        have:=congrArg List.length hp2;simp only[List.length_append,List.length_map,List.length_cons] at this;omega
       obtain⟨fn,tmps,assign,body,hy,hR⟩:=HY.out pre ⟨(s,j),hmem⟩ _ hJ0.out hlen;dsimp only at hy
       have HP2:Hid ((pre++[(⟨(s,j),hmem⟩:{ x:Nat×Nat // x∈zr nw 0 M })]).map (·.1)++(yS nw s (j+1)++zr nw (s+1) (M-(s+1)))=zr nw 0 M):=by
        rw[LI,Na];exact hp2
       have HR:=zH hR;clear hp2 hpr hR;gi_wp2_with fail;refine HR.out.mono ?_;rintro e W3 (⟨rfl,hJ3,hk3⟩ | ⟨rfl,hJx3⟩)
       . have hs1:wr.heap.size<=W3.heap.size:=hk3.size
         have S3:=zH (hSr.out.same (fun k hk=>hk3.same k (.inl hk) (by omega)));have P3:=zH ((hk3.same bp (.inr (.inl rfl)) (by omega)).trans hPr.out);have B3:=zH ((hk3.same bw (.inr (.inr rfl)) (by omega)).trans hWr.out);have J3:=zH hJ3;have hsz3:W.heap.size<=W3.heap.size:=by omega
         clear hk3 hJ3 hs1 m0;gi_wp2_with fail
         go_roundw
         case rel=>exact⟨j+1,by omega,by go_num,_,HP2,J3,S3,P3,B3,hsz3⟩
         case measure=>simp[intOf];omega
       . gi_wp2_with fail
         refine L1 (RG rfl _ _ _) rfl ?_;refine⟨⟨_,rfl⟩,.inr ⟨_,?_,hJx3⟩⟩;exact⟨_,HP2.out⟩
     . obtain rfl:nw=j:=by omega
       have HP:Hid (pre.map (·.1)++zr nw (s+1) (M-(s+1))=zr nw 0 M):=by have:=hpr.out;rwa[wI,Nc] at this
       clear hpr;gi_wp2_with fail
       go_roundw
       case rel=>exact⟨s+1,by omega,by go_num,pre,HP,hJ0,hSr,hPr,hWr,hsz⟩
       case measure=>simp[intOf];omega
  . obtain rfl:M=s:=by omega
    have HP:Hid (pre.map (·.1)=zr nw 0 M):=by have:=hpr.out;rwa[NN,zr,Nf] at this
    clear hpr;gi_wp2_with fail
    go_end0
    exact⟨⟨_,rfl⟩,.inl ⟨pre,HP.out,hJ0.out⟩⟩
end
section
open Go.RowKit
theorem ZA:∀(j:Nat) (xss:List (List Mv)) (x:Int×Mv),x∈zM j xss->∃s,j<=s/\s<j+xss.length/\x.1=(s:Int)
 | _,[],x,h=>by cases h
 | j,l::r,x,h=>by
  rw[zM] at h;rcases Nd.1 h with h | h
  . obtain⟨m,_,rfl⟩:=LX.1 h
    exact⟨j,Le _,by simp,rfl⟩
  . obtain⟨s,h1,h2,h3⟩:=ZA (j+1) r x h
    exact⟨s,by omega,by simp;omega,h3⟩
def ko(a:Ad)(k s:Nat)(xs:List (Int×Mv)):Nat:=(xs.map fun x=>if x.1=(s:Int) then yd a k x.2.to else 0).sum
theorem sumF_snoc(a:Ad)(k s:Nat)(xs:List (Int×Mv))(x:Int×Mv):ko a k s (xs++[x])=ko a k s xs+if x.1=(s:Int) then yd a k x.2.to else 0:=by
 unfold ko;rw[LI,R7];simp
theorem Zb(a:Ad)(k s j:Nat)(h:s≠j):∀l:List Mv,ko a k s (l.map fun m=>((j:Int),m))=0
 | []=>rfl
 | m::l=>by
  have:=Zb a k s j h l;unfold ko at this ⊢;rw[LT,LT,Re,this,Lg (by intro e;apply h;omega)]
theorem Yy(a:Ad)(k s:Nat):∀l:List Mv,ko a k s (l.map fun m=>((s:Int),m))=(l.map fun m=>yd a k m.to).sum
 | []=>rfl
 | m::l=>by
  have:=Yy a k s l;unfold ko at this ⊢;rw[LT,LT,Re,this,Lh rfl,LT,Re]
theorem sumF_app(a:Ad)(k s:Nat)(xs ys:List (Int×Mv)):ko a k s (xs++ys)=ko a k s xs+ko a k s ys:=by
 unfold ko;rw[LI,R7]
theorem Yz(a:Ad)(k s:Nat):∀(j:Nat) (xss:List (List Mv)),ko a k s (zM j xss)=if j<=s then ((xss.getD (s-j) []).map fun m=>yd a k m.to).sum else 0
 | j,[]=>by simp[zM,ko]
 | j,l::r=>by
  rw[zM,sumF_app,Yz a k s (j+1) r]
  by_cases e:s=j
  . subst e
    rw[Yy,Lg (by omega),Lh (Le _),NN];rfl
  . rw[Zb a k s j e,LH]
    by_cases h:j<=s
    . rw[Lh (by omega),Lh h,show s-j=(s-(j+1))+1 by omega,List.getD_cons_succ]
    . rw[Lg (by omega),Lg h]
theorem sumF_all(a:Ad)(k s:Nat):ko a k s (zM 0 a.sts)=yd a (k+1) (s:Int):=by
 rw[Yz,Lh (NC _),Ps,yd];unfold Ad.at_;rw[Ls]
def qC(a:Ad)(L k sl:Nat)(pre:List (Int×Mv)):List Int:=(List.range sl).map fun (j:Nat)=>((yW L (ko a k j pre):Nat):Int)
theorem nextL_len(a:Ad)(L k sl:Nat)(pre:List (Int×Mv)):(qC a L k sl pre).length=sl:=by unfold qC;simp
theorem nextL_nil(a:Ad)(L k sl:Nat):qC a L k sl []=List.replicate sl 0:=by
 refine N6 (by simp[qC]) fun j h1 h2=>?_
 simp[qC,ko,X0]
theorem uK(a:Ad)(L k sl:Nat)(pre:List (Int×Mv))(j:Nat)(h:j<(qC a L k sl pre).length):(qC a L k sl pre)[j]=((yW L (ko a k j pre):Nat):Int):=by simp[qC]
theorem JS(a:Ad)(L k sl:Nat)(pre:List (Int×Mv))(x:Int×Mv)(s:Nat)(hx:x.1=(s:Int)):qC a L k sl (pre++[x])=(qC a L k sl pre).set s ((yW L (ko a k s pre+yd a k x.2.to):Nat):Int):=by
 refine N6 (by simp[qC]) fun j h1 h2=>?_
 rw[RY,uK,sumF_snoc,hx]
 by_cases e:s=j
 . subst e;rw[Lh rfl,Lh rfl]
 . rw[Lg (by omega),Lg e,Pg,uK]
theorem nextL_all(a:Ad)(L k sl:Nat):qC a L k sl (zM 0 a.sts)=cl a L (k+1) sl:=by
 unfold qC cl;refine Pt fun j _=>?_
 rw[sumF_all]
theorem cl_first(a:Ad)(L sl:Nat):cl a L 0 sl=List.replicate sl 1:=by
 refine N6 (by simp[cl]) fun j h1 h2=>?_
 rw[ZZ];simp[yd,sat_one]
end
section
open Go.RowKit Go.Shelf
attribute [local go_sem] Oper.semAt_some
theorem ZD{B:Nat}{ds:List Deferred}{w w':Ba}(h:Marks B ds w)(hs:∀k:Nat,w.heap[k]?=some (Obj.deferred (some []))->w'.heap[k]?=some (Obj.deferred (some []))):Marks B ds w':=by
 obtain⟨rs,e,hn,hk⟩:=h;exact⟨rs,e,hn,fun r hr=>⟨(hk r hr).1,hs r (hk r hr).2⟩⟩
structure NmIn(B:Nat)(C:Array Value)(L:Int)(g7 g:Nat)(cs:List Int)(w W:Ba):Prop where
 below:Below B w W
 b0:W.heap[B]?=some (.cells C 27 (0,0))
 b1:W.heap[B+1]?=some (.cells #[.int .i64 L] 3 (0,0))
 b7:W.heap[g7]?=some (.cells #[.slice (some ⟨g,0,none⟩) cs.length cs.length] 44 (0,0))
 row:RowAt W g cs
 h7:B+2<=g7
 hg:B+2<=g
theorem NmIn.on{B:Nat}{C:Array Value}{L:Int}{g7 g:Nat}{cs:List Int}{w W W':Ba}(h:NmIn B C L g7 g cs w W)(hb:Below W.heap.size W W'):NmIn B C L g7 g cs w W':=
 ⟨h.below.trans (hb.mono (by have:=zj h.b0;omega)),La hb h.b0,La hb h.b1,La hb h.b7,Lb hb h.row.lt h.row,h.h7,h.hg⟩
theorem NmIn.turn{B:Nat}{C:Array Value}{L:Int}{g7 g:Nat}{cs:List Int}{w W W':Ba}{row:Option Nat}(h:NmIn B C L g7 g cs w W)(hg:W.grownBy W' row)(hr:∀r,row=some r->B<=r/\∃o:Obj,W.heap[r]?=some o/\o.isCells=false):NmIn B C L g7 g cs w W':=
 ⟨h.below.grown hg (by have:=zj h.b0;omega) (fun k hk=>(hr k hk).1),(L9 hg (fun r e=>(hr r e).2) h.b0 rfl).trans h.b0,(L9 hg (fun r e=>(hr r e).2) h.b1 rfl).trans h.b1,
  (L9 hg (fun r e=>(hr r e).2) h.b7 rfl).trans h.b7,(L9 hg (fun r e=>(hr r e).2) h.row rfl).trans h.row,h.h7,h.hg⟩
theorem NmIn.setk{B:Nat}{C:Array Value}{L:Int}{g7 g:Nat}{cs:List Int}{w W:Ba}(h:NmIn B C L g7 g cs w W)(n j:Nat)(v:Value)(h7:g7<n)(hg:g<n):NmIn B C L g7 g cs w (W.setCell ⟨n,j,none⟩ v):=by
 have h1:=h.h7
 exact⟨h.below.setCell (by show B<=n;omega) _,(Lf W ⟨n,j,none⟩ v B (by show B≠n;omega)).trans h.b0,(Lf W ⟨n,j,none⟩ v (B+1) (by show B+1≠n;omega)).trans h.b1,
  (Lf W ⟨n,j,none⟩ v g7 (by show g7≠n;omega)).trans h.b7,(Lf W ⟨n,j,none⟩ v g (by show g≠n;omega)).trans h.row,h.h7,h.hg⟩
theorem NmIn.swap{B:Nat}{C:Array Value}{L:Int}{g7 g n:Nat}{cs cs':List Int}{w W:Ba}(h:NmIn B C L g7 g cs w W)(hr:RowAt W n cs')(hn:B+2<=n)(hne:n≠g7):NmIn B C L g7 n cs' w (W.setCell ⟨g7,0,none⟩ (.slice (some ⟨n,0,none⟩) cs'.length cs'.length)):=by
 have h1:=h.h7;obtain⟨x1,x2,x3⟩:=qI h.b7 (.slice (some ⟨n,0,none⟩) cs'.length cs'.length);exact⟨h.below.setCell (by show B<=g7;omega) _,(x3 B (by omega)).trans h.b0,(x3 (B+1) (by omega)).trans h.b1,x1,(x3 n hne).trans hr,h.h7,hn⟩
theorem J7{D:Nat}{W:Ba}{n:Nat}{xs:List Int}(h:RowAt W n xs)(j:Nat)(v:Value):KeepsFrom D W (W.setCell ⟨n,j,none⟩ v):=
 ⟨(zS W n j v).size,fun k o _ hk ho=>(Lf W ⟨n,j,none⟩ v k (by rintro rfl;rw[h] at hk;cases hk;cases ho)).trans hk⟩
theorem rep_arr(n:Nat):((List.replicate n (0:Int)).map (Value.int .i64)).toArray=Array.replicate n (Value.int .i64 0):=by simp
theorem JP(a:Ad)(hf:FewA a)(hz:zI a a.sts=0)(h1:1<=a.sts.length)(K L:Nat)(hK:K<=6)(hL:L<=1048576)(SV:Bb)(ks:Nat)(w:Ba)(hS:SAt w w.heap.size SV a.sts) :
  Calls Tryz.prog 151 #[.agg #[.int .i64 a.n,.slice SV a.sts.length ks],.int .i64 K,.int .i64 L] w fun e w'=>e=.returned (.int .i64 ((yW L (yd a K 0):Nat):Int))/\Below w.heap.size w w':=by
 have hf1:=hf.1;have HI:=zH (fun (bx:Nat) (w':Ba) (hb:w'.heap[bx]?=some (.cells #[.int .i64 a.n,.slice SV a.sts.length ks] 27)) (h:SAt w' w.heap.size SV a.sts) (hB:w.heap.size<=w'.heap.size)=>jv a hf SV ks w.heap.size bx w' hb h hB);have HZ:=zH (@xT a hz);have HS:=zH hS;clear hS hz hf;refine yK Tryz.func151 rfl ?_;simp only[Tryz.ntmps151,List.size_toArray,List.length_cons,List.length_nil,Nat.reduceAdd,Nat.reduceSub,Array.replicate_succ,Array.replicate_zero,List.push_toArray,List.append_toArray,List.nil_append,List.cons_append];go_wp2_with fail;obtain⟨w2,hw2,b0,b1,hsz,hB⟩:=yB w #[.int .i64 a.n,.slice SV a.sts.length ks] #[.int .i64 (L:Int)] 27 3;have hz2:w2.heap.size=w.heap.size+2:=by rw[<-hw2];simp
 rw[hw2];obtain⟨w3,hw3,b2,hz3,hB3⟩:=zn w2 #[.int .i64 1] 3;rw[hw3];clear hw2 hw3;rw[show w2.heap.size=w.heap.size+1+1 by omega] at b2;refine(Qd a.sts.length (w.heap.size+1+1) h1 hf1 1 w3 b2).mono ?_;rintro e w4 ⟨g,rfl,hgg,hrow,hB4⟩
 have H4:Hid (NmIn w.heap.size #[.int .i64 a.n,.slice SV a.sts.length ks] L w4.heap.size g (cl a L 0 a.sts.length) w (w4.alloc (.cells #[.slice (some ⟨g,0,none⟩) a.sts.length a.sts.length] 44))):=by
  have c0:=Lb hB4 (by omega) (Lb hB3 (by omega) b0);have c1:=Lb hB4 (by omega) (Lb hB3 (by omega) b1);have hs4:=hB4.size;refine⟨(hB.trans (hB3.mono (by omega))).trans ((hB4.mono (by omega)).trans ((Lo _ _).alloc (by omega) _)),yM c0 _,yM c1 _,?_,?_,by omega,by omega⟩
  . rw[jg];exact zw _ _
  . rw[cl_first];exact yM hrow _
 have hs4:=hB4.size;clear hB hB3 hB4 b0 b1 b2;go_wp2_with fail;obtain⟨w5,hw5⟩:=Ki (w4.alloc (.cells #[.slice (some ⟨g,0,none⟩) a.sts.length a.sts.length] 44));rw[hw5] at H4 ⊢;obtain⟨g7,hg7⟩:=Ki w4.heap.size;rw[hg7] at H4 ⊢;obtain⟨g0,hg0⟩:∃g0,g0=g:=⟨_,rfl⟩;have H5:Hid (NmIn w.heap.size #[.int .i64 a.n,.slice SV a.sts.length ks] L g7 g (cl a L 0 a.sts.length) w w5):=H4.out;clear H4 hw5 hg7 hrow hgg hs4 hsz hz2 hz3;refine wp_loop_ghost (fun (m:Nat) (a':Act) (w':Ba)=>∃(ds:List Deferred) (k h:Nat) (u8 u18 u19 u20 u21 u22 u23 u42 u43:Value),(m=K-k/\k<=K/\Hid (NmIn w.heap.size #[.int .i64 a.n,.slice SV a.sts.length ks] L g7 h (cl a L k a.sts.length) w w')/\Hid (Marks w.heap.size ds w'))/\a'={ tmps:=#[.agg #[.int .i64 a.n,.slice SV a.sts.length ks],.int .i64 (K:Int),.int .i64 (L:Int),.pointer (some ⟨w.heap.size,0,none⟩),undef,.pointer (some ⟨w.heap.size+1,0,none⟩),.int .i64 0,.pointer (some ⟨g7,0,none⟩),u8,undef,undef,.slice (some ⟨w.heap.size+1+1,0,none⟩) 1 1,.pointer (some ⟨w.heap.size,1,none⟩),.slice SV a.sts.length ks,.int .i64 (a.sts.length:Int),.slice (some ⟨g0,0,none⟩) a.sts.length a.sts.length,.int .i64 (K:Int),.int .i64 (k:Int),u18,u19,u20,u21,u22,u23,undef,undef,undef,undef,undef,undef,undef,undef,undef,undef,undef,undef,undef,undef,undef,undef,undef,undef,u42,u43,undef,undef,undef],defers:=ds }) K ?_ ?_
 . exact⟨[],0,g,_,_,_,_,_,_,_,_,_,⟨by omega,by omega,H5.out,Marks.nil _ _⟩,by rw[hg0];rfl⟩
 clear H5 hg0;rintro m a' wr ⟨ds,k,h,u8,u18,u19,u20,u21,u22,u23,u42,u43,⟨hm,hk,HN,MK⟩,rfl⟩;have hln:=jg a L k a.sts.length;have q7:=zh HN.out.b7 0 rfl;rw[hln] at q7
 by_cases hkK:k<K
 case neg=>
  obtain rfl:k=K:=by omega
  have c0:=HN.out.row.cell 0 (by omega);rw[ZZ] at c0;clear HI HZ;go_wp2_with fail;refine xu MK.out (v:=.int .i64 ((yW L (yd a k 0):Nat):Int)) (fun W=>by kernel_rfl) ?_;intro W hX;exact⟨rfl,HN.out.below.trans hX.below⟩
 case pos=>
 have hmk:=uP a.sts.length h1 hf1;obtain⟨q0,q1,_⟩:=Ka HN.out.b0;go_upto_region 5 with fail
 obtain⟨W1,hW1,d0,d1,hs1,hB1⟩:=yB wr (Array.replicate a.sts.length (.int .i64 0)) #[.slice (some ⟨wr.heap.size,0,none⟩) a.sts.length a.sts.length] 3 44;rw[hW1];have hrow:RowAt W1 wr.heap.size (qC a L k a.sts.length []):=by rw[nextL_nil];unfold RowAt;rw[rep_arr];exact d0
 have HN1:=HN.out.on hB1;obtain⟨hn,hhn⟩:=Ki wr.heap.size;have hg7n:g7<hn:=by rw[<-hhn];exact zj HN.out.b7
 have hhg:h<hn:=by rw[<-hhn];exact HN.out.row.lt
 have hBn:w.heap.size+1<hn:=by rw[<-hhn];exact zj HN.out.b1
 have MK1:Hid (Marks w.heap.size ds W1):=ZD (w:=wr) MK.out fun x hx=>(hB1.block x (Ln.1 hx).1).trans hx
 rw[hhn] at hrow d1 hs1 ⊢;obtain⟨q0,q1,_⟩:=Ka HN1.b0;have HNN:=zH HN1;have HRW:=zH hrow;have HD1:=zH d1;clear hW1 d0 d1 hB1 hrow HN1 hmk hhn q7;go_wp2_with fail;refine(uL a.n (.slice SV a.sts.length ks) W1).mono ?_;rintro e W2 ⟨rfl,hW2⟩;have bb:=zw W1 (.cells #[.int .i64 a.n,.slice SV a.sts.length ks] 27);have hB2:Below W1.heap.size W1 W2:=by rw[<-hW2];exact zW _ _
 have hs2:W2.heap.size=W1.heap.size+1:=by rw[<-hW2];simp
 rw[hW2] at bb;obtain⟨bx,hbx⟩:=Ki W1.heap.size;have HN2:=zH (HNN.out.on hB2);have HR2:Hid (RowAt W2 hn (qC a L k a.sts.length [])):=Lb hB2 HRW.out.lt HRW.out;have HD2:=zH (La hB2 HD1.out);have MK2:Hid (Marks w.heap.size ds W2):=ZD (w:=W1) MK1.out fun x hx=>(hB2.block x (Ln.1 hx).1).trans hx
 rw[hbx] at bb hs2 hs1 ⊢;have HIT:=zH (HI.out bx W2 bb (HS.out.keep HN2.out.below) (by omega));clear hW2 bb hB2 hbx HNN HRW HD1 MK1 q0 q1;go_wp2_with fail
 refine kE rfl (N0 RK (by kernel_rfl) rfl) HIT.out (by rintro x (h | rfl)<;>omega) (fun _=>rfl)
  (fun (pre:List { x:Int×Mv // x∈zM 0 a.sts }) (X:Ba)=>NmIn w.heap.size #[.int .i64 a.n,.slice SV a.sts.length ks] L g7 h (cl a L k a.sts.length) w X/\X.heap[hn+1]?=some (.cells #[.slice (some ⟨hn,0,none⟩) a.sts.length a.sts.length] 44 (0,0))/\RowAt X hn (qC a L k a.sts.length (pre.map (·.1)))/\W2.heap.size<=X.heap.size/\(∀y:Nat,W2.heap[y]?=some (Obj.deferred (some []))->X.heap[y]?=some (Obj.deferred (some []))))
  (fun _ _ _=>False)
  ?hI (fun _ _ _ _ _ h _ _=>h)
  ⟨HN2.out,HD2.out,HR2.out,Le _,fun _ h=>h⟩ (fun x=>x.2.cells) 94 ?a1 ?assign ?body ?done ?stop (fun _ _ h=>h.2.2.2.1)
 case hI=>
  intro s X X' row hX hg hr;refine⟨hX.1.turn hg (fun r e=>⟨by have:=(hr r e).1;omega,(hr r e).2⟩),(L9 hg (fun r e=>(hr r e).2) hX.2.1 rfl).trans hX.2.1,(L9 hg (fun r e=>(hr r e).2) hX.2.2.1 rfl).trans hX.2.2.1,Lz hX.2.2.2.1 hg.size,fun y hy=>?_⟩;have hy2:=hX.2.2.2.2 y hy;have hyl:=(Ln.1 hy).1;exact(hg.block y (by have:=hX.2.2.2.1;omega) (fun e=>by have:=(hr y e.symm).1;omega)).trans hy2
 case assign=>
  intro l pre x X K' hI hK;obtain⟨g',hg'⟩:∃g',g'=X.heap.size:=⟨_,rfl⟩;have HK:=zH (hK g' hg' ⟨hI.1.on (zW X _),yM hI.2.1 _,yM hI.2.2.1 _,by have:=hI.2.2.2.1;simp;omega,fun y hy=>(NS X _ y (Ln.1 (hI.2.2.2.2 y hy)).1).trans (hI.2.2.2.2 y hy)⟩);have HG:=zH hg';unfold Mv.cells at HK ⊢;dsimp only at HK ⊢;clear hK hg' hI;gi_wp2;rw[<-HG.out];exact HK.out
 case body=>
  intro l pre x g W3 hg hgb hI hlt;obtain⟨hI1,hI2,hI3,hI4,hI5⟩:=hI;obtain⟨s,_,hsl,hxs⟩:=ZA 0 a.sts x.1 x.2;obtain⟨_,_,z3,z4⟩:=HZ.out x.1.2 (Xw x.2);have hstep:=JS a L k a.sts.length (pre.map (·.1)) x.1 s hxs;obtain⟨t,et⟩:=Lr z3;have htl:t<a.sts.length:=by omega
  have hsl:s<a.sts.length:=by omega
  have c8:=zh hI2 0 rfl;have rS:=hI3.cell s (by rw[nextL_len];omega);rw[uK] at rS;have fS:=hI3.froz s;have q7:=zh hI1.b7 0 rfl;rw[jg] at q7;have cT:=hI1.row.cell t (by rw[jg];omega);rw[ZZ] at cT;have u7:=zh hgb 7 (u:=.int .i64 x.1.2.to) rfl;rw[et] at u7;have q1:=zh hI1.b1 0 rfl;rw[et] at hstep;have hsat:=sat_add L (ko a k s (pre.map (·.1))) (yd a k (t:Int));have y1:=uz L (ko a k s (pre.map (·.1)));have y2:=uz L (yd a k (t:Int));rw[<-hsat] at hstep;obtain⟨n1,hn1⟩:=Ki (yW L (ko a k s (pre.map (·.1))));obtain⟨n2,hn2⟩:=Ki (yW L (yd a k (t:Int)));rw[hn1] at rS hstep y1;rw[hn2] at cT hstep y2;have hl3:=hI3.lt;have HI1:=zH hI1;have HI2:=zH hI2;have HI3:=zH hI3;have HI5:=zH hI5;have HST:=zH hstep;clear hI1 hI2 hI3 hI5 hstep z3 z4 et hn1 hn2 hsat hgb hlt MK MK2 HD2 HR2 HN2 HIT HI HS
  try dsimp only
  rw[hxs];clear hxs HZ;gi_wp2_with fail;refine vt 16 (by kernel_rfl) (by kernel_rfl) (by kernel_rfl) (by rintro⟨_,_,h⟩;exact h) ?_;simp only[List.take_succ_cons,List.take_zero,List.drop_succ_cons,List.drop_zero]
  repeat still_step
  try refine wpStill_nil ?_
  change wpList _ _ _ _ _ W3.drew;go_wp2_with fail;have hv:min ((n1:Int)+(n2:Int)) ((L:Int)+1)=((min (n1+n2) (L+1):Nat):Int):=by omega
  rw[hv];have hset:=HI3.out.set s ((min (n1+n2) (L+1):Nat):Int);rw[<-HST.out] at hset;obtain⟨V,hV⟩:∃V:Value,Value.int .i64 ((min (n1+n2) (L+1):Nat):Int)=V:=⟨_,rfl⟩;rw[hV] at hset ⊢;have hnk:¬(hn<w.heap.size\/hn=bx):=by omega
  refine⟨(J7 HI3.out s V).trans (qd (Lo _ _).drew),?_,(HI1.out.setk hn s V (by omega) (by omega)).on (Lo _ _).drew,?_,?_,?_,?_⟩
  . have hk1:=KeepB.setCell (W:=W3) (K:=fun k=>k<w.heap.size\/k=bx) (a:=⟨hn,s,none⟩) hnk V
    exact hk1.trans (KeepB.drew _ _)
  . exact(Lf W3 ⟨hn,s,none⟩ V (hn+1) (by show hn+1≠hn;omega)).trans HI2.out
  . show RowAt (W3.setCell ⟨hn,s,none⟩ V) hn (qC a L k a.sts.length ((pre++[x]).map (·.1)))
    rw[LI];exact hset
  . show W2.heap.size<=(W3.setCell ⟨hn,s,none⟩ V).heap.size
    exact Lz hI4 (zS W3 hn s V).size
  . intro y hy
    exact(Lf W3 ⟨hn,s,none⟩ V y (by rintro rfl;have h5:=HI5.out _ hy;rw[HI3.out] at h5;cases h5)).trans (HI5.out y hy)
 case done=>
  intro D ys W3 hD hys hI hDk;obtain⟨hI1,hI2,hI3,hI4,hI5⟩:=hI;rw[hys,nextL_all] at hI3;have c8:=zh hI2 0 rfl;have q7:=zh hI1.b7 0 rfl;have f7:=zi hI1.b7 0;have hl7:=zj hI1.b7;have HI1:=zH hI1;have HI3:=zH hI3;have HI5:=zH hI5;have HDk:=zH hDk;clear hI1 hI2 hI3 hI5 hDk hys HI HIT HD2 HR2 HN2 HZ HS
  try dsimp only
  go_wp2_with fail;have hsw:=NmIn.swap HI1.out HI3.out (by omega) (by omega);rw[jg] at hsw;refine⟨K-(k+1),by omega,_,k+1,hn,_,_,_,_,_,_,_,_,_,⟨rfl,by omega,hsw,?_⟩,rfl⟩;refine Marks.cons MK2.out (fun y hy=>?_) (by omega) hD ?_
  . exact(Lf W3 ⟨g7,0,none⟩ _ y (by rintro rfl;have:=HI5.out _ hy;rw[HI1.out.b7] at this;cases this)).trans (HI5.out y hy)
  . exact(Lf W3 ⟨g7,0,none⟩ _ D (by rintro rfl;have:=HDk.out;rw[HI1.out.b7] at this;cases this)).trans HDk.out
 case stop=>
  intro D c pre W _ _ h;exact h.elim
end
section
open Go.RowKit
attribute [local go_sem] Oper.semAt_some
theorem yU{a:Ad}(hf:FewA a)(h:qk a=0):zI a a.sts=0/\1<=a.sts.length/\xO a=true/\1<=a.n/\a.n<=5:=by
 by_cases h1:a.n<1\/5<a.n
 . rw[vL h1] at h;cases h
 by_cases h2:a.sts.length<1
 . rw[wk h1 h2] at h;cases h
 by_cases h3:zI a a.sts=0
 . rw[vM h1 (by omega) hf h3] at h
   by_cases h4:xO a=true
   . exact⟨h3,by omega,h4,by omega,by omega⟩
   . rw[Lg h4] at h;cases h
 . rw[vK h1 (by omega) hf h3] at h;exact absurd h h3
def j5(L T:Nat):Int×Int:=if L<T then (0,17) else ((T:Int),0)
theorem un(a:Ad)(hf:FewA a)(h:qk a=0)(K L:Nat)(hK:K<=6)(hL:L<=1048576)(SV:Bb)(ks:Nat)(w:Ba)(hS:SAt w w.heap.size SV a.sts) :
  Calls Tryz.prog 130 #[.agg #[.int .i64 a.n,.slice SV a.sts.length ks],.int .i64 K,.int .i64 L] w fun e w'=>e=.returned (.tuple #[.int .i64 (j5 L (yd a K 0)).1,.int .i64 (j5 L (yd a K 0)).2])/\Below w.heap.size w w':=by
 obtain⟨z1,z2,_⟩:=yU hf h;have HC:=zH (fun (w':Ba) (h':SAt w' w'.heap.size SV a.sts)=>Z6 a hf SV ks w' h');rw[h] at HC;have HN:=zH (fun (w':Ba) (h':SAt w' w'.heap.size SV a.sts)=>JP a hf z1 z2 K L hK hL SV ks w' h');have hgt:=sat_gt L (yd a K 0);have HEQ:=zH (@sat_eq L (yd a K 0));have hle:=uz L (yd a K 0);obtain⟨T,hT⟩:=Ki (yd a K 0);rw[hT] at HN HEQ hgt hle ⊢;obtain⟨r,hr⟩:=Ki (yW L T);rw[hr] at HN HEQ hgt hle;clear hT hr h hf z1;obtain⟨w1,hw1⟩:=Ki (w.alloc (.cells #[.int .i64 a.n,.slice SV a.sts.length ks] 27));have hbb:=zw w (.cells #[.int .i64 a.n,.slice SV a.sts.length ks] 27);have hb01:Below w.heap.size w w1:=by rw[<-hw1];exact zW w _
 have hsz1:w1.heap.size=w.heap.size+1:=by rw[<-hw1];simp
 rw[hw1] at hbb;have HBB:=zH hbb;have HB01:=zH hb01;have HS:=zH ((hS.keep hb01).more (by omega:w.heap.size<=w1.heap.size));have HW1:=zH hw1;obtain⟨q0,q1,_⟩:=Ka hbb;clear hS hw1 hb01 hbb;go_enter Tryz.func130,Tryz.ntmps130;go_wp2_with fail;rw[HW1.out];go_wp2_with fail;refine(HC.out w1 HS.out).mono ?_;rintro e w2 ⟨rfl,hb2⟩;have HB2:=zH (HB01.out.trans (hb2.mono (by omega)));have HS2:=zH ((HS.out.keep hb2).more hb2.size);have hbk:=La hb2 HBB.out;obtain⟨q0,q1,_⟩:=Ka hbk;have hs2:=hb2.size;clear hb2 hbk HC HW1;go_wp2_with fail
 all_goals first | (exfalso;omega) | skip
 refine(HN.out w2 HS2.out).mono ?_;rintro e w3 ⟨rfl,hb3⟩;have HB3:=zH (HB2.out.trans (hb3.mono (by omega)));clear hb3 HN q0 q1
 by_cases hg:L<T
 . have hg2:L<r:=hgt.2 hg
   have hR:Hid (j5 L T=(0,17)):=Lh hg;clear hgt HEQ hg;go_wp2_with fail
   all_goals first | (exfalso;omega) | skip
   go_ret2
   rw[hR.out];exact⟨rfl,HB3.out⟩
 . have hg2:¬L<r:=fun h=>hg (hgt.1 h)
   have hr:r=T:=(HEQ.out (by omega)).symm▸rfl;have hR:Hid (j5 L T=((T:Int),0)):=Lg hg;subst hr;clear hgt HEQ hg;go_wp2_with fail
   all_goals first | (exfalso;omega) | skip
   go_ret2
   rw[hR.out];exact⟨rfl,HB3.out⟩
theorem Jd(a:Ad)(hf:FewA a)(h:qk a=0)(K:Nat)(hK:K<=6)(SV:Bb)(ks:Nat)(w:Ba)(hS:SAt w w.heap.size SV a.sts) :
  Calls Tryz.prog 129 #[.agg #[.int .i64 a.n,.slice SV a.sts.length ks],.int .i64 K] w fun e w'=>e=.returned (.tuple #[.int .i64 (j5 1048576 (yd a K 0)).1,.int .i64 (j5 1048576 (yd a K 0)).2])/\Below w.heap.size w w':=by
 have HN:=zH (fun (w':Ba) (h':SAt w' w'.heap.size SV a.sts)=>un a hf h K 1048576 hK (Le _) SV ks w' h');obtain⟨r,hr⟩:=Ki (j5 1048576 (yd a K 0));rw[hr] at HN ⊢;have hb01:=zW w (.cells #[.int .i64 a.n,.slice SV a.sts.length ks] 27);have HB01:=zH hb01;have HS:=zH ((hS.keep hb01).more hb01.size);clear hS hb01 hr;go_enter Tryz.func129,Tryz.ntmps129;go_wp2_with fail;refine(HN.out _ HS.out).mono ?_;rintro e w2 ⟨rfl,hb2⟩;have HB2:=zH (HB01.out.trans (hb2.mono (by simp)));clear hb2;go_wp2_with fail
 go_ret2
 exact⟨rfl,HB2.out⟩
theorem words_any(a:Ad)(hf:FewA a)(h:qk a=0)(K:Nat)(hK:K<=6)(hT:yd a K 0<=4096)(SV:Bb)(ks:Nat)(w:Ba)(hS:SAt w w.heap.size SV a.sts) :
  Calls Tryz.prog 95 #[.agg #[.int .i64 a.n,.slice SV a.sts.length ks],.int .i64 K] w fun e w'=>∃A c,e=.returned (.tuple #[.slice A (zJ a K 0).length c,.int .i64 0])/\WAt w' w'.heap.size A (zJ a K 0)/\Below w.heap.size w w':=by
 obtain⟨z1,z2,_⟩:=yU hf h;have HC:=zH (fun (w':Ba) (h':SAt w' w'.heap.size SV a.sts)=>un a hf h K 4096 hK (by omega) SV ks w' h');have hcut:j5 4096 (yd a K 0)=(((yd a K 0:Nat):Int),0):=Lg (by omega);rw[hcut] at HC;have HL:=zH (yF a K 0);obtain⟨T,hTT⟩:=Ki (yd a K 0);rw[hTT] at HC HL hT;have HF:=zH (QQ a K hK SV ks z1 hf K);clear hTT hcut z1 h hf;obtain⟨w1,hw1,d0,d1,hs1,hBw⟩:=yB w #[.int .i64 a.n,.slice SV a.sts.length ks] #[.int .i64 (K:Int)] 27 3;have HS:=zH ((hS.keep hBw).more hBw.size);have HS0:=zH hS;have HBW:=zH hBw;have HD0:=zH d0;have HD1:=zH d1;have HW1:=zH hw1;obtain⟨p0,p1,_⟩:=Ka d0;have q0:=zh d1 0 rfl;clear hw1 d0 d1 hBw hS;go_enter Tryz.func95,Tryz.ntmps95;go_wp2_with fail;rw[HW1.out];go_wp2_with fail;refine(HC.out w1 HS.out).mono ?_;rintro e w2 ⟨rfl,hb2⟩;have HB2:=zH hb2;have D0:=zH (La hb2 HD0.out);have D1:=zH (La hb2 HD1.out);have hsz2:=hb2.size;clear p0 p1 q0 hb2 HW1 HC;obtain⟨i0,hi,hz0,hz1,hz2⟩:=yT J8;obtain⟨w3,hmk,r1,r2⟩:=run_make_own (P:=Tryz.prog) w2 w2.heap.size 151 53 i0 kWd.z 1 Tryz.underlying151 hi hz0 hz1 .i64 .i64 T (by rw[hz2];show 24*T<=_;omega) (by unfold maxLen;omega) (Le _);have R1:=zH r1;have R2:=zH r2;clear hi hz0 hz1 hz2 r1 r2;go_wp2_with fail;have hg32:=R2.out;have hgr:=R2.out.size
 obtain⟨w4,hw4,e0,e1,hs4,hB4⟩:=yB w3 #[.slice (some ⟨w2.heap.size,0,none⟩) 0 T] #[.func (.func 131) #[] #[.pointer (some ⟨w.heap.size+1,0,none⟩),.pointer (some ⟨w3.heap.size,0,none⟩),.pointer (some ⟨w.heap.size,0,none⟩),.pointer (some ⟨w3.heap.size+1,0,none⟩)]] 151 207;rw[hw4];clear hw4 hmk;have B3:Below w2.heap.size w2 w3:=⟨hg32.os,hg32.tape,hg32.output,hg32.size,fun k hk=>hg32.block k hk (by simp)⟩;have B4:Below w2.heap.size w2 w4:=B3.trans (hB4.mono hgr);have D04:=La B4 D0.out;have D14:=La B4 D1.out;have hl0:=zj D0.out;have hl1:=zj D1.out;obtain⟨i1,hi,hz0,hz1,hz2⟩:=yT XA;obtain⟨w5,hmk,r1,r2⟩:=run_make_own (P:=Tryz.prog) w4.drew w4.drew.heap.size 53 92 i1 kRd.z 7 PA hi hz0 hz1 .i64 .i64 K (by rw[hz2];show 56*K<=_;omega) (by unfold maxLen;omega) (Le _);have B5:Below w4.heap.size w4 w5:=Q7 ⟨r2.os,r2.tape,r2.output,r2.size,fun k hk=>r2.block k hk (by simp)⟩;have r1':OwnR kRd w5 w4.heap.size (.slice (some ⟨w4.heap.size,0,none⟩) 0 K) 0 []:=r1;have hl4:w3.heap.size+1<w4.heap.size:=by omega
 have HB5:Hid (Below w.heap.size w w5):=(HBW.out.trans ((HB2.out.trans (B4.mono hsz2)).mono HBW.out.size)).trans (B5.mono (by omega))
 have HFI:Hid (FromIn a K SV ks w.heap.size (w.heap.size+1) w3.heap.size w.heap.size (w3.heap.size+1) w4.heap.size (.slice (some ⟨w2.heap.size,0,none⟩) 0 T) [] [] w w5):=by
  refine⟨Lb B5 (by omega) D14,Lb B5 (by omega) e0,Lb B5 (by omega) D04,Lb B5 (by omega) e1,?_,?_,?_,HB5.out⟩
  . refine⟨[],rfl,?_,fun i h1 _=>absurd h1 (by simp)⟩
    have h3:OwnR kWd w3 w2.heap.size (.slice (some ⟨w2.heap.size,0,none⟩) 0 T) 0 []:=R1.out;exact((h3.below hB4 (Le _)).below B5 (Le _)).low (by omega)
  . intro k hk
    have:w2.heap.size=k:=by simpa[Value.ownBlock] using hk
    have hlt3:w2.heap.size<w3.heap.size:=(R1.out.lt w2.heap.size rfl).2;exact⟨by omega,by omega,by omega,by omega,by omega⟩
  . exact r1'.low (by omega)
 have f4:w4.cell? ⟨w3.heap.size+1,0,none⟩=some (.func (.func 131) #[] #[.pointer (some ⟨w.heap.size+1,0,none⟩),.pointer (some ⟨w3.heap.size,0,none⟩),.pointer (some ⟨w.heap.size,0,none⟩),.pointer (some ⟨w3.heap.size+1,0,none⟩)]):=zh e1 0 rfl;have k4:w4.cell? ⟨w.heap.size+1,0,none⟩=some (.int .i64 K):=zh D14 0 rfl;have f5:=(B5.cell (p:=⟨w3.heap.size+1,0,none⟩) (by show w3.heap.size+1<_;omega)).trans f4;have k5:=(B5.cell (p:=⟨w.heap.size+1,0,none⟩) (by show w.heap.size+1<_;omega)).trans k4
 have HBF:Hid (FromB w.heap.size (w.heap.size+1) w3.heap.size w.heap.size (w3.heap.size+1) w4.heap.size):=
  ⟨by omega,by omega,by omega,by omega,by omega,by omega,by omega,by omega,by omega,by omega,by omega,by omega⟩
 clear hi hz0 hz1 hz2 r1 r2 r1' D04 D14 e0 e1 R1 R2 hg32 B3 B4 hB4
 refine zz [(0,true),(1,true),(2,false),(3,false)]
  (fun W=>W.cell? ⟨w3.heap.size+1,0,none⟩=some (.func (.func 131) #[] #[.pointer (some ⟨w.heap.size+1,0,none⟩),.pointer (some ⟨w3.heap.size,0,none⟩),.pointer (some ⟨w.heap.size,0,none⟩),.pointer (some ⟨w3.heap.size+1,0,none⟩)])/\W.cell? ⟨w.heap.size+1,0,none⟩=some (.int .i64 K))
  (by kernel_rfl) (by kernel_rfl) ⟨f4,k4⟩ ?_
 repeat
  apply zG rfl
  . rintro K' hK' W ⟨y0,y1⟩
    go_simp;exact hK'
 refine zE rfl ?_;intro K' hK';go_simp;refine hK' _ _ ⟨f5,k5⟩ ?_;clear hK' K';refine xa rfl (by kernel_rfl) ?_;intro K' hK';go_simp;have HCC:=HF.out 0 [] [] (.slice (some ⟨w2.heap.size,0,none⟩) 0 T) w.heap.size (w.heap.size+1) w3.heap.size w.heap.size (w3.heap.size+1) w4.heap.size w w5 (by simp) (.inr ⟨by omega,by omega⟩) (by have:=HL.out;simp;omega) HBF.out HS0.out HFI.out;refine HCC.mono ?_;rintro e w6 ⟨⟨v6,rfl⟩,V6,H6⟩;rw[Nc,show xd [] (zJ a K 0)=zJ a K 0 by simp[xd]] at H6;refine hK' (fun _=>True) _ _ trivial ?_;refine zQ ?_;clear hK' K' HCC;obtain⟨A6,c6,rfl,_,_,hW6⟩:=Z3 H6.out;have o6:=zh H6.hO 0 rfl;have HB6:=zH H6.bel;have HW6:=zH hW6;clear H6 hW6;go_wp2_with fail
 go_ret2
 exact⟨A6,c6,rfl,HW6.out,HB6.out⟩
end
section
open Go.RowKit
def RawL(B:Nat)(w:Ba)(A:Bb)(n:Nat)(cs:List Value):Prop:=0<n->∃b off,A=some ⟨b,off,none⟩/\b<B/\∀(j:Nat) (u:Value),cs[j]?=some u->w.cell? ⟨b,off+j,none⟩=some u
theorem RawL.raw{B:Nat}{w:Ba}{A:Bb}{n:Nat}{cs:List Value}(h:RawL B w A n cs)(hB:B<=w.heap.size):Raw w A n cs:=fun h0=>by
 obtain⟨b,off,e,hb,hc⟩:=h h0;exact⟨b,off,e,by omega,hc⟩
theorem RawL.keep{B:Nat}{w w':Ba}{A:Bb}{n:Nat}{cs:List Value}(h:RawL B w A n cs)(hb:Below B w w'):RawL B w' A n cs:=fun h0=>by
 obtain⟨b,off,e,hlt,hc⟩:=h h0;exact⟨b,off,e,hlt,fun j u hu=>(hb.cell (p:=⟨b,_,none⟩) hlt).trans (hc j u hu)⟩
def CAtL(L0 B0:Nat)(w:Ba)(A:Bb)(xs:List Cs):Prop:=∃cs:List Value,cs.length=xs.length*3/\RawL B0 w A xs.length cs/\(∀u∈cs,u.oneCell'=true) /\
  ∀(i:Nat) (hi:i<xs.length),∃d,cCs.lies (fun k=>L0<=k/\k<B0) w d xs[i]/\∀j u,d[j]?=some u->cs[i*3+j]?=some u
def SAtL(L0 B0:Nat)(w:Ba)(A:Bb)(xs:List (List Mv)):Prop:=∃cs:List Value,cs.length=xs.length*1/\RawL B0 w A xs.length cs/\(∀u∈cs,u.oneCell'=true) /\
  ∀(i:Nat) (hi:i<xs.length),∃d,cMl.lies (fun k=>L0<=k/\k<B0) w d xs[i]/\∀j u,d[j]?=some u->cs[i*1+j]?=some u
section
variable {L0 B0:Nat} {w w':Ba} {A:Bb}
theorem CAtL.keep{xs:List Cs}(h:CAtL L0 B0 w A xs)(hb:Below B0 w w'):CAtL L0 B0 w' A xs:=by
 obtain⟨cs,h1,h2,h3,h4⟩:=h;refine⟨cs,h1,h2.keep hb,h3,fun i hi=>?_⟩;obtain⟨d,h5,h6⟩:=h4 i hi;exact⟨d,xY.keep h5 ⟨hb.size,fun k hk _=>hb.block k hk.2⟩,h6⟩
theorem SAtL.keep{xs:List (List Mv)}(h:SAtL L0 B0 w A xs)(hb:Below B0 w w'):SAtL L0 B0 w' A xs:=by
 obtain⟨cs,h1,h2,h3,h4⟩:=h;refine⟨cs,h1,h2.keep hb,h3,fun i hi=>?_⟩;obtain⟨d,h5,h6⟩:=h4 i hi;exact⟨d,qZ.keep h5 ⟨hb.size,fun k hk _=>hb.block k hk.2⟩,h6⟩
theorem CAtL.raw{xs:List Cs}(h:CAtL L0 B0 w A xs)(hB:B0<=w.heap.size):∃cs:List Value,cs.length=xs.length*3/\Raw w A xs.length cs/\(∀u∈cs,u.oneCell'=true) /\
  ∀(i:Nat) (hi:i<xs.length),∃d,cCs.lies (fun k=>L0<=k/\k<B0) w d xs[i]/\∀j u,d[j]?=some u->cs[i*3+j]?=some u:=by
 obtain⟨cs,h1,h2,h3,h4⟩:=h;exact⟨cs,h1,h2.raw hB,h3,h4⟩
theorem SAtL.raw{xs:List (List Mv)}(h:SAtL L0 B0 w A xs)(hB:B0<=w.heap.size):∃cs:List Value,cs.length=xs.length*1/\Raw w A xs.length cs/\(∀u∈cs,u.oneCell'=true) /\
  ∀(i:Nat) (hi:i<xs.length),∃d,cMl.lies (fun k=>L0<=k/\k<B0) w d xs[i]/\∀j u,d[j]?=some u->cs[i*1+j]?=some u:=by
 obtain⟨cs,h1,h2,h3,h4⟩:=h;exact⟨cs,h1,h2.raw hB,h3,h4⟩
theorem CAtL.of{xs:List Cs}(h:CAt w B0 A xs)(hB:B0<=w.heap.size):CAtL 0 B0 w A xs:=by
 obtain⟨cs,h1,h2,h3,h4⟩:=h.raw hB;refine⟨cs,h1,fun h0=>?_,h3,fun i hi=>?_⟩
 . obtain⟨b,off,e,_,hc⟩:=h2 h0
   obtain⟨b',off',e',hb',_⟩:=h h0;rw[e] at e';simp only[Option.some.injEq,Addr.mk.injEq,and_true] at e';exact⟨b,off,e,by omega,hc⟩
 . obtain⟨d,h5,h6⟩:=h4 i hi
   exact⟨d,xY.mono h5 fun k _ hk=>⟨NC _,hk⟩,h6⟩
theorem SAtL.of{xs:List (List Mv)}(h:SAt w B0 A xs)(hB:B0<=w.heap.size):SAtL 0 B0 w A xs:=by
 obtain⟨cs,h1,h2,h3,h4⟩:=h.raw hB;refine⟨cs,h1,fun h0=>?_,h3,fun i hi=>?_⟩
 . obtain⟨b,off,e,_,hc⟩:=h2 h0
   obtain⟨b',off',e',hb',_⟩:=h h0;rw[e] at e';simp only[Option.some.injEq,Addr.mk.injEq,and_true] at e';exact⟨b,off,e,by omega,hc⟩
 . obtain⟨d,h5,h6⟩:=h4 i hi
   exact⟨d,qZ.mono h5 fun k _ hk=>⟨NC _,hk⟩,h6⟩
end
end
section
open Go.RowKit
attribute [local go_sem] Oper.semAt_some
structure CpIn(B:Nat)(p:Pb)(A:Bb)(kc:Nat)(SV:Bb)(ks:Nat)(Z:Array Value)(w W:Ba):Prop where
 bel:Below B w W
 b0:W.heap[B]?=some (.cells (p.vs A kc SV ks) 29 (0,0))
 b1:W.heap[B+1]?=some (.cells Z 29 (0,0))
def Nbx(L0 B0 B k:Nat):Prop:=k≠B/\k≠B+1/\((L0<=k/\k<B0)\/B<=k)
theorem CpIn.on{B:Nat}{p:Pb}{A:Bb}{kc:Nat}{SV:Bb}{ks:Nat}{Z:Array Value}{w W W':Ba}(h:CpIn B p A kc SV ks Z w W)(hb:Below W.heap.size W W'):CpIn B p A kc SV ks Z w W':=by
 have:=zj h.b1;exact⟨h.bel.trans (hb.mono (by omega)),Lb hb (by omega) h.b0,Lb hb (by omega) h.b1⟩
theorem CpIn.set{B:Nat}{p:Pb}{A:Bb}{kc:Nat}{SV:Bb}{ks:Nat}{Z:Array Value}{w W:Ba}(h:CpIn B p A kc SV ks Z w W){g:Nat}(hg:B+1<g)(o:Nat)(v:Value):CpIn B p A kc SV ks Z w (W.setCell ⟨g,o,none⟩ v):=
 ⟨h.bel.setCell (by show B<=g;omega) _,(Lf W _ v B (by show B≠g;omega)).trans h.b0,(Lf W _ v (B+1) (by show B+1≠g;omega)).trans h.b1⟩
theorem copied_any(p:Pb)(hf:XQ p)(hc1:1<=p.t.cases.length)(hs1:1<=p.a.sts.length)(A:Bb)(kc:Nat)(SV:Bb)(ks:Nat)(w:Ba)(L0 B0:Nat)(hB0:B0<=w.heap.size)(hA:CAtL L0 B0 w A p.t.cases)(hS:SAtL L0 B0 w SV p.a.sts) :
  Calls Tryz.prog 96 #[.agg (p.vs A kc SV ks)] w fun e w'=>∃g kc' gm ks',e=.returned (.agg (p.vs (some ⟨g,0,none⟩) kc' (some ⟨gm,0,none⟩) ks'))/\RowX cCs (fun b=>(L0<=b/\b<B0)\/w.heap.size<=b) w' g p.t.cases/\RowX cMl (fun b=>(L0<=b/\b<B0)\/w.heap.size<=b) w' gm p.a.sts/\w.heap.size<=g/\w.heap.size<=gm/\Below w.heap.size w w':=by
 have hfc:=hf.1.1;have hfs:=hf.2.1;obtain⟨w1,hw1,d0,d1,hsz,hBw⟩:=yB w (p.vs A kc SV ks) #[.int .i64 0,.int .i64 0,.int .i64 0,.slice none 0 0,.int .i64 0,.slice none 0 0,.int .i64 0] 29 29;have hBw0:=hBw.mono hB0;have HS:=zH (hS.keep hBw0);have hw10:B0<=w1.heap.size:=by have:=hBw.size;omega
 obtain⟨ccs,ccl,ccr,cc1,cce⟩:=(hA.keep hBw0).raw hw10;have HC:=zH (clone_kCs A p.t.cases.length kc ccs w1 ccl ccr cc1 (by omega));have HBW:=zH hBw;have HD0:=zH d0;have HD1:=zH d1;have HCE:=zH cce;have HFT:=zH hf.1;have HFA:=zH hf.2;clear hA hS hf ccl ccr cc1 cce;unfold Pb.vs at hw1 d0;have p3:=zh d0 3 rfl;have f3:=zi d0 3;have HW1:=zH hw1;clear hw1 d0 d1 hBw hBw0;unfold Pb.vs;go_enter Tryz.func96,Tryz.ntmps96;go_wp2_with fail;rw[HW1.out];refine HC.out.mono ?_;rintro e w2 ⟨v2,rfl,ho2,hb2⟩;obtain⟨A2,c2,rfl,hc2,hm2,hg2⟩:=ho2.form;obtain⟨g,rfl,_,hgl,_⟩:=hg2 (by omega);have hge:w1.heap.size<=g:=(ho2.lt g rfl).1;have hsz2:=hb2.size;have hgb:w.heap.size+1<g:=by omega
 have R2:RowX cCs (Nbx L0 B0 w.heap.size) w2 g p.t.cases:=RowX.of_own xY ho2 rfl rfl (fun i hi=>by
  obtain⟨d,h1,h2⟩:=HCE.out i hi
  refine⟨d,xY.mono (xY.keep h1 ⟨hb2.size,fun k hk _=>hb2.block k (by omega)⟩) fun k _ hk=>⟨⟨by omega,by omega⟩,by omega⟩,h2⟩)
 have D0:=La hb2 HD0.out;have D1:=La hb2 HD1.out;have p3:=zh D0 3 rfl;have f3:=zi D0 3;obtain⟨W3,hW3⟩:=Ki (w2.setCell ⟨w.heap.size,3,none⟩ (.slice (some ⟨g,0,none⟩) p.t.cases.length c2))
 have H3:Hid (CpIn w.heap.size p (some ⟨g,0,none⟩) c2 SV ks #[.int .i64 0,.int .i64 0,.int .i64 0,.slice none 0 0,.int .i64 0,.slice none 0 0,.int .i64 0] w W3):=by
  rw[<-hW3];refine⟨(HBW.out.trans (hb2.mono (by omega))).setCell (Le _) _,?_,(Lf w2 _ _ (w.heap.size+1) (by show w.heap.size+1≠w.heap.size;omega)).trans D1⟩;rw[Ll w2 w.heap.size 3 _ _ _ D0]
  rfl
 have R3:Hid (RowX cCs (Nbx L0 B0 w.heap.size) W3 g p.t.cases):=by rw[<-hW3];exact R2.other xY 3 _ (by omega) (fun h=>h.1 rfl)
 have HS3:Hid (SAtL L0 B0 W3 SV p.a.sts):=HS.out.keep (by
  rw[<-hW3]
  exact((Below.mono hb2 (show w.heap.size<=w1.heap.size by omega)).setCell (Le _) _).mono hB0)
 have q3:W3.cell? ⟨w.heap.size,3,none⟩=some (.slice (some ⟨g,0,none⟩) p.t.cases.length c2):=zh H3.out.b0 3 rfl;clear R2 D0 D1 ho2 hb2 hc2 hm2 HC HCE;go_wp2_with fail;clear p3 f3 hW3 q3
 go_loopw [17] (fun i wr=>∃k:Nat,k<=p.t.cases.length/\i=.int .i64 (k:Int)/\Hid (CpIn w.heap.size p (some ⟨g,0,none⟩) c2 SV ks #[.int .i64 0,.int .i64 0,.int .i64 0,.slice none 0 0,.int .i64 0,.slice none 0 0,.int .i64 0] w wr)/\Hid (RowX cCs (Nbx L0 B0 w.heap.size) wr g p.t.cases)/\Hid (SAtL L0 B0 wr SV p.a.sts)) (fun i _=>p.t.cases.length-(intOf i).toNat)
 case atStart=>exact⟨0,by omega,rfl,H3.out,R3.out,HS3.out⟩
 case round=>
  clear H3 R3 HS3;obtain⟨k,hk,rfl,HI,HR,HSr⟩:=hrel
  by_cases hkl:k<p.t.cases.length
  case neg=>
   obtain rfl:k=p.t.cases.length:=by omega
   have b0:=HI.out.b0;have q5:wr.cell? ⟨w.heap.size,5,none⟩=some (.slice SV p.a.sts.length ks):=zh b0 5 rfl;have f5:=zi b0 5;have hsr:=HI.out.bel.size;obtain⟨ccs,ccl,ccr,cc1,cce⟩:=HSr.out.raw (by omega);have HC:=zH (clone_kMl SV p.a.sts.length ks ccs wr ccl ccr cc1 (by omega));have HCE:=zH cce;have hbx:=zj HI.out.b1;clear ccl ccr cc1 cce b0;go_wp2_with fail;refine HC.out.mono ?_;rintro e w2' ⟨v2,rfl,ho2,hb2⟩;obtain⟨A2,c3,rfl,_,_,hg2⟩:=ho2.form;obtain⟨gm,rfl,_,hgml,_⟩:=hg2 (by omega);have hgem:wr.heap.size<=gm:=(ho2.lt gm rfl).1;have hgg:g<wr.heap.size:=HR.out.lt
   have R2:RowX cMl (fun b=>Nbx L0 B0 w.heap.size b/\b≠g) w2' gm p.a.sts:=RowX.of_own qZ ho2 rfl rfl (fun i hi=>by
    obtain⟨d,h1,h2⟩:=HCE.out i hi
    exact⟨d,qZ.mono (qZ.keep h1 ⟨hb2.size,fun k hk _=>hb2.block k (by omega)⟩) fun k _ hk=>⟨⟨⟨by omega,by omega⟩,by omega⟩,by omega⟩,h2⟩)
   have I2:=HI.out.on hb2;have q5':w2'.cell? ⟨w.heap.size,5,none⟩=some (.slice SV p.a.sts.length ks):=zh I2.b0 5 rfl;have f5':=zi I2.b0 5;have RC:RowX cCs (fun b=>Nbx L0 B0 w.heap.size b/\b≠gm) w2' g p.t.cases:=(HR.out.mono xY fun b hb hs=>⟨hs,by omega⟩).below xY hb2 (Le _);obtain⟨W3,hW3⟩:=Ki (w2'.setCell ⟨w.heap.size,5,none⟩ (.slice (some ⟨gm,0,none⟩) p.a.sts.length c3))
   have H3:Hid (CpIn w.heap.size p (some ⟨g,0,none⟩) c2 (some ⟨gm,0,none⟩) c3 #[.int .i64 0,.int .i64 0,.int .i64 0,.slice none 0 0,.int .i64 0,.slice none 0 0,.int .i64 0] w W3):=by
    rw[<-hW3];refine⟨I2.bel.setCell (Le _) _,?_,(Lf w2' _ _ (w.heap.size+1) (by show w.heap.size+1≠w.heap.size;omega)).trans I2.b1⟩;rw[Ll w2' w.heap.size 5 _ _ _ I2.b0]
    rfl
   have R3:Hid (RowX cMl (fun b=>Nbx L0 B0 w.heap.size b/\b≠g) W3 gm p.a.sts):=by rw[<-hW3];exact R2.other qZ 5 _ (by omega) (fun h=>h.1.1 rfl)
   have RC3:Hid (RowX cCs (fun b=>Nbx L0 B0 w.heap.size b/\b≠gm) W3 g p.t.cases):=by rw[<-hW3];exact RC.other xY 5 _ (by omega) (fun h=>h.1.1 rfl)
   have q6:W3.cell? ⟨w.heap.size,5,none⟩=some (.slice (some ⟨gm,0,none⟩) p.a.sts.length c3):=zh H3.out.b0 5 rfl;have hsz2':=hb2.size;clear R2 I2 RC ho2 hb2 HC HCE q5 f5 hg2;go_wp2_with fail;clear q5' f5' hW3 q6
   go_loopw [48] (fun i wx=>∃k:Nat,k<=p.a.sts.length/\i=.int .i64 (k:Int)/\Hid (CpIn w.heap.size p (some ⟨g,0,none⟩) c2 (some ⟨gm,0,none⟩) c3 #[.int .i64 0,.int .i64 0,.int .i64 0,.slice none 0 0,.int .i64 0,.slice none 0 0,.int .i64 0] w wx)/\Hid (RowX cMl (fun b=>Nbx L0 B0 w.heap.size b/\b≠g) wx gm p.a.sts)/\Hid (RowX cCs (fun b=>Nbx L0 B0 w.heap.size b/\b≠gm) wx g p.t.cases)) (fun i _=>p.a.sts.length-(intOf i).toNat)
   case atStart=>exact⟨0,by omega,rfl,H3.out,R3.out,RC3.out⟩
   case round=>
    clear H3 R3 RC3 HI HR HSr;obtain⟨k,hk,rfl,HI,HR,HRC⟩:=hrel
    by_cases hkl:k<p.a.sts.length
    case neg=>
     obtain rfl:k=p.a.sts.length:=by omega
     have b0:=HI.out.b0;have b1:=HI.out.b1;have c0:wr.cell? ⟨w.heap.size,0,none⟩=some (.int .i64 p.t.n):=zh b0 0 rfl;have c1:wr.cell? ⟨w.heap.size,1,none⟩=some (.int .i64 p.t.ins):=zh b0 1 rfl;have c2':wr.cell? ⟨w.heap.size,2,none⟩=some (.int .i64 p.t.outs):=zh b0 2 rfl;have c3':wr.cell? ⟨w.heap.size,3,none⟩=some (.slice (some ⟨g,0,none⟩) p.t.cases.length c2):=zh b0 3 rfl;have c4:wr.cell? ⟨w.heap.size,4,none⟩=some (.int .i64 p.a.n):=zh b0 4 rfl;have c5:wr.cell? ⟨w.heap.size,5,none⟩=some (.slice (some ⟨gm,0,none⟩) p.a.sts.length c3):=zh b0 5 rfl;have c6:wr.cell? ⟨w.heap.size,6,none⟩=some (.int .i64 p.k):=zh b0 6 rfl;obtain⟨e0,e1,e2,e3,e4,e5,e6,_⟩:=Kf b1;have z0:=zi b1 0;have z1:=zi b1 1;have z2:=zi b1 2;have z3:=zi b1 3;have z4:=zi b1 4;have z5:=zi b1 5;have z6:=zi b1 6;clear b0 b1;have HB9:=zH HI.out.bel;have HCT:=zH HRC.out;have HST:=zH HR.out;have hgl1:=HRC.out.lt;have hgl2:=HR.out.lt;have hgm1:w.heap.size+1<gm:=by omega
     have HO1:=zH (fun (o:Nat) (v:Value) (W:Ba) (h:RowX cCs (fun b=>Nbx L0 B0 w.heap.size b/\b≠gm) W g p.t.cases)=>h.other xY o v (show w.heap.size+1≠g by omega) (fun h=>h.1.2.1 rfl));have HO2:=zH (fun (o:Nat) (v:Value) (W:Ba) (h:RowX cMl (fun b=>Nbx L0 B0 w.heap.size b/\b≠g) W gm p.a.sts)=>h.other qZ o v (show w.heap.size+1≠gm by omega) (fun h=>h.1.2.1 rfl));clear HI HR HRC;go_wp2_with fail;refine L1 (v:=.agg (p.vs (some ⟨g,0,none⟩) c2 (some ⟨gm,0,none⟩) c3)) (by simp[results,Tryz.results96,go_sem,e0,e1,e2,e3,e4,e5,e6,Pb.vs]) rfl ?_;refine⟨g,c2,gm,c3,rfl,?_,?_,by omega,by omega,?_⟩
     . refine RowX.mono (S:=fun b=>Nbx L0 B0 w.heap.size b/\b≠gm) xY ?_ (fun b _ hs=>hs.1.2.2)
       exact HO1.out _ _ _ (HO1.out _ _ _ (HO1.out _ _ _ (HO1.out _ _ _ (HO1.out _ _ _ (HO1.out _ _ _ (HO1.out _ _ _ (HCT.out)))))))
     . refine RowX.mono (S:=fun b=>Nbx L0 B0 w.heap.size b/\b≠g) qZ ?_ (fun b _ hs=>hs.1.2.2)
       exact HO2.out _ _ _ (HO2.out _ _ _ (HO2.out _ _ _ (HO2.out _ _ _ (HO2.out _ _ _ (HO2.out _ _ _ (HO2.out _ _ _ (HST.out)))))))
     . have hl9:w.heap.size<=w.heap.size+1:=by omega
       exact(((((((HB9.out).setCell hl9 _).setCell hl9 _).setCell hl9 _).setCell hl9 _).setCell hl9 _).setCell hl9 _).setCell hl9 _
    case pos=>
     obtain⟨arr,ha1,ha2⟩:=HR.out;obtain⟨cs,⟨A0,k0,rfl,i0⟩,hcs⟩:=ha2 k hkl
     have x0:wr.cell? ⟨gm,k,none⟩=some (.slice A0 p.a.sts[k].length k0):=by
      have:=hcs 0 _ rfl;change arr[k*1+0]?=_ at this;exact zh ha1 _ (by rw[<-this];congr 1;omega)
     have hk0:(0:Int)<=(k:Int):=by omega
     have hk1:(k:Int)<(p.a.sts.length:Int):=by omega
     have hgw:gm<wr.heap.size:=zj ha1;have hBx:=zj HI.out.b1;have hm40:=HFA.out.each (Ld hkl);obtain⟨x,hx⟩:=Ki (p.a.sts[k]);have HXX:=zH hx;rw[hx] at x0 i0 hm40;have HC:=zH (clone_kMv A0 x.length k0 (kA x) wr.drew (vj x) (JU (w:=wr.drew) i0.mat) (JW x) (by omega));have q5:wr.cell? ⟨w.heap.size,5,none⟩=some (.slice (some ⟨gm,0,none⟩) p.a.sts.length c3):=zh HI.out.b0 5 rfl;clear ha1 ha2 hcs hx i0;go_wp2_with fail
     refine zz [(0,true),(1,true),(2,true),(3,true),(4,true),(5,false),(6,false),(7,false)]
      (fun W=>W.cell? ⟨w.heap.size,5,none⟩=some (.slice (some ⟨gm,0,none⟩) p.a.sts.length c3)) (by kernel_rfl) (by kernel_rfl) (by exact q5) ?_
     repeat
      apply zG rfl
      . rintro K' hK' W y0
        go_simp;exact hK'
     refine zE rfl ?_;intro K' hK';go_simp;refine HC.out.mono ?_;rintro e w5 ⟨v5,rfl,ho5,hb5⟩;have hb5:Below wr.heap.size wr w5:=Q7 hb5;have ho5:OwnR kMv w5 wr.heap.size v5 x.length (kA x):=ho5;obtain⟨A5,c5,rfl,_,_,hl5⟩:=JV ho5;have I5:=HI.out.on hb5;have q5':w5.cell? ⟨w.heap.size,5,none⟩=some (.slice (some ⟨gm,0,none⟩) p.a.sts.length c3):=zh I5.b0 5 rfl;refine hK' _ _ q5' ?_;clear hK' K';refine zE rfl ?_;intro K' hK';go_simp;refine hK' _ _ q5' ?_;clear hK' K';have HR5:=HR.out.below qZ hb5 (Le _);obtain⟨arr,ha1,ha2⟩:=HR5;obtain⟨cs,⟨Q0,n0,rfl,_⟩,hcs⟩:=ha2 k hkl
     have x1:w5.cell? ⟨gm,k,none⟩=some (.slice Q0 p.a.sts[k].length n0):=by
      have:=hcs 0 _ rfl;change arr[k*1+0]?=_ at this;exact zh ha1 _ (by rw[<-this];congr 1;omega)
     have y1:=zi ha1 k
     have hX:cMl.lies (fun b=>(fun b=>Nbx L0 B0 w.heap.size b/\b≠g) b/\b≠gm) w5 [.slice A5 x.length c5] p.a.sts[k]:=by
      rw[HXX.out];have hgl:=HRC.out.lt;exact⟨A5,c5,rfl,hl5.mono fun b _ hb=>⟨⟨⟨by omega,by omega⟩,by omega⟩,by omega⟩⟩
     have HRn:=zH (RowX.set1 qZ rfl (HR.out.below qZ hb5 (Le _)) hkl hX);have hNg:w.heap.size+1<gm:=by omega
     have HIn:=zH (I5.set hNg k (.slice A5 x.length c5));have hgmg:gm≠g:=by omega
     have HRCn:=zH ((HRC.out.below xY hb5 (Le _)).other xY k (.slice A5 x.length c5) hgmg (fun h=>h.2 rfl));clear ha1 ha2 hcs hX I5 hl5 ho5 hb5;refine xa rfl (by kernel_rfl) ?_;intro K' hK';go_simp;refine hK' (fun _=>True) _ _ trivial ?_;refine zQ ?_;clear hK' K';go_wp2_with fail
     go_roundw
     case rel=>exact⟨k+1,by omega,by go_num,HIn,HRn,HRCn⟩
     case measure=>simp[intOf];omega
  case pos=>
   obtain⟨arr,ha1,ha2⟩:=HR.out;obtain⟨cs,⟨A0,k0,A1,k1,A2,k2,rfl,i0,l1,l2⟩,hcs⟩:=ha2 k hkl;have x0:wr.cell? ⟨g,k*3,none⟩=some (.slice A0 p.t.cases[k].inp.length k0):=zh ha1 _ (hcs 0 _ rfl);have x1:wr.cell? ⟨g,k*3+1,none⟩=some (.slice A1 p.t.cases[k].out.length k1):=zh ha1 _ (hcs 1 _ rfl);have x2:wr.cell? ⟨g,k*3+2,none⟩=some (.slice A2 p.t.cases[k].calm.length k2):=zh ha1 _ (hcs 2 _ rfl);have hk0:(0:Int)<=(k:Int):=by omega
   have hk1:(k:Int)<(p.t.cases.length:Int):=by omega
   have hgw:g<wr.heap.size:=zj ha1;have hBx:=zj HI.out.b1;clear ha1 ha2 hcs;have HLC:=HFT.out.2 p.t.cases[k] (Ld hkl);obtain⟨x,hx⟩:=Ki (p.t.cases[k]);have HXX:=zH hx;rw[hx] at x0 x1 x2 i0 l1 l2 HLC;clear hx;go_wp2_with fail;clear x0 x1 x2;obtain⟨W4,hW4,g0,hsz4,hB4⟩:=zn wr #[.slice A0 x.inp.length k0,.slice A1 x.out.length k1,.slice A2 x.calm.length k2] 87;rw[hW4];clear hW4;have H4:=HI.out.on hB4;have p4:W4.cell? ⟨w.heap.size,3,none⟩=some (.slice (some ⟨g,0,none⟩) p.t.cases.length c2):=zh H4.b0 3 rfl;have HI0:=zH i0.iat;have HL1:=zH l1.lat;have HL2:=zH l2.lat;have HB4:=zH hB4;have HR4:=zH (HR.out.below xY hB4 (Le _));have HG4:=zH g0;have hN0:w.heap.size<W4.heap.size:=by omega
   clear i0 l1 l2 hB4 H4
   refine zz [(0,true),(1,true),(2,true),(3,true),(4,true),(5,true),(7,true),(8,true),(10,true),(11,true),(6,false),(9,false),(12,false),(13,false),(14,false),(15,false)]
    (fun W=>W.cell? ⟨w.heap.size,3,none⟩=some (.slice (some ⟨g,0,none⟩) p.t.cases.length c2)/\W.heap[wr.heap.size]?=some (.cells #[.slice A0 x.inp.length k0,.slice A1 x.out.length k1,.slice A2 x.calm.length k2] 87 (0,0)))
    (by kernel_rfl) (by kernel_rfl) ⟨p4,g0⟩ ?_
   repeat
    apply zG rfl
    . rintro K' hK' W ⟨y0,y1⟩
      have z0:W.cell? ⟨wr.heap.size,0,none⟩=some (.slice A0 x.inp.length k0):=zh y1 0 rfl;have z1:W.cell? ⟨wr.heap.size,1,none⟩=some (.slice A1 x.out.length k1):=zh y1 1 rfl;have z2:W.cell? ⟨wr.heap.size,2,none⟩=some (.slice A2 x.calm.length k2):=zh y1 2 rfl;clear y1;go_simp;exact hK'
   clear p4 g0;have hwr4:=HB4.out.size
   -- the inputs
   refine zE rfl ?_;intro K' hK';go_simp;refine(ZY A0 k0 x.inp W4.drew (((HI0.out.keep HB4.out).more hwr4)) (by have:=HLC.1;omega)).mono ?_;rintro e w5 ⟨A5,c5,rfl,hi5,hb5⟩;have hb5:Below W4.heap.size W4 w5:=Q7 hb5;have HB5:=zH hb5;have hi5:IAtS (fun b=>W4.heap.size<=b) w5 A5 x.inp:=hi5;have HI5:=zH hi5;have hwr5:=hb5.size;have E5:Below wr.heap.size wr w5:=HB4.out.trans (hb5.mono (by omega));refine hK' _ _ ⟨zh (HI.out.on E5).b0 3 rfl,Lb hb5 (by omega) HG4.out⟩ ?_;clear hK' K' hb5 hi5
   -- the outputs
   refine zE rfl ?_;intro K' hK';go_simp;refine(ww A1 k1 x.out w5 ((HL1.out.keep E5).more E5.size) (by have:=HLC.2.1.1;omega) (fun v hv=>by have:=HLC.2.1.2 v hv;omega)).mono ?_;rintro e w6 ⟨v6,rfl,ho6,hb6⟩;obtain⟨A6,c6,rfl,_,_,hl6⟩:=Q4 ho6;have HB6:=zH hb6;have HL6:=zH hl6;have hwr6:=hb6.size;have E6:Below wr.heap.size wr w6:=Lc E5 hb6;refine hK' _ _ ⟨zh (HI.out.on E6).b0 3 rfl,Lb hb6 (by omega) (Lb HB5.out (by omega) HG4.out)⟩ ?_;clear hK' K' hb6 hl6 ho6
   -- the calm ones
   refine zE rfl ?_;intro K' hK';go_simp;refine(ww A2 k2 x.calm w6 ((HL2.out.keep E6).more E6.size) (by have:=HLC.2.2.1;omega) (fun v hv=>by have:=HLC.2.2.2 v hv;omega)).mono ?_;rintro e w7 ⟨v7,rfl,ho7,hb7⟩;obtain⟨A7,c7,rfl,_,_,hl7⟩:=Q4 ho7;have HB7:=zH hb7;have HL7:=zH hl7;have hwr7:=hb7.size;have E7:Below wr.heap.size wr w7:=Lc E6 hb7;have HE7:=zH E7;refine hK' _ _ ⟨zh (HI.out.on E7).b0 3 rfl,Lb hb7 (by omega) (Lb HB6.out (by omega) (Lb HB5.out (by omega) HG4.out))⟩ ?_;have HR7:=zH (HR.out.below xY E7 (Le _));obtain⟨arr,ha1,ha2⟩:=HR7.out;obtain⟨cs,⟨Q0,n0,B1,n1,B2,n2,rfl,_,_,_⟩,hcs⟩:=ha2 k hkl;have x0:w7.cell? ⟨g,k*3,none⟩=some (.slice Q0 p.t.cases[k].inp.length n0):=zh ha1 _ (hcs 0 _ rfl);have x1:w7.cell? ⟨g,k*3+1,none⟩=some (.slice B1 p.t.cases[k].out.length n1):=zh ha1 _ (hcs 1 _ rfl);have x2:w7.cell? ⟨g,k*3+2,none⟩=some (.slice B2 p.t.cases[k].calm.length n2):=zh ha1 _ (hcs 2 _ rfl);have y0:=zi ha1 (k*3);have y1:=zi ha1 (k*3+1);have y2:=zi ha1 (k*3+2);have q3:w7.cell? ⟨w.heap.size,3,none⟩=some (.slice (some ⟨g,0,none⟩) p.t.cases.length c2):=zh (HI.out.on E7).b0 3 rfl;have HKK:=zH ((hb7.block wr.heap.size (by omega)).trans (Lb HB6.out (by omega) (Lb HB5.out (by omega) HG4.out)));clear hK' K' hb7 hl7 ho7 ha1 ha2 hcs E5 E6 E7;refine zE rfl ?_;intro K' hK';go_simp;refine hK' _ _ ⟨q3,HKK.out⟩ ?_;clear hK' K';refine zE rfl ?_;intro K' hK';go_simp;refine hK' _ _ ⟨q3,HKK.out⟩ ?_
   clear hK' K';refine xa rfl (by kernel_rfl) ?_;intro K' hK';go_simp;refine hK' (fun _=>True) _ _ trivial ?_;refine zQ ?_;clear hK' K' x0 x1 x2 y0 y1 y2 q3;have hlt7:W4.heap.size<=w7.heap.size:=by omega
   have hX:cCs.lies (fun b=>Nbx L0 B0 w.heap.size b/\b≠g) w7 [.slice A5 x.inp.length c5,.slice A6 x.out.length c6,.slice A7 x.calm.length c7] p.t.cases[k]:=by
    rw[HXX.out];refine⟨A5,c5,A6,c6,A7,c7,rfl,?_,?_,?_⟩
    . exact(HI5.out.on (HB6.out.trans (HB7.out.mono hwr6))).mono fun b _ hb=>⟨⟨by omega,by omega⟩,by omega⟩
    . exact(HL6.out.on HB7.out).mono fun b _ hb=>⟨⟨by omega,by omega⟩,by omega⟩
    . exact HL7.out.mono fun b _ hb=>⟨⟨by omega,by omega⟩,by omega⟩
   have HRn:=zH (HR7.out.set3 hkl hX);have hNg:w.heap.size+1<g:=hgb;have HIn:=zH ((((HI.out.on HE7.out).set hNg (k*3) (.slice A5 x.inp.length c5)).set hNg (k*3+1) (.slice A6 x.out.length c6)).set hNg (k*3+2) (.slice A7 x.calm.length c7))
   have HSn:Hid (SAtL L0 B0 (((w7.setCell ⟨g,k*3,none⟩ (.slice A5 x.inp.length c5)).setCell ⟨g,k*3+1,none⟩ (.slice A6 x.out.length c6)).setCell ⟨g,k*3+2,none⟩ (.slice A7 x.calm.length c7)) SV p.a.sts):=
    HSr.out.keep (((((HE7.out.mono (by omega:w.heap.size<=wr.heap.size)).setCell (by show w.heap.size<=g;omega) _).setCell (by show w.heap.size<=g;omega) _).setCell (by show w.heap.size<=g;omega) _).mono hB0)
   go_wp2_with fail
   go_roundw
   case rel=>exact⟨k+1,by omega,by go_num,HIn,HRn,HSn⟩
   case measure=>simp[intOf];omega
theorem zX{p:Pb}(h:zU p=0):xn p.t=0/\qk p.a=0/\p.t.n=p.a.n/\0<=p.k/\p.k<=6:=by
 by_cases h1:xn p.t=0
 case neg=>rw[vz h1] at h;exact absurd h h1
 by_cases h2:qk p.a=0
 case neg=>rw[uF h1 h2] at h;exact absurd h h2
 by_cases h3:p.t.n=p.a.n
 case neg=>rw[Xn h1 h2 h3] at h;cases h
 by_cases h4:p.k<0\/6<p.k
 . rw[Xo h1 h2 h3 h4] at h;cases h
 . exact⟨h1,h2,h3,by omega,by omega⟩
theorem xg{t:Tk}(h:xn t=0):1<=t.cases.length/\1<=t.n/\t.n<=5:=by
 unfold xn at h
 split at h
 . cases h
 . split at h
   . cases h
   . omega
def ye(p:Pb):Nat:=yd p.a p.k.toNat 0*p.t.cases.length
def vJ(p:Pb):Int×Int:=if zU p≠0 then (0,zU p) else j5 1048576 (ye p)
theorem ecount_any(p:Pb)(hf:XQ p)(A:Bb)(kc:Nat)(SV:Bb)(ks:Nat)(w:Ba)(hA:CAt w w.heap.size A p.t.cases)(hS:SAt w w.heap.size SV p.a.sts) :
  Calls Tryz.prog 94 #[.agg (p.vs A kc SV ks)] w fun e w'=>e=.returned (.tuple #[.int .i64 (vJ p).1,.int .i64 (vJ p).2])/\Below w.heap.size w w':=by
 have HP:=zH (fun (w':Ba) (h:CAt w' w'.heap.size A p.t.cases) (h2:SAt w' w'.heap.size SV p.a.sts)=>JK p hf A kc SV ks w' h h2);have HF:=zH (@zX p);have hc30:=hf.1.1;have HCN:=zH (fun (h:qk p.a=0) (K:Nat) (hK:K<=6) (w':Ba) (h':SAt w' w'.heap.size SV p.a.sts)=>Jd p.a hf.2 h K hK SV ks w' h');have HE1:Hid (zU p≠0->vJ p=(0,zU p)):=fun h=>Lh h
 have HE2:Hid (zU p=0->vJ p=j5 1048576 (ye p)):=fun h=>Lg (by simpa using h)
 obtain⟨E,hE⟩:=Ki (vJ p);rw[hE] at HE1 HE2 ⊢;obtain⟨pe,hpe⟩:=Ki (zU p);rw[hpe] at HE1 HE2 HF HP;clear hE hpe hf;obtain⟨w1,hw1⟩:=Ki (w.alloc (.cells (p.vs A kc SV ks) 29));have hbb:=zw w (.cells (p.vs A kc SV ks) 29);have hb01:Below w.heap.size w w1:=by rw[<-hw1];exact zW w _
 have hsz1:w1.heap.size=w.heap.size+1:=by rw[<-hw1];simp
 rw[hw1] at hbb;unfold Pb.vs at hw1 hbb HP ⊢;have HBB:=zH hbb;have HB01:=zH hb01;have HA:=zH ((hA.keep hb01).more (by omega:w.heap.size<=w1.heap.size));have HS:=zH ((hS.keep hb01).more (by omega:w.heap.size<=w1.heap.size));have HW1:=zH hw1;obtain⟨q0,q1,q2,q3,q4,q5,q6,_⟩:=Kf hbb;clear hA hS hw1 hb01 hbb;go_enter Tryz.func94,Tryz.ntmps94;go_wp2_with fail;rw[HW1.out];go_wp2_with fail;refine(HP.out w1 HA.out HS.out).mono ?_;rintro e w2 ⟨rfl,hb2⟩;have B2:=zH (HB01.out.trans (hb2.mono (by omega)));have HS2:=zH ((HS.out.keep hb2).more hb2.size);have hbk:=La hb2 HBB.out;have HB2:=zH hbk;have hs2:=hb2.size;clear hb2 HP HW1 q0 q1 q2 q3 q4 q5 q6;have q4:=zh hbk 4 rfl;have q5:=zh hbk 5 rfl;have q6:=zh hbk 6 rfl;clear hbk
 by_cases h1:pe=0
 case neg=>
  have hR:=zH (HE1.out h1);have e0:(pe != 0)=true:=by simpa using h1
  clear HE1 HE2 h1 HF HCN;go_wp2_with fail
  go_ret2
  rw[hR.out];exact⟨rfl,B2.out⟩
 case pos=>
 have hR:=zH (HE2.out h1);obtain⟨f1,f2,f3,f4,f5⟩:=HF.out h1;obtain⟨K,hk⟩:=Lr f4;have HN:=zH (HCN.out f2 K (by omega));obtain⟨c1,_⟩:=xg f1;rw[hk] at q6;have hx:ye p=yd p.a K 0*p.t.cases.length:=by unfold ye;rw[hk];rfl
 rw[hx] at hR;subst h1;obtain⟨T,hT⟩:=Ki (yd p.a K 0);rw[hT] at HN hR;clear HE1 HE2 HF HCN f1 f2 f3 f4 hx hT;go_wp2_with fail;refine(HN.out w2 HS2.out).mono ?_;rintro e w3 ⟨rfl,hb3⟩;have B3:=zH (B2.out.trans (hb3.mono (by omega)));have hbk:=La hb3 HB2.out;have q3:=zh hbk 3 rfl;clear hb3 hbk HN q4 q5 q6;obtain⟨cn,hcn⟩:=Ki p.t.cases.length;rw[hcn] at q3 c1 hc30 hR;clear hcn
 by_cases hg:1048576<T
 . have hm:1048576<T*cn:=LC hg (Rj T c1)
   have hR2:Hid (E=(0,17)):=hR.out.trans (Lh hm);have hC:j5 1048576 T=(0,17):=Lh hg;rw[hC];clear hR hm hC hg;go_wp2_with fail
   go_ret2
   rw[hR2.out];exact⟨rfl,B3.out⟩
 . have hC:j5 1048576 T=((T:Int),0):=Lg hg
   rw[hC];have hmb:T*cn<=1048576*30:=LO (by omega) hc30;have hw:IntKind.i64.wrap ((T:Int)*(cn:Int))=((T*cn:Nat):Int):=by rw[Lp,<-Int.natCast_mul];omega
   obtain⟨m,hm⟩:=Ki (T*cn);rw[hm] at hR hmb hw;clear hC hg hm
   by_cases hg:1048576<m
   . have hR2:Hid (E=(0,17)):=hR.out.trans (Lh hg)
     clear hR;go_wp2_with fail
     all_goals first | (exfalso;omega) | skip
     go_ret2
     rw[hR2.out];exact⟨rfl,B3.out⟩
   . have hR2:Hid (E=((m:Int),0)):=hR.out.trans (Lg hg)
     clear hR;go_wp2_with fail
     all_goals first | (exfalso;omega) | skip
     go_ret2
     rw[hR2.out];exact⟨by first | rfl | rw[hw],B3.out⟩
end
section
open Go.RowKit Go.Shelf
def yR(p:Pb):Prop:=XQ p/\(zU p=0->ye p<=60\/4096<ye p)
def zY(p:Pb):Sy×Int:=if zU p≠0 then (qH,zU p) else if 4096<ye p then (qH,17) else (kD p,0)
theorem xm{p:Pb}(h:zU p≠0):zY p=(qH,zU p):=Lh h
theorem xF{p:Pb}(h:zU p=0)(h2:4096<ye p):zY p=(qH,17):=by unfold zY;rw[Lg (by simpa using h),Lh h2]
theorem qv{p:Pb}(h:zU p=0)(h2:ye p<=4096):zY p=(kD p,0):=by unfold zY;rw[Lg (by simpa using h),Lg (by omega)]
def jZ(words:List (List Rd))(l:List (Nat×Nat)):List (Nat×List Rd):=l.map fun x=>(x.1,words.getD x.2 [])
theorem prsW_snoc(words:List (List Rd))(l:List (Nat×Nat))(x:Nat×Nat):jZ words (l++[x])=jZ words l++[(x.1,words.getD x.2 [])]:=by simp[jZ]
theorem prsW_row(words:List (List Rd))(i:Nat):jZ words ((List.range words.length).map fun j=>(i,j))=words.map fun w=>(i,w):=by
 unfold jZ;rw[PU];refine N6 (by simp) fun j h1 h2=>?_
 simp at h1;simp[h1]
theorem Qk(words:List (List Rd)):∀(m i:Nat),jZ words (zr words.length i m)=(List.range m).flatMap fun d=>words.map fun w=>(i+d,w)
 | 0,_=>rfl
 | m+1,i=>by
  rw[zr,jZ,LI];have h1:=prsW_row words i;have h2:=Qk words m (i+1);unfold jZ at h1 h2;rw[h1,h2,List.range_succ_eq_map,NG,List.flatMap_map]
  have e:(fun d=>words.map fun w=>(i+1+d,w))=(fun d=>words.map fun w=>(i+(d+1),w)):=by
   funext d;rw[show i+1+d=i+(d+1) by omega]
  rw[e];rfl
theorem YI(p:Pb)(K:Nat)(hK:p.k=(K:Int)):jZ (zJ p.a K 0) (zr (zJ p.a K 0).length 0 p.t.cases.length)=zx p:=by
 rw[Qk];unfold zx;rw[hK]
 have e:(fun d=>(zJ p.a K 0).map fun w=>(0+d,w))=(fun d=>(zJ p.a ((K:Int).toNat) 0).map fun w=>(d,w)):=by
  funext d;rw[LH];rfl
 rw[e]
theorem js(n:Nat):∀(m i:Nat),(zr n i m).length=m*n
 | 0,_=>by simp[zr]
 | m+1,i=>by rw[zr,Lv,js n m (i+1)];simp;rw[Rb];omega
theorem qf(p:Pb)(l:List (Nat×List Rd)):(zC p l).2.length=l.length:=by
 have key:∀n,n<=l.length->(zC p (l.take n)).2.length=n:=by
  intro n
  induction n with
  | zero=>intro _;rfl
  | succ n ih=>
   intro hl;rw[Lu (by omega),qr,Lv,ih (by omega)];rfl
 have:=key l.length (Le _);rwa[LG] at this
theorem Zi(p:Pb)(hn:p.t.n.toNat<=5)(l:List (Nat×List Rd))(h:∀x∈l,x.2.length<=6):(zC p l).1.length<=l.length*35:=by
 have key:∀n,n<=l.length->(zC p (l.take n)).1.length<=n*35:=by
  intro n
  induction n with
  | zero=>intro _;simp[jn]
  | succ n ih=>
   intro hl;rw[Lu (by omega),qr];have h1:=ih (by omega);obtain⟨x,hx⟩:=Ki (l[n]);have h3:=h l[n] (Ld _);rw[hx] at h3 ⊢;have h2:=kJ (zC p (l.take n)).1 p.t.n.toNat (yt p x.1) x.2 x.2.length;have h4:(x.2.length+1)*p.t.n.toNat<=7*5:=LO (by omega) hn;dsimp only;omega
 have:=key l.length (Le _);rwa[LG] at this
end
section
open Go.RowKit Go.Shelf
structure BlIn(p:Pb)(D B bB bM b7:Nat)(SC:Value->Array Value)(WR:Ba)(l:List (Nat×List Rd))(V E:Value)(X:Ba):Prop where
 wr:Wrote (fun k=>k=bB\/k=bM\/k=b7) WR X
 bd:BdIn B bB bM p.t.n V (zC p l).1 X
 sys:X.heap[b7]?=some (.cells (SC E) 35 (0,0))
 out:OwnX XN (fun k=>D<=k/\V.ownBlock≠some k) X D E (zC p l).2
 no:∀k,V.ownBlock=some k->D<=k/\E.ownBlock≠some k
structure BlB(D B bB bM b7:Nat)(WR:Ba):Prop where
 d:WR.heap.size=D
 b:bB<D
 m:bM<D
 s:b7<D
 lo:B<=bB/\B<=bM/\B<=b7
 bs:bB≠b7
 ms:bM≠b7
section
variable {p:Pb} {D B bB bM b7:Nat} {SC:Value->Array Value} {WR X:Ba} {l:List (Nat×List Rd)} {V E:Value}
theorem BlIn.big(h:BlIn p D B bB bM b7 SC WR l V E X)(hb:BlB D B bB bM b7 WR):D<=X.heap.size:=by have:=h.wr.size;have:=hb.d;omega
theorem BlIn.bel(h:BlIn p D B bB bM b7 SC WR l V E X)(hb:BlB D B bB bM b7 WR):Below B WR X:=h.wr.below (by have:=hb.d;have:=hb.lo;have:=hb.b;omega) fun k hk hr=>by
 have:=hb.lo;rcases hr with e | e | e<;>omega
theorem BlIn.same(h:BlIn p D B bB bM b7 SC WR l V E X)(hb:BlB D B bB bM b7 WR){k:Nat}(hk:k<D)(h1:k≠bB)(h2:k≠bM)(h3:k≠b7):X.heap[k]?=WR.heap[k]?:=
 h.wr.block k (by have:=hb.d;omega) fun hr=>by rcases hr with e | e | e<;>contradiction
theorem BlIn.turn(h:BlIn p D B bB bM b7 SC WR l V E X)(hb:BlB D B bB bM b7 WR){X':Ba}{row:Option Nat}(hg:X.grownBy X' row)(hr:∀r,row=some r->D<=r/\∃o:Obj,X.heap[r]?=some o/\o.isCells=false):BlIn p D B bB bM b7 SC WR l V E X':=by
 have hc:∀(k:Nat) (o:Obj),X.heap[k]?=some o->o.isCells=true->X'.heap[k]?=some o:=fun k o hk ho=>(L9 hg (fun r e=>(hr r e).2) hk ho).trans hk
 obtain⟨m,hm⟩:=h.bd.num;refine⟨h.wr.trans (Wrote.of_grown (R:=fun k=>D<=k) hg (fun k e _=>(hr k e).1)) (fun k hk e=>by have:=hb.d;omega),⟨hc _ _ h.bd.hB rfl,⟨m,hm.same (hg.block bM hm.lt fun e=>by have:=(hr bM e.symm).1;have:=hb.m;omega)⟩,?_,h.bd.ne,h.bd.bm,h.bd.lo⟩,hc _ _ h.sys rfl,h.out.turn zR hg.size hc,h.no⟩;refine⟨h.bd.own.1,?_⟩;rcases h.bd.own.2 with hn | ⟨g,cap,cur,hv',hb',hg',rest⟩
 . exact .inl hn
 . exact .inr ⟨g,cap,cur,hv',hb',hc g _ hg' rfl,rest⟩
theorem BlIn.outn(h:BlIn p D B bB bM b7 SC WR l V E X)(hb:BlB D B bB bM b7 WR){w2 w3:Ba}{V':Value}(h2:Below X.heap.size X w2)(ho:BdOn bB bM V w2 V' w3) :
  OwnX XN (fun k=>D<=k/\V'.ownBlock≠some k) w3 D E (zC p l).2/\∀k,V'.ownBlock=some k->D<=k/\E.ownBlock≠some k:=by
 have hs:=h2.size;have hD:=h.big hb;have hel:=h.out.lt
 have h1:OwnX XN (fun k=>(D<=k/\V.ownBlock≠some k)/\V'.ownBlock≠some k) w2 D E (zC p l).2:=
  (h.out.mono (S':=fun k=>(D<=k/\V.ownBlock≠some k)/\V'.ownBlock≠some k) zR fun k hk hs=>⟨hs,fun e=>by
   rcases ho.2 k e with e | e
   . exact hs.2 e
   . omega⟩).below zR h2 (Le _)
 refine⟨(h1.keep zR (ho.1.keep fun k _ hs hr=>?_) fun k hk=>ho.1.block k (by have:=(hel k hk).2;omega) fun hr=>?_).mono zR fun k _ hs=>⟨hs.1.1,hs.2⟩,fun k hk=>?_⟩
 . rcases hr with e | e | e
   . have:=hb.b;have:=hs.1.1;omega
   . have:=hb.m;have:=hs.1.1;omega
   . exact hs.1.2 e
 . have:=(hel k hk).1
   rcases hr with e | e | e
   . have:=hb.b;omega
   . have:=hb.m;omega
   . exact(h.no k e).2 hk
 . rcases ho.2 k hk with e | e
   . exact h.no k e
   . exact⟨by omega,fun e2=>by have:=(hel k e2).2;omega⟩
theorem BlIn.lies(h:BlIn p D B bB bM b7 SC WR l V E X)(hb:BlB D B bB bM b7 WR){w2 w3 W4:Ba}{V' v:Value}{i:Nat}{word:List Rd}{views:List (List Int)}{A2 A3:Bb}{c2 c3:Nat}(h2:Below X.heap.size X w2)(ho:BdOn bB bM V w2 V' w3)(h4:Below w3.heap.size w3 W4)
  (hw:RAtS (fun k=>X.heap.size<=k) w2 A2 word) (hv:LAtS (fun k=>(w2.heap.size<=k/\V'.ownBlock≠some k)\/v.ownBlock=some k) w3 A3 views) (hvl:∀k,v.ownBlock=some k->w2.heap.size<=k) (hvn:∀k,V'.ownBlock=some k->v.ownBlock≠some k) (hcap:word.length<=c2) :
  XN.lies (fun k=>(D<=k/\V'.ownBlock≠some k)/\E.ownBlock≠some k) W4 [.int .i64 i,.slice A2 word.length c2,.slice A3 views.length c3] ⟨i,word,views⟩:=by
 have hs:=h2.size;have hD:=h.big hb;have hel:=h.out.lt;have hvo:=h.bd.own.lt;refine⟨A2,c2,A3,c3,rfl,?_,?_,hcap⟩
 . have h5:RAtS (fun k=>X.heap.size<=k/\k<w2.heap.size) w2 A2 word:=hw.mono fun k hk hs=>⟨hs,hk⟩
   have h6:=h5.keep (ho.1.keep fun k _ hs hr=>by
    rcases hr with e | e | e
    . have:=hb.b;omega
    . have:=hb.m;omega
    . have:=(hvo k e).2;omega)
   have h7:RAtS (fun k=>(D<=k/\V'.ownBlock≠some k)/\E.ownBlock≠some k) w3 A2 word:=h6.mono fun k _ hs=>⟨⟨by omega,fun e=>by
    rcases ho.2 k e with e | e
    . have:=(hvo k e).2;omega
    . omega⟩,fun e=>by have:=(hel k e).2;omega⟩
   exact h7.on h4
 · have h7 : LAtS (fun k => (D ≤ k ∧ V'.ownBlock ≠ some k) ∧ E.ownBlock ≠ some k) w3 A3 views := hv.mono fun k _ hs => by
    rcases hs with hs | hs
    . exact⟨⟨by omega,hs.2⟩,fun e=>by have:=(hel k e).2;omega⟩
    . have:=hvl k hs
      exact⟨⟨by omega,fun e=>hvn k e hs⟩,fun e=>by have:=(hel k e).2;omega⟩
   exact h7.on h4
theorem BlIn.next(h:BlIn p D B bB bM b7 SC WR l V E X)(hb:BlB D B bB bM b7 WR){w2 w3 W4 w5:Ba}{V':Value}{x:Nat×List Rd}{cs:List Value}{css:List (List Value)}{g' cap:Nat}(h2:Below X.heap.size X w2)(ho:BdOn bB bM V w2 V' w3)(h4:Below w3.heap.size w3 W4)
  (hd:BdIn B bB bM p.t.n V' (zA (zC p l).1 p.t.n.toNat (yt p x.1) x.2 x.2.length).1 w3)
  (hsc:∀E':Value,(SC E).setIfInBounds 9 E'=SC E')
  (hcl:css.length=(zC p l).2.length) (hcs:∀(i:Nat) (h1:i<css.length) (h2:i<(zC p l).2.length),XN.lies (fun k=>(D<=k/\V'.ownBlock≠some k)/\E.ownBlock≠some k) W4 css[i] (zC p l).2[i])
  (hX:XN.lies (fun k=>(D<=k/\V'.ownBlock≠some k)/\E.ownBlock≠some k) W4 cs ⟨x.1,x.2,(zA (zC p l).1 p.t.n.toNat (yt p x.1) x.2 x.2.length).2⟩)
  (hr:OwnR kXn w5 D (.slice (some ⟨g',0,none⟩) ((zC p l).2.length+1) cap) ((zC p l).2.length+1) (css.flatten++cs)) (hg:W4.grownBy w5 E.ownBlock) (hat:E.ownBlock=some g'\/g'=W4.heap.size) :
  BlIn p D B bB bM b7 SC WR (l++[x]) V' (.slice (some ⟨g',0,none⟩) ((zC p l).2.length+1) cap) (w5.setCell ⟨b7,9,none⟩ (.slice (some ⟨g',0,none⟩) ((zC p l).2.length+1) cap)) /\
   KeepsFrom D X (w5.setCell ⟨b7,9,none⟩ (.slice (some ⟨g',0,none⟩) ((zC p l).2.length+1) cap)) /\
   Wrote (fun k=>k=bB\/k=bM\/k=b7\/D<=k) X (w5.setCell ⟨b7,9,none⟩ (.slice (some ⟨g',0,none⟩) ((zC p l).2.length+1) cap)):=by
 have hs:=h2.size;have hD:=h.big hb;have hs3:=ho.1.size;have hs4:=h4.size;have hel:=h.out.lt;have hvo:=h.bd.own.lt;obtain⟨_,hno⟩:=h.outn hb h2 ho;have hgl:=hr.lt g' rfl;have hbl:=hb.lo;obtain⟨e1,e2,e3⟩:bB<D/\bM<D/\b7<D:=⟨hb.b,hb.m,hb.s⟩;have hEb:∀k,k<D->E.ownBlock≠some k:=fun k hk e=>by have:=(hel k e).1;omega
 have hV7:∀k,V'.ownBlock=some k->D<=k:=fun k e=>(hno k e).1
 have hW:Wrote (fun k=>k=bB\/k=bM\/k=b7\/V.ownBlock=some k\/E.ownBlock=some k) X (w5.setCell ⟨b7,9,none⟩ (.slice (some ⟨g',0,none⟩) ((zC p l).2.length+1) cap)):=by
  refine((((Wrote.of_below (R:=fun k=>k=bB\/k=bM\/k=b7\/V.ownBlock=some k\/E.ownBlock=some k) h2).trans ho.1 fun k _ hr=>?_).trans (Wrote.of_below (R:=fun _=>False) h4) fun _ _ h=>h.elim).trans (Wrote.of_grown (R:=fun k=>E.ownBlock=some k) hg fun _ e _=>e) fun k _ e=>?_).trans (Wrote.of_grown (R:=fun k=>k=b7) (zS w5 b7 9 _) fun k e _=>by cases e;rfl) fun k _ e=>?_
  . rcases hr with e | e | e
    . exact .inl e
    . exact .inr (.inl e)
    . exact .inr (.inr (.inr (.inl e)))
  . exact .inr (.inr (.inr (.inr e)))
  . exact .inr (.inr (.inl e))
 have hsys:w5.heap[b7]?=some (.cells (SC E) 35 (0,0)):=by
  refine(hg.block b7 (by omega) fun e=>hEb b7 e3 e.symm).trans ((h4.block b7 (by omega)).trans ((ho.1.block b7 (by omega) fun hr=>?_).trans ((h2.block b7 (by omega)).trans h.sys)));rcases hr with e | e | e
  . exact hb.bs e.symm
  . exact hb.ms e.symm
  . have:=(h.no b7 e).1;omega
 have hd5:=((hd.on h4).grown hg (fun e=>hEb bB e1 e) (fun e=>hEb bM e2 e) (fun k hk e=>(hno k hk).2 e)).set (g:=b7) (fun e=>hb.bs e.symm) (fun e=>hb.ms e.symm) (fun e=>by have:=hV7 b7 e;omega) 9 (.slice (some ⟨g',0,none⟩) ((zC p l).2.length+1) cap);have hrun:=qr p l x;refine⟨⟨?_,?_,?_,?_,?_⟩,?_,hW.more fun k _ hr=>?_⟩
 . refine h.wr.trans hW fun k hk hr=>?_
   have:=hb.d;rcases hr with e | e | e | e | e
   . exact .inl e
   . exact .inr (.inl e)
   . exact .inr (.inr e)
   . have:=(h.no k e).1;omega
   . have:=(hel k e).1;omega
 . rw[hrun];exact hd5
 . rw[Ll w5 b7 9 _ _ _ hsys,hsc]
 . rw[hrun]
   have h8:=OwnX.app zR hcl hcs hX hr hg hat;refine h8.kept zR (zS w5 b7 9 _) (.inr (fun e=>?_)) (fun k e=>.inl fun hs=>?_)
   . have:g'=b7:=by simpa[Value.ownBlock] using e
     omega
   . cases e;have:=hs.1;omega
 . intro k hk
   refine⟨hV7 k hk,fun e=>?_⟩;have:g'=k:=by simpa[Value.ownBlock] using e
   subst this;rcases hat with e | e
   . exact(hno g' hk).2 e
   . have:=(hd.own.lt g' hk).2;omega
 . refine⟨hW.size,fun k o hk ho2 hcf=>(hW.block k (zj ho2) fun hr=>?_).trans ho2⟩
   rcases hr with e | e | e | e | e
   . omega
   . omega
   . omega
   . rcases h.bd.own.2 with ⟨hn,_⟩ | ⟨g,cap',cur,hv',_,hg',_⟩
     . rw[hn] at e;cases e
     . rw[hv'] at e;cases e;rw[hg'] at ho2;cases ho2;cases hcf
   . obtain⟨css2,_,hr2,_⟩:=h.out
     rcases hr2.2 with ⟨hn,_⟩ | ⟨g,cap',cur,hv',_,hg',_⟩
     . rw[hn] at e;cases e
     . rw[hv'] at e;cases e;rw[hg'] at ho2;cases ho2;cases hcf
 . rcases hr with e | e | e | e | e
   . exact .inl e
   . exact .inr (.inl e)
   . exact .inr (.inr (.inl e))
   . exact .inr (.inr (.inr (h.no k e).1))
   . exact .inr (.inr (.inr (hel k e).1))
end
end
section
open Go.RowKit
theorem kX(w:Ba)(c1 c2 c3:Array Value)(t1 t2 t3:TypeId):∃W0,((w.alloc (.cells c1 t1)).alloc (.cells c2 t2)).alloc (.cells c3 t3)=W0/\W0.heap[w.heap.size]?=some (.cells c1 t1 (0,0))/\W0.heap[w.heap.size+1]?=some (.cells c2 t2 (0,0)) /\
  W0.heap[w.heap.size+1+1]?=some (.cells c3 t3 (0,0))/\W0.heap.size=w.heap.size+3/\Below w.heap.size w W0:=
 ⟨_,rfl,yM (yM (zw _ _) _) _,yM (by have:=zw (w.alloc (.cells c1 t1)) (.cells c2 t2);rwa[Nw] at this) _,
  by have:=zw ((w.alloc (.cells c1 t1)).alloc (.cells c2 t2)) (.cells c3 t3);rwa[Nw,Nw] at this,by simp,bel3 w _ _ _⟩
def PutCut(n:Int)(vs:List Vw)(v:Vw)(g:Nat)(w1:Ba)(s:Value)(wx:Ba):Prop:=
 s=.pointer (some ⟨g,0,none⟩)/\∃A cap,wx.cell? ⟨g,0,none⟩=some (.int .i64 n)/\wx.cell? ⟨g,1,none⟩=some (.slice A (vs.length+1) cap)/\OwnV wx (g+1) (.slice A (vs.length+1) cap) (vs++[v])/\Below g w1 wx
theorem put_any(n:Int)(A:Bb)(cap:Nat)(vs:List Vw)(v:Vw)(w:Ba)(hT:TArg w A cap vs)(hl:vs.length<100000) :
  Calls Tryz.prog 87 #[.agg #[.int .i64 n,.slice A vs.length cap],.agg v.cells] w (RetPut n A cap vs v w):=by
 have HT:=zH hT;have hfew:=hT.few;clear hT;go_enter Tryz.func87,Tryz.ntmps87;unfold Vw.cells;go_wp2_with fail;obtain⟨W0,hW0,b0,b1,b2,hsz,hB0⟩:=kX w #[.int .i64 n,.slice A vs.length cap] v.cells #[.int .i64 0,.slice none 0 0] 32 128 32;unfold Vw.cells at hW0;rw[hW0];clear hW0;have c0:W0.heap[w.heap.size+1]?=some (.cells v.cells 128 (0,0)):=b1;have hT0:=HT.out.keep hB0;refine(index_any n A cap vs v W0 W0.heap.size (Le _) hT0.rows (by omega)).mono ?_;rintro e w1 ⟨rfl,hb⟩;have HV:Hid (w1.heap[w.heap.size+1]?=some (.cells v.cells 128 (0,0))):=Lb hb (by omega) c0;have d0:=Lb hb (by omega) b0;have d2:=Lb hb (by omega) b2;have hT1:=zH (hT0.keep hb);have B1:Hid (Below w.heap.size w w1):=hB0.trans (hb.mono (by omega));have l0:w.heap.size+3<=w1.heap.size:=by have:=hb.size;omega
 clear b0 b1 b2 c0 hT0 hB0 hb hsz;obtain⟨t0,t1,_⟩:=Ka d0;obtain⟨r0,r1,_⟩:=Ka d2;have f0:=zi d2 0;have f1:=zi d2 1
 by_cases hv:v∈vs
 . have hz:=zH hv
   have h0:0<=kg vs v:=QL hv;clear hv d0 d2;go_wp2_with fail;have hbs:Hid (Below w.heap.size w ((w1.setCell ⟨w.heap.size+1+1,0,none⟩ (Value.int .i64 n)).setCell ⟨w.heap.size+1+1,1,none⟩ (Value.slice A vs.length cap))):=(B1.out.setCell (by simp;omega) _).setCell (by simp;omega) _;exact L1 (v:=.tuple #[.agg #[.int .i64 n,.slice A vs.length cap],.int .i64 (kg vs v)]) (by simp[results,Tryz.results87,go_sem,r0,r1]) rfl ⟨hbs.out,fun _=>rfl,fun h=>absurd hz.out h⟩
 . have hz:Hid (v∉vs):=hv
   have h0:kg vs v=-1:=by unfold kg;rw[Lg hv]
   have h1:kg vs v<0:=by omega
   clear hv h0;go_upto_region 5 with fail
   obtain⟨W2,hW2,g0,hsz2,hB2⟩:=zn w1 #[.int .i64 n,.slice none 0 0] 32;rw[hW2];clear hW2;have hVX:W2.heap[w.heap.size+1]?=some (.cells v.cells 128 (0,0)):=Lb hB2 (by omega) HV.out;have D0:W2.heap[w.heap.size]?=some (.cells #[.int .i64 n,.slice A vs.length cap] 32 (0,0)):=Lb hB2 (by omega) d0;have D2:W2.heap[w.heap.size+1+1]?=some (.cells #[.int .i64 0,.slice none 0 0] 32 (0,0)):=Lb hB2 (by omega) d2;have x0:W2.cell? ⟨w.heap.size+1,0,none⟩=some (.int .i64 v.p):=zh hVX 0 rfl;have x1:W2.cell? ⟨w.heap.size+1,1,none⟩=some (.int .i64 v.r):=zh hVX 1 rfl;have x2:W2.cell? ⟨w.heap.size+1,2,none⟩=some (.int .i64 v.i):=zh hVX 2 rfl;have x3:W2.cell? ⟨w.heap.size+1,3,none⟩=some (.int .i64 v.h0):=zh hVX 3 rfl;have x4:W2.cell? ⟨w.heap.size+1,4,none⟩=some (.int .i64 v.h1):=zh hVX 4 rfl;have x5:W2.cell? ⟨w.heap.size+1,5,none⟩=some (.int .i64 v.h2):=zh hVX 5 rfl;have x6:W2.cell? ⟨w.heap.size+1,6,none⟩=some (.int .i64 v.h3):=zh hVX 6 rfl;have x7:W2.cell? ⟨w.heap.size+1,7,none⟩=some (.int .i64 v.h4):=zh hVX 7 rfl;have s1:W2.cell? ⟨w.heap.size,1,none⟩=some (.slice A vs.length cap):=zh D0 1 rfl;have y1:W2.cell? ⟨w1.heap.size,1,none⟩=some (.slice none 0 0):=zh g0 1 rfl;have y0:W2.cell? ⟨w1.heap.size,0,none⟩=some (.int .i64 n):=zh g0 0 rfl;have BX:=zH hB2;have l3:w.heap.size<W2.heap.size:=by omega
   have z1:=zi g0 1;have l2:w1.heap.size<W2.heap.size:=by omega
   have hT2:=zH (hT1.out.keep hB2);have B2:Hid (Below w.heap.size w W2):=Lc B1.out hB2;have HD0:=zH d0;have HD2:=zH d2;clear d0 d2 t0 t1 r0 r1 f0 f1 hB2 hsz2
   go_cut [7] (fun s7 wx=>PutCut n vs v w1.heap.size w1 s7 wx)
   case first=>
    go_region_law ((first
      | (refine Jm (by rfl) (.tmp 19) (.tmp 21) (by rfl) W2.heap.size (by rfl) A cap vs (by rfl) (by first | exact hT2.out.keep (Lo _ _).drew | exact hT2.out.keep (zW W2 _).drew) (by simp) ?_;intro A1 cap1 wA hownA hgrowA;have hG:W2.grownBy wA none:=(by first | exact⟨hgrowA.os,hgrowA.tape,hgrowA.output,hgrowA.size,hgrowA.block⟩ | exact xD (o:=.cells v.cells 128) ⟨hgrowA.os,hgrowA.tape,hgrowA.output,hgrowA.size,hgrowA.block⟩);have e0:=yj hG x0 (by simp);have e1:=yj hG x1 (by simp);have e2:=yj hG x2 (by simp);have e3:=yj hG x3 (by simp);have e4:=yj hG x4 (by simp);have e5:=yj hG x5 (by simp);have e6:=yj hG x6 (by simp);have e7:=yj hG x7 (by simp);have e8:=yj hG y1 (by simp);have e9:=vE hG z1 l2 (by simp);have e10:W2.heap.size<=wA.heap.size:=hG.size)
      | (refine Zc (by rfl) (.tmp 22) (.tmp 24) (by rfl) W2.heap.size _ vs v (by rfl) (hownA.alloc _) (by omega) wA.heap.size (by rfl) (zw wA _) (by first | omega | (simp;omega)) ?_;intro A3 cap3 wB hownB hgrowB;have hH:wA.grownBy wB (Value.slice A1 vs.length cap1).ownBlock:=(by first | exact⟨hgrowB.os,hgrowB.tape,hgrowB.output,hgrowB.size,hgrowB.block⟩ | exact xD (o:=.cells v.cells 128) ⟨hgrowB.os,hgrowB.tape,hgrowB.output,hgrowB.size,hgrowB.block⟩);have h8:=yj hH e8 (hownA.ne (by omega));have h9:=vE hH e9 (by omega) (hownA.ne (by omega));have h10:Below w1.heap.size w1 wB:=(BX.out.grown hG (by omega) (by simp)).grown hH (by omega) (fun k hk=>by have:=(hownA.lt k hk).1;omega);have h11:=yj hH (yj hG y0 (by simp)) (hownA.ne (by omega)))
      | (refine Zc (by rfl) (.tmp 22) (.tmp 24) (by rfl) W2.heap.size _ vs v (by rfl) (hownA) (by omega) W2.heap.size (by rfl) (grown_heap hgrowA (zw W2 _) (by simp)) (by first | omega | (simp;omega)) ?_;intro A3 cap3 wB hownB hgrowB;have hH:wA.grownBy wB (Value.slice A1 vs.length cap1).ownBlock:=(by first | exact⟨hgrowB.os,hgrowB.tape,hgrowB.output,hgrowB.size,hgrowB.block⟩ | exact xD (o:=.cells v.cells 128) ⟨hgrowB.os,hgrowB.tape,hgrowB.output,hgrowB.size,hgrowB.block⟩);have h8:=yj hH e8 (hownA.ne (by omega));have h9:=vE hH e9 (by omega) (hownA.ne (by omega));have h10:Below w1.heap.size w1 wB:=(BX.out.grown hG (by omega) (by simp)).grown hH (by omega) (fun k hk=>by have:=(hownA.lt k hk).1;omega);have h11:=yj hH (yj hG y0 (by simp)) (hownA.ne (by omega)))))
    all_goals
     go_wp2_with fail
     go_meet
     refine⟨rfl,A3,cap3,by simp[go_sem,h11],by simp[go_sem,h8],?_,h10.setCell (by simp) _⟩;exact(OwnV.kept hownB (vD wB w1.heap.size 1 _) (Or.inr (hownB.ne l2))).low l2
   case rest=>
    obtain⟨rfl,A3,cap3,c0,c1,hT3,hB3⟩:=hcut;have D0:=Lb hB3 (by omega) HD0.out;have D2:=Lb hB3 (by omega) HD2.out;have t1:wc.cell? ⟨w.heap.size,1,none⟩=some (.slice A vs.length cap):=zh D0 1 rfl;obtain⟨r0,r1,_⟩:=Ka D2;have f0:=zi D2 0;have f1:=zi D2 1;have HT3:=zH hT3;have HB3:Hid (Below w.heap.size w wc):=Lc B1.out hB3;clear D0 D2 g0 hVX x0 x1 x2 x3 x4 x5 x6 x7 s1 y0 y1 z1 hT3 hB3;go_wp2_with fail
    go_region
    all_goals
     go_wp2_with fail;have hbs:Hid (Below w.heap.size w (((wc.setCell ⟨w.heap.size+1+1,0,none⟩ (Value.int .i64 n)).setCell ⟨w.heap.size+1+1,1,none⟩ (Value.slice A3 (vs.length+1) cap3)).drew)):=((HB3.out.setCell (by simp;omega) _).setCell (by simp;omega) _).drew
     have hfin:OwnV ((wc.setCell ⟨w.heap.size+1+1,0,none⟩ (Value.int .i64 n)).setCell ⟨w.heap.size+1+1,1,none⟩ (Value.slice A3 (vs.length+1) cap3)) (w1.heap.size+1) (.slice A3 (vs.length+1) cap3) (vs++[v]):=
      (HT3.out.kept (vD wc (w.heap.size+1+1) 0 _) (Or.inr (HT3.out.ne (by omega)))).kept (vD _ (w.heap.size+1+1) 1 _) (Or.inr (HT3.out.ne (by omega)))
     exact L1 (v:=.tuple #[.agg #[.int .i64 n,.slice A3 (vs.length+1) cap3],.int .i64 vs.length]) (by simp[results,Tryz.results87,go_sem,r0,r1]) rfl ⟨hbs.out,fun h=>absurd h hz.out,fun _=>⟨A3,cap3,rfl,(OwnV.drew hfin).low (by have:=B1.out.size;omega)⟩⟩
end
end Go.Proofs.YtohjmddnennajaaGreatDoor
