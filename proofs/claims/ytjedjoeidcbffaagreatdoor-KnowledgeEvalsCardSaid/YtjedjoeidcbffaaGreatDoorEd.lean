/- Merged. -/
import Derived.Test.YtjedjoeidcbffaaGreatDoorEc
import Derived.Laws.Pointers
import Derived.Laws.CopyOwn
import Derived.Deep.RegionLaw
import Derived.IntWalk
import Derived.Maps.RangeWalk
import Derived.Deep.LoopGhost
import Derived.Laws.EntriesVeiled
open Go.Proofs.Tryz
open Go.Value renaming int->O,slice->I,agg->Ak,pointer->Al
open Go.IntKind renaming i64->U
open Option renaming none->Z,some->J
open Go.Obj renaming cells->Ai
open Go.Ending renaming returned->Am
open Go.Proofs.Tryz renaming prog->Aq,func200->Sj
open Go.RowKit renaming Below->Ar,intOf->Au,Hid->Aw
open Go renaming Calls->As,Value->Ax
open Bool renaming true->AA,false->AC
open Nat renaming sub_zero->PJ
open List renaming flatMap_cons->NP
namespace Go.Proofs.YtjedjoeidcbffaaGreatDoor
abbrev R9:=@Go.wpList_copy_splice
abbrev NY:=@List.getElem?_replicate
abbrev RN:=@List.getElem?_toArray
abbrev SG:=@Go.IntWalk.i64_in
abbrev Sr:=@Go.step_copy_splice
abbrev LQ:=@List.length_replicate
abbrev RD:=@List.eq_of_mem_replicate
abbrev NZ:=@List.ext_getElem
abbrev RI:=@Nat.le_mul_of_pos_right
set_option maxRecDepth 100000
set_option maxHeartbeats 4000000
section
open Go.RowKit
attribute [local go_sem] Oper.semAt_some
theorem grow_grow{W w w':Ba}{r r':Option Nat}(h:W.grownBy w r)(hg:w.grownBy w' r')(hr:∀k,r'=J k->k<W.heap.size->r=J k):W.grownBy w' r:=
 ⟨hg.os.trans h.os,hg.tape.trans h.tape,hg.output.trans h.output,Lz h.size hg.size,fun k hk hn=>(hg.block k (LF hk h.size) (fun e=>hn (hr k e.symm hk).symm)).trans (h.block k hk hn)⟩
theorem grow_below{W w w':Ba}{r:Option Nat}(h:W.grownBy w r)(hb:Ar w.heap.size w w'):W.grownBy w' r:=
 ⟨hb.os.trans h.os,hb.tape.trans h.tape,hb.output.trans h.output,Lz h.size hb.size,fun k hk hn=>(hb.block k (LF hk h.size)).trans (h.block k hk hn)⟩
def jP(a:Ad)(SV:Bb)(ks k:Nat):Prop:=∀(s:Int) (w:Ba),(k=0\/(0<=s/\s<a.sts.length))->(zT a k s).length<=5000->SAt w w.heap.size SV a.sts ->
 As Aq 125 #[Ak #[O U a.n,I SV a.sts.length ks],O U s,O U k] w fun e w'=>∃v,e=Am v/\OwnX cWd (fun b=>w.heap.size<=b) w' w.heap.size v (zT a k s)/\Ar w.heap.size w w'
theorem fromR_zero(a:Ad)(SV:Bb)(ks:Nat):jP a SV ks 0:=by
 intro s w _ _ _;go_enter func125,ntmps125;go_wp2_with fail;obtain⟨w1,ab,d0,d1,aK,dj⟩:=yV w #[O U a.n,I SV a.sts.length ks] #[I Z 0 0] 27 55;rw[ab];go_ret;refine⟨_,rfl,⟨[[I Z 0 0]],rfl,?_,?_⟩,dj⟩
 . exact OwnR.of_block (K:=kWd) (n:=1) d1 (by omega) rfl (by unfold maxLen;omega)
 intro i h1 h2;obtain rfl:i=0:=by simp at h1;omega
 exact⟨Z,0,rfl,RAtS.nil _ _ _,Le _⟩
theorem fromR_succ(a:Ad)(SV:Bb)(ks k:Nat)(oF:k<=6)(hz:zQ a a.sts=0)(hf:FewA a)(ih:jP a SV ks k):jP a SV ks (k+1):=by
 intro s w tg aS hS;have hs:0<=s/\s<a.sts.length:=tg.resolve_left (by omega);obtain⟨S,rfl⟩:=Lp hs.1;have pD:S<a.sts.length:=by omega
 have HIH:=zH ih;have HZ:=zH (@qq a hz);have tU:=hf.each (Ld pD);have nf:=zH (Ze a k pD);have iN:=zH aS;have Df:=zH (fun (m:Mv) (hm:m∈a.sts[S])=>(NI.2 ⟨_,Ld pD,hm⟩:m∈a.mvs));have HS:=zH hS;obtain⟨bs,os,A',rm,MY,cA,s0,IZ⟩:=hS.at_ S pD;subst MY;have En:=zH IZ;obtain⟨M,hM⟩:=Ki (a.sts[S]);rw[hM] at s0 En nf Df tU;have e0:(((k+1:Nat):Int)==0)=AC:=by simp;omega
 have ab:IntKind.i64.wrap (((k+1:Nat):Int)-1)=(k:Int):=by rw[Ls];omega
 have aK:(S:Int)<(a.sts.length:Int):=by omega
 have eQ:(0:Int)<=(S:Int):=by omega
 obtain⟨K,hK⟩:∃K:Int,((k+1:Nat):Int)=K:=⟨_,rfl⟩;rw[hK] at e0 ab ⊢;go_enter func125,ntmps125;go_wp2_with fail;obtain⟨w1,eO,d0,eP,bP⟩:=zk w #[O U a.n,I (J ⟨bs,os,Z⟩) a.sts.length ks] 27;rw[eO];have bK:=zH d0;have mN:=zH bP;clear d0 bP e0
 go_loopw [7,8] (fun o i wr=>∃j:Nat,j<=M.length/\i=O U (j:Int)/\Aw (OwnX cWd (fun b=>w.heap.size<b) wr (w.heap.size+1) o (yT a k M j))/\Aw (Ar w1.heap.size w1 wr)) (fun _ i _=>M.length-(Au i).toNat)
 case atStart=>exact⟨0,by omega,rfl,by rw[wg];exact OwnX.nil _ _ _ _,Ll _ _⟩
 obtain⟨j,hj,rfl,HO,dE⟩:=hrel;have D0:=Lb dE.out (by omega) bK.out;have q1:=zh D0 1 rfl;have aL:=dE.out.size;have s1:wr.cell? ⟨bs,os+S,Z⟩=J (I A' M.length rm):=((mN.out.trans (dE.out.mono (by omega))).cell (p:=⟨bs,os+S,Z⟩) cA).trans s0
 by_cases cq:j<M.length
 case neg=>
  obtain rfl:j=M.length:=by omega
  go_wp2_with fail;go_ret;refine⟨_,rfl,?_,mN.out.trans (dE.out.mono (by omega))⟩;rw[<-nf.out];exact(HO.out.mono kd fun b _ hb=>by omega).low (by omega)
 obtain⟨bm,om,e1,hbm,m0,m1,m2,m3,m4,m5,m6,m7⟩:=(En.out.keep (mN.out.trans (dE.out.mono (by omega)))).row j cq;subst e1;have CP:(0:Int)<=(j:Int):=by omega
 have rN:(j:Int)<(M.length:Int):=by omega
 have q0:=zh D0 0 rfl;have ie:w.heap.size<wr.heap.size:=by omega
 have lm:=Df.out M[j] (Ld cq);obtain⟨z1,z2,z3,z4⟩:=HZ.out _ lm;have dq:=zH (kL a k M cq);have me:=Zd a k M (j+1);rw[kL a k M cq,Lw,LJ] at me;obtain⟨m,O'⟩:=Ki (M[j]);rw[O'] at m0 m1 m2 m3 m4 m5 m6 m7 lm z1 z2 z3 z4 dq me
 have nP:(yT a k M j).length+(zT a k m.to).length<=5000:=by
  have:=iN.out;rw[<-nf.out] at this;omega
 have HC:=zH (fun (W:Ba) (hW:Ar wr.heap.size wr W)=>HIH.out m.to W (.inr ⟨z3,z4⟩) (by omega) (((HS.out.keep (mN.out.trans ((dE.out.trans (hW.mono aL)).mono (by omega)))).more (by have:=hW.size;omega))));clear O' me z1 z2 z3 z4 lm Df HZ iN En nf;go_wp2_with fail;clear m0 m1 m2 m3 m4 m5 m6 m7 q0 q1 s1;obtain⟨W1,eO,g0,dw,cH⟩:=zk wr m.cells 94;unfold Mv.cells at eO;rw[eO];refine(HC.out W1 cH).mono ?_;rintro e w3 ⟨rv,rfl,mc,aj⟩;obtain⟨AR,cR,rfl,hcR,hmR,hWR⟩:=Xu mc;have G0:=Lb aj (by omega) g0;have aJ:Aw (Ar wr.heap.size wr w3):=cH.trans (aj.mono (by omega));have fw:=zH (HO.out.below kd aJ.out (Le _));have lc:=HO.out.lt;have ir:=zH (mc.mono (S':=fun b=>wr.heap.size<b) kd fun b _ hb=>by omega);have UP:=zH G0;have iP:=aj.size;obtain⟨R,hR⟩:=Ki (zT a k m.to);have rZ:=zH (xW a k m.to);rw[hR] at nP dq ir rZ ⊢;go_wp2_with fail;obtain⟨Ae,rfl⟩:∃Ae,Ae=u7:=⟨_,rfl⟩;obtain⟨wo,rfl⟩:∃x,x=wr:=⟨_,rfl⟩
 go_loopw [7,11] (fun o i wx=>∃l:Nat,l<=R.length/\i=O U (l:Int)/\Aw (OwnX cWd (fun b=>w.heap.size<b) wx (w.heap.size+1) o (yT a k M j++(R.take l).map (m.r::·)))/\Aw (w3.grownBy wx (Value.ownBlock Ae))/\Aw (o.ownBlock=Value.ownBlock Ae\/∀b,o.ownBlock=J b->w3.heap.size<=b)) (fun _ i _=>R.length-(Au i).toNat)
 case atStart=>exact⟨0,by omega,rfl,by rw[L1,NE,Nr];exact fw.out,Ro _ _,.inl rfl⟩
 obtain⟨l,hl,rfl,HX,HG,HW⟩:=hrel;have aV:Aw (Ar w1.heap.size w1 wr):=(dE.out.trans (aJ.out.mono aL)).grown HG.out (by omega) (fun b hb=>by have:=(lc b hb).1;omega)
 by_cases aU:l<R.length
 case neg=>
  obtain rfl:l=R.length:=by omega
  rw[LC,<-dq.out] at HX;go_wp2_with fail
  go_roundw
  case rel=>exact⟨j+1,by omega,by go_num,HX,aV⟩
  simp[Au];omega
 have CS:OwnX cWd (fun b=>wo.heap.size<b) wr W1.heap.size (I AR R.length cR) R:=ir.out.kept kd HG.out (by
  cases hAR:(I AR R.length cR).ownBlock with
  | none=>exact .inl rfl
  | some b=>exact .inr fun e=>by have h1:=(ir.out.lt b hAR).1;have h2:=(lc b e.symm).2;omega) (fun b hb=>.inl fun h=>by have:=(lc b hb).2;omega)
 obtain⟨A9,c9,e9,_,_,hWX⟩:=Xu CS
 cases e9
 obtain⟨br,or_,A2,c2,er,ay,r0,ef⟩:=hWX.at_ l aU;subst er;have G1:=(HG.out.block wo.heap.size (by omega) (fun e=>by have:=(lc _ e.symm).2;omega)).trans UP.out;have my:=zj G1;have tA:=zH ef;have HOX:=zH HX.out;have hll2:(yT a k M j++(R.take l).map (m.r::·)).length=(yT a k M j).length+l:=by simp;omega
 have OL:Aw (yT a k M j++(R.take (l+1)).map (m.r::·)=(yT a k M j++(R.take l).map (m.r::·))++[m.r::R[l]]):=by
  show _=_;rw[Lr aU,LM,Nn];rfl
 have dl:=rZ.out _ (Ld aU);have hlk6:R[l].length<=6:=by omega
 clear dl;have rL:(0:Int)<=(l:Int):=by omega
 have iR:(l:Int)<(R.length:Int):=by omega
 obtain⟨x,hx⟩:=Ki (R[l]);rw[hx] at r0 tA OL hlk6;have Id:Aw (Raw (wr.alloc (Ai m.r.cells 92)) A2 x.length (xq x)):=YF ((tA.out.keep (ye wr _)).more (by simp));have g0:wr.cell? ⟨wo.heap.size,0,Z⟩=J (O U m.r.n):=zh G1 0 rfl;have g1:wr.cell? ⟨wo.heap.size,1,Z⟩=J (O U m.r.h0):=zh G1 1 rfl;have g2:wr.cell? ⟨wo.heap.size,2,Z⟩=J (O U m.r.h1):=zh G1 2 rfl;have g3:wr.cell? ⟨wo.heap.size,3,Z⟩=J (O U m.r.h2):=zh G1 3 rfl;have g4:wr.cell? ⟨wo.heap.size,4,Z⟩=J (O U m.r.h3):=zh G1 4 rfl;have g5:wr.cell? ⟨wo.heap.size,5,Z⟩=J (O U m.r.h4):=zh G1 5 rfl;have g6:wr.cell? ⟨wo.heap.size,6,Z⟩=J (O U m.r.f):=zh G1 6 rfl;have oV:br<wr.heap.size:=ay;have Ew:w.heap.size+1<=wr.heap.size:=by have:=HG.out.size;omega
 clear hx CS hWX ef G1 HX;have UP:=zH (zy wr (Ai m.r.cells 92));obtain⟨N,hN⟩:=Ki ((yT a k M j++(R.take l).map (m.r::·)).length);have Tn:N<=5000:=by omega
 have HN:=zH hN;clear hN hll2
 go_wp2_with (at_builtin;(first
  | ((refine JU Jw rfl (.tmp 50) (.tmp 54) rfl wr.heap.size (I (J ⟨wr.heap.size, 0, Z⟩) 1 1) 1 m.r.cells.toList rfl (OwnR.of_block UP.out (Nat.le_refl _) rfl (by unfold maxLen; omega)) A2 x.length c2 (xq x) rfl (qo _) Id.out (uJ _) (by omega) (by simp) ?_)
     intro v1 w5 lk fD _;have OV:OwnR kRd w5 wr.heap.size v1 (m.r::x).length (xq (m.r::x)):=by rw[LE,Nat.add_comm];exact lk
     obtain⟨A5,c5,rfl,hc5,_,nP⟩:=uI OV;have nc:Ar wr.heap.size wr w5:=(ye wr _).grown fD (by simp) (fun b hb=>by cases hb;exact Le _);have CY:=zH (nc.alloc nc.size (Ai #[.slice A5 (m.r::x).length c5] 55));have pg:=zH (zy w5 (Ai #[.slice A5 (m.r::x).length c5] 55));have Oc:=zH (nP.keep (KeepB.alloc _ w5 (Ai #[.slice A5 (m.r::x).length c5] 55)));have rB:=zH (HOX.out.below kd CY.out (Le _));have hsz6:wr.heap.size<=w5.heap.size:=nc.size
     clear lk OV fD nP nc)
  | (obtain ⟨bz, aP, nA, cK⟩ := rB.out
     rw[HN.out] at nA;refine xb kWd_ok rfl (.tmp 49) (.tmp 56) rfl (w.heap.size+1) u7 N bz.flatten rfl nA w5.heap.size #[.slice A5 (m.r::x).length c5] rfl pg.out rfl (by simp[Value.oneCell']) (by omega) (by simp;omega) _ rfl ?_;intro g' cap w7 nK lQ fJ tW;have hX:cWd.lies (fun b=>(fun b=>w.heap.size<b) b/\Value.ownBlock u7≠J b) _ [.slice A5 (m.r::x).length c5] (m.r::x):=⟨A5,c5,rfl,Oc.out.mono fun b _ hb=>⟨by have:wr.heap.size<=b:=hb;show w.heap.size<b;omega,fun e=>by have:=(HOX.out.lt b e).2;have:wr.heap.size<=b:=hb;omega⟩,hc5⟩;have nJ:=nK;rw[<-HN.out] at nJ;have sS:=zH (OwnX.app kd aP cK hX nJ lQ fJ);rw[<-OL.out,HN.out] at sS
     have Hl:Aw (w3.grownBy w7 Ae.ownBlock):=grow_grow (grow_below HG.out CY.out) lQ (fun b hb aa=>by
      rcases HW.out with h | h
      . rw[<-h];exact hb
      . have:=h b hb;omega)
     have HW7:Aw ((I (J ⟨g',0,Z⟩) (N+1) cap).ownBlock=Ae.ownBlock\/∀b,(I (J ⟨g',0,Z⟩) (N+1) cap).ownBlock=J b->w3.heap.size<=b):=by
      have eK:=HG.out.size;rcases fJ with e | e
      . rcases HW.out with h | h
        . exact .inl (by rw[<-h,e];rfl)
        . exact .inr fun b hb=>h b (by rw[e];exact hb)
      . refine .inr fun b hb=>?_
        have h9:g'=b:=by simpa[Value.ownBlock] using hb
        simp at e;omega
     clear nK nJ lQ fJ hX cK nA aP)
  ))
 go_roundw
 case rel=>exact⟨l+1,by omega,by go_num,sS,Hl,HW7⟩
 simp[Au];omega
theorem QJ(a:Ad)(SV:Bb)(ks:Nat)(hz:zQ a a.sts=0)(hf:FewA a):∀k,k<=6->jP a SV ks k
 | 0,_=>fromR_zero a SV ks
 | k+1,h=>fromR_succ a SV ks k (by omega) hz hf (QJ a SV ks hz hf k (by omega))
structure Wrote(R:Nat->Prop)(w w':Ba):Prop where
 os:w'.os=w.os
 tape:w'.tape=w.tape
 output:w'.output=w.output
 size:w.heap.size<=w'.heap.size
 block:∀k,k<w.heap.size->¬R k->w'.heap[k]?=w.heap[k]?
theorem Wrote.refl(R:Nat->Prop)(w:Ba):Wrote R w w:=⟨rfl,rfl,rfl,Le _,fun _ _ _=>rfl⟩
theorem Wrote.trans{R R':Nat->Prop}{a b c:Ba}(h:Wrote R a b)(k:Wrote R' b c)(hr:∀k,k<a.heap.size->R' k->R k):Wrote R a c:=
 ⟨k.os.trans h.os,k.tape.trans h.tape,k.output.trans h.output,Lz h.size k.size,fun i hi hn=>(k.block i (LF hi h.size) (fun h'=>hn (hr i hi h'))).trans (h.block i hi hn)⟩
theorem Wrote.of_below{R:Nat->Prop}{a b:Ba}(h:Ar a.heap.size a b):Wrote R a b:=⟨h.os,h.tape,h.output,h.size,fun k hk _=>h.block k hk⟩
theorem Wrote.of_grown{R:Nat->Prop}{a b:Ba}{row:Option Nat}(h:a.grownBy b row)(hr:∀k,row=J k->k<a.heap.size->R k):Wrote R a b:=⟨h.os,h.tape,h.output,h.size,fun k hk hn=>h.block k hk (fun e=>hn (hr k e.symm hk))⟩
theorem Wrote.below{R:Nat->Prop}{a b:Ba}{B:Nat}(h:Wrote R a b)(hB:B<=a.heap.size)(hr:∀k,k<B->¬R k):Ar B a b:=⟨h.os,h.tape,h.output,h.size,fun k hk=>h.block k (by omega) (hr k hk)⟩
theorem Wrote.keep{R S:Nat->Prop}{a b:Ba}(h:Wrote R a b)(hr:∀k,k<a.heap.size->S k->¬R k):KeepB S a b:=⟨h.size,fun k hs hk=>h.block k hk (hr k hk hs)⟩
theorem Wrote.more{R R':Nat->Prop}{a b:Ba}(h:Wrote R a b)(hr:∀k,k<a.heap.size->R k->R' k):Wrote R' a b:=⟨h.os,h.tape,h.output,h.size,fun k hk hn=>h.block k hk (fun h'=>hn (hr k hk h'))⟩
def wC(vs:List Vw):Vw->Option Ax:=fun v=>if v∈vs then J (O U (jj vs v)) else Z
theorem numF_nil:wC []=fun _=>Z:=by funext v;simp[wC]
theorem numF_put{vs:List Vw}{v:Vw}(h:v∉vs):xH (wC vs) v (O U vs.length)=wC (vs++[v]):=by
 funext x
 unfold xH wC
 by_cases e:x=v
 . subst e
   rw[Li rfl,Li (by simp)]
   congr 2
   exact(idxE_hit (k:=vs.length) (by simp) (by simp) (by rw[List.take_left];exact h)).symm
 rw[Lg e]
 by_cases hx:x∈vs
 . rw[Li hx,Li (by simp[hx])]
   congr 2
   unfold jj;rw[Li hx,Li (by simp[hx]),NO,Li hx]
 rw[Lg hx,Lg (by simp[hx,e])]
structure BdIn(B bB bM:Nat)(n:Int)(V:Ax)(vs:List Vw)(w:Ba):Prop where
 hB:w.heap[bB]?=J (Ai #[O U n,V,.map (J bM)] 148 (0,0))
 num:∃m,MapOf (fun v:Vw=>.agg v.cells) w bM m (wC vs)
 own:OwnV w B V vs
 ne:∀k,V.ownBlock=J k->k≠bB/\k≠bM
 bm:bB≠bM
 lo:B<=bB/\B<=bM
def Bk(bB bM:Nat)(V:Ax)(k:Nat):Prop:=k=bB\/k=bM\/V.ownBlock=J k
def BdOn(bB bM:Nat)(V:Ax)(w:Ba)(V':Ax)(w':Ba):Prop:=Wrote (Bk bB bM V) w w'/\∀k,V'.ownBlock=J k->V.ownBlock=J k\/w.heap.size<=k
theorem BdOn.refl(bB bM:Nat)(V:Ax)(w:Ba):BdOn bB bM V w V w:=⟨Wrote.refl _ _,fun _ h=>.inl h⟩
theorem BdOn.trans{bB bM:Nat}{V V1 V2:Ax}{w w1 w2:Ba}(h:BdOn bB bM V w V1 w1)(k:BdOn bB bM V1 w1 V2 w2):BdOn bB bM V w V2 w2:=by
 refine⟨h.1.trans k.1 fun j hj hr=>?_,fun j hj=>?_⟩
 . rcases hr with e | e | e
   . exact .inl e
   . exact .inr (.inl e)
   rcases h.2 j e with e | e
   . exact .inr (.inr e)
   omega
 rcases k.2 j hj with e | e
 . exact h.2 j e
 exact .inr (Lz h.1.size e)
theorem BdOn.after{bB bM:Nat}{V V1:Ax}{w w1 w2:Ba}(h:BdOn bB bM V w V1 w1)(k:Ar w1.heap.size w1 w2):BdOn bB bM V w V1 w2:=⟨h.1.trans (Wrote.of_below (R:=fun _=>False) k) (fun _ _ h=>h.elim),h.2⟩
theorem BdIn.on{B bB bM:Nat}{n:Int}{V:Ax}{vs:List Vw}{w w':Ba}(h:BdIn B bB bM n V vs w)(hb:Ar w.heap.size w w'):BdIn B bB bM n V vs w':=by
 obtain⟨m,hm⟩:=h.num;exact⟨La hb h.hB,⟨m,hm.same (hb.block _ hm.lt)⟩,h.own.below hb (Le _),h.ne,h.bm,h.lo⟩
theorem BdIn.push{B bB bM m:Nat}{n:Int}{A:Bb}{cap:Nat}{vs:List Vw}{v:Vw}{w w2 W w4:Ba}{g' aD:Nat}(H:BdIn B bB bM n (I A vs.length cap) vs w)(ib:w.grownBy w2 (J bM))
  (fC:MapOf (fun v:Vw=>.agg v.cells) w2 bM m (wC (vs++[v]))) (hW:Ar w2.heap.size w2 W)
  (hr:OwnR kVw w4 B (I (J ⟨g',0,Z⟩) (vs.length+1) aD) (vs.length+1) (xp vs++v.cells.toList)) (hg:W.grownBy w4 (I A vs.length cap).ownBlock)
  (bL:(I A vs.length cap).ownBlock=J g'\/g'=W.heap.size) :
  BdIn B bB bM n (I (J ⟨g',0,Z⟩) (vs.length+1) aD) (vs++[v]) (w4.setCell ⟨bB,1,Z⟩ (I (J ⟨g',0,Z⟩) (vs.length+1) aD)) /\
   BdOn bB bM (I A vs.length cap) w (I (J ⟨g',0,Z⟩) (vs.length+1) aD) (w4.setCell ⟨bB,1,Z⟩ (I (J ⟨g',0,Z⟩) (vs.length+1) aD)):=by
 have oE:=zj H.hB;obtain⟨m0,lO⟩:=H.num;have Ip:=lO.lt;have eQ:=ib.size;have VO:=hW.size;have lc:=H.own.lt;have ag:=(ib.block bB oE (fun e=>by cases e;exact H.bm rfl)).trans H.hB;have aG:=(hg.block bB (by omega) (fun e=>(H.ne bB e.symm).1 rfl)).trans ((hW.block bB (by omega)).trans ag);have VZ:=((fC.same (hW.block bM (by omega))).same (hg.block bM (by omega) (fun e=>(H.ne bM e.symm).2 rfl)));have ia:=hr.lt g' rfl
 have bj:g'≠bB/\g'≠bM:=by
  rcases bL with e | e
  . exact H.ne g' e
  exact⟨by omega,by omega⟩
 refine⟨⟨?_,⟨m,VZ.same (Lh w4 _ _ bM (fun e=>H.bm e.symm))⟩,?_,?_,H.bm,H.lo⟩,?_,?_⟩
 . rw[Lq w4 bB 1 _ _ _ aG];rfl
 . have h5:OwnR kVw (w4.setCell ⟨bB,1,Z⟩ (I (J ⟨g',0,Z⟩) (vs.length+1) aD)) B (I (J ⟨g',0,Z⟩) (vs.length+1) aD) (vs.length+1) (xp vs++v.cells.toList):=hr.kept (zV w4 bB 1 _) (.inr (fun e=>bj.1 (by simpa[Value.ownBlock] using e)))
   unfold OwnV;rw[Lw,uq,show xp [v]=v.cells.toList by simp[xp]];exact h5
 . intro k hk
   have:g'=k:=by simpa[Value.ownBlock] using hk
   subst this;exact bj
 . have h1:Wrote (Bk bB bM (I A vs.length cap)) w w2:=Wrote.of_grown ib (fun k hk _=>by cases hk;exact .inr (.inl rfl))
   have h2:Wrote (Bk bB bM (I A vs.length cap)) w2 W:=Wrote.of_below hW;have h3:Wrote (Bk bB bM (I A vs.length cap)) W w4:=Wrote.of_grown hg (fun k hk _=>.inr (.inr hk));have h4:Wrote (Bk bB bM (I A vs.length cap)) w4 (w4.setCell ⟨bB,1,Z⟩ (I (J ⟨g',0,Z⟩) (vs.length+1) aD)):=Wrote.of_grown (zV w4 bB 1 _) (fun k hk _=>by cases hk;exact .inl rfl);exact((h1.trans h2 (fun _ _ h=>h)).trans h3 (fun _ _ h=>h)).trans h4 (fun _ _ h=>h)
 intro k hk;have:g'=k:=by simpa[Value.ownBlock] using hk
 subst this;rcases bL with e | e
 . exact .inl e
 exact .inr (by omega)
theorem badd_any(B bB bM:Nat)(n:Int)(V:Ax)(vs:List Vw)(v:Vw)(hl:vs.length<=50000)(w:Ba)(H:BdIn B bB bM n V vs w) :
  As Aq 145 #[Al (J ⟨bB,0,Z⟩),.agg v.cells] w fun e w'=>e=Am (O U (qu vs v).2)/\∃V',BdIn B bB bM n V' (qu vs v).1 w'/\BdOn bB bM V w V' w':=by
 obtain⟨A,cap,rfl⟩:=H.own.lit;obtain⟨w1,ab,d0,eP,bP⟩:=zk w v.cells 111;have H1:=H.on bP;have HI:=zH H1;have ai:=zH ab;have mN:=zH bP;have bK:=zH d0;have HV:=zH (show wC vs v=if v∈vs then J (O U (jj vs v)) else Z from rfl);have oE:=zj H.hB;have fW:=zH (fun (k:Nat) (e:(I A vs.length cap).ownBlock=J k)=>(H.own.lt k e).2);have hbMw:bM<w.heap.size:=by obtain⟨_,hm⟩:=H.num;exact hm.lt
 have b0:=H1.hB;obtain⟨m,hm⟩:=H1.num;have HM:=zH hm;have hz:∀W:Ba,(zeroValue 3).run Aq W=.ok (O U 0) W:=fun W=>by kernel_rfl
 have ht:Aq.underlying 146=J (.map 111 3):=underlying146;have sJ:bB≠w.heap.size:=by omega
 clear ab H1 H;go_enter func145,ntmps145;unfold Vw.cells at ai ⊢;go_wp2_with fail;rw[ai.out]
 by_cases hv:v∈vs
 case pos=>
  have hf:wC vs v=J (O U (jj vs v)):=Li hv;have tQ:=putW_yes hv;have HPW:=zH tQ;have HF:=zH hf;have hid:=idxE_yes hv;clear tQ hf hv HV;refine zw [(0,AA),(1,AA),(2,AA),(3,AA),(4,AA),(5,AA),(6,AA),(7,AA),(8,AA),(9,AA),(10,AA)] (fun W=>W.heap[bB]?=J (Ai #[O U n,I A vs.length cap,.map (J bM)] 148 (0,0))/\MapOf (fun v:Vw=>.agg v.cells) W bM m (wC vs)/\W.heap[w.heap.size]?=J (Ai v.cells 111 (0,0))) (by kernel_rfl) (by kernel_rfl) ⟨b0,hm,d0⟩ ?_
  repeat
   apply zA rfl
   . rintro K' ac W ⟨y0,y1,y2⟩
     have g0:W.cell? ⟨w.heap.size,0,Z⟩=J (O U v.p):=zh y2 0 rfl;have g1:W.cell? ⟨w.heap.size,1,Z⟩=J (O U v.r):=zh y2 1 rfl;have g2:W.cell? ⟨w.heap.size,2,Z⟩=J (O U v.i):=zh y2 2 rfl;have g3:W.cell? ⟨w.heap.size,3,Z⟩=J (O U v.h0):=zh y2 3 rfl;have g4:W.cell? ⟨w.heap.size,4,Z⟩=J (O U v.h1):=zh y2 4 rfl;have g5:W.cell? ⟨w.heap.size,5,Z⟩=J (O U v.h2):=zh y2 5 rfl;have g6:W.cell? ⟨w.heap.size,6,Z⟩=J (O U v.h3):=zh y2 6 rfl;have g7:W.cell? ⟨w.heap.size,7,Z⟩=J (O U v.h4):=zh y2 7 rfl;have b0:W.cell? ⟨bB,0,Z⟩=J (O U n):=zh y0 0 rfl;have b1:W.cell? ⟨bB,1,Z⟩=J (I A vs.length cap):=zh y0 1 rfl;have b2:W.cell? ⟨bB,2,Z⟩=J (.map (J bM)):=zh y0 2 rfl;have dl:=y1.look2 Yg ht (hz W) v;rw[HF.out] at dl;simp only[Option.getD_some,Option.isSome_some,Vw.cells] at dl;clear y0 y1 y2;go_simp;exact ac
  refine zO ?_;clear b0 hm d0;go_wp2_with fail;go_ret;rw[HPW.out];exact⟨rfl,_,HI.out.on (Ll _ _).drew,(BdOn.refl bB bM _ w).after (mN.out.drew)⟩
 have hf:wC vs v=Z:=Lg hv;have tQ:=putW_no hv;have HPW:=zH tQ;have HF:=zH hf;have HVN:Aw (v∉vs):=hv;clear tQ hf hv HV;refine zw [(0,AA),(1,AA),(2,AA),(3,AA),(4,AA),(5,AA),(6,AA),(7,AA),(8,AA),(9,AA),(10,AA)] (fun W=>W.heap[bB]?=J (Ai #[O U n,I A vs.length cap,.map (J bM)] 148 (0,0))/\MapOf (fun v:Vw=>.agg v.cells) W bM m (wC vs)/\W.heap[w.heap.size]?=J (Ai v.cells 111 (0,0))) (by kernel_rfl) (by kernel_rfl) ⟨b0,hm,d0⟩ ?_
 repeat
  apply zA rfl
  . rintro K' ac W ⟨y0,y1,y2⟩
    have g0:W.cell? ⟨w.heap.size,0,Z⟩=J (O U v.p):=zh y2 0 rfl;have g1:W.cell? ⟨w.heap.size,1,Z⟩=J (O U v.r):=zh y2 1 rfl;have g2:W.cell? ⟨w.heap.size,2,Z⟩=J (O U v.i):=zh y2 2 rfl;have g3:W.cell? ⟨w.heap.size,3,Z⟩=J (O U v.h0):=zh y2 3 rfl;have g4:W.cell? ⟨w.heap.size,4,Z⟩=J (O U v.h1):=zh y2 4 rfl;have g5:W.cell? ⟨w.heap.size,5,Z⟩=J (O U v.h2):=zh y2 5 rfl;have g6:W.cell? ⟨w.heap.size,6,Z⟩=J (O U v.h3):=zh y2 6 rfl;have g7:W.cell? ⟨w.heap.size,7,Z⟩=J (O U v.h4):=zh y2 7 rfl;have b0:W.cell? ⟨bB,0,Z⟩=J (O U n):=zh y0 0 rfl;have b1:W.cell? ⟨bB,1,Z⟩=J (I A vs.length cap):=zh y0 1 rfl;have b2:W.cell? ⟨bB,2,Z⟩=J (.map (J bM)):=zh y0 2 rfl;have dl:=y1.look2 Yg ht (hz W) v;rw[HF.out] at dl;simp only[Option.getD_none,Option.isSome_none,Vw.cells] at dl;clear y0 y1 y2;go_simp;exact ac
 refine zO ?_;clear hm;have b1:w1.cell? ⟨bB,1,Z⟩=J (I A vs.length cap):=zh HI.out.hB 1 rfl;go_wp2_with fail;obtain⟨w2,fH,fC,sC⟩:=MapOf.put (w:=w1.drew.drew) (P:=Aq) (show MapOf (fun v:Vw=>.agg v.cells) w1.drew.drew bM m (wC vs) from HM.out) Yg ht v (O U vs.length);rw[numF_put HVN.out] at fC;have HM2:=zH fC;have Er:Aw (w1.grownBy w2 (J bM)):=⟨sC.os,sC.tape,sC.output,sC.size,sC.block⟩;have Ip:=HM.out.lt;have hbM:=HI.out.bm;have hbm2:w.heap.size≠bM:=by omega
 simp only[Vw.cells] at fH;have d2:=(Er.out.block _ (zj bK.out) (fun e=>by cases e;exact hbm2 rfl)).trans bK.out;have b2:=(Er.out.block _ (zj HI.out.hB) (fun e=>by cases e;exact hbM rfl)).trans HI.out.hB;clear fC sC;refine zw [(0,AA),(1,AA),(2,AA),(3,AA),(4,AA),(5,AA),(6,AC)] (fun W=>W.heap[bB]?=J (Ai #[O U n,I A vs.length cap,.map (J bM)] 148 (0,0))/\W.heap[w.heap.size]?=J (Ai v.cells 111 (0,0))) (by kernel_rfl) (by kernel_rfl) ⟨HI.out.hB,d0⟩ ?_;clear b0 b1 d0
 repeat
  apply zA rfl
  . rintro K' ac W ⟨y0,y2⟩
    have g0:W.cell? ⟨w.heap.size,0,Z⟩=J (O U v.p):=zh y2 0 rfl;have g1:W.cell? ⟨w.heap.size,1,Z⟩=J (O U v.r):=zh y2 1 rfl;have g2:W.cell? ⟨w.heap.size,2,Z⟩=J (O U v.i):=zh y2 2 rfl;have g3:W.cell? ⟨w.heap.size,3,Z⟩=J (O U v.h0):=zh y2 3 rfl;have g4:W.cell? ⟨w.heap.size,4,Z⟩=J (O U v.h1):=zh y2 4 rfl;have g5:W.cell? ⟨w.heap.size,5,Z⟩=J (O U v.h2):=zh y2 5 rfl;have g6:W.cell? ⟨w.heap.size,6,Z⟩=J (O U v.h3):=zh y2 6 rfl;have g7:W.cell? ⟨w.heap.size,7,Z⟩=J (O U v.h4):=zh y2 7 rfl;have b2:W.cell? ⟨bB,2,Z⟩=J (.map (J bM)):=zh y0 2 rfl;clear y0 y2;go_simp;exact ac
 refine zx rfl ?_;intro K' ac;go_simp;refine ac _ _ ⟨b2,d2⟩ ?_;refine zO ?_;clear ac K' fH;go_wp2_with fail;have eQ:=Er.out.size;have SU:bB<w2.heap.size:=by omega
 have sf:=zH d2;have cJ:=zH b2;refine zw [(0,AA),(1,AA),(2,AA),(3,AA),(4,AA),(5,AA),(6,AC),(7,AC),(8,AC),(9,AC),(10,AC)] (fun W=>W.heap[bB]?=J (Ai #[O U n,I A vs.length cap,.map (J bM)] 148 (0,0))/\W.heap[w.heap.size]?=J (Ai v.cells 111 (0,0))) (by kernel_rfl) (by kernel_rfl) ⟨b2,d2⟩ ?_;clear b2 d2
 repeat
  apply zA rfl
  . rintro K' ac W ⟨y0,y2⟩
    have g0:W.cell? ⟨w.heap.size,0,Z⟩=J (O U v.p):=zh y2 0 rfl;have g1:W.cell? ⟨w.heap.size,1,Z⟩=J (O U v.r):=zh y2 1 rfl;have g2:W.cell? ⟨w.heap.size,2,Z⟩=J (O U v.i):=zh y2 2 rfl;have g3:W.cell? ⟨w.heap.size,3,Z⟩=J (O U v.h0):=zh y2 3 rfl;have g4:W.cell? ⟨w.heap.size,4,Z⟩=J (O U v.h1):=zh y2 4 rfl;have g5:W.cell? ⟨w.heap.size,5,Z⟩=J (O U v.h2):=zh y2 5 rfl;have g6:W.cell? ⟨w.heap.size,6,Z⟩=J (O U v.h3):=zh y2 6 rfl;have g7:W.cell? ⟨w.heap.size,7,Z⟩=J (O U v.h4):=zh y2 7 rfl;have b1:W.cell? ⟨bB,1,Z⟩=J (I A vs.length cap):=zh y0 1 rfl;clear y0 y2;go_simp;exact ac
 refine zx rfl ?_;intro K' ac;go_simp;obtain⟨W3,fU,e3,eK,ct⟩:=Z3 w2 v.cells 111;simp only[Vw.cells] at fU;rw[fU];clear fU;refine ac _ _ ⟨Lb ct SU cJ.out,Lb ct (by omega) sf.out⟩ ?_;clear ac K';refine zx rfl ?_;intro K' ac;rw[Li (by rfl)]
 have hOw:OwnR kVw W3 B (I A vs.length cap) vs.length (xp vs):=by
  have h0:OwnR kVw w1 B (I A vs.length cap) vs.length (xp vs):=HI.out.own;refine(h0.kept Er.out ?_).below ct (Le _);rcases hA:(I A vs.length cap).ownBlock with _ | k
  . exact .inl rfl
  exact .inr fun e=>(HI.out.ne k hA).2 (by simpa using e)
 have lc:=HI.out.lo;refine jQ kVw_ok (.tmp 33) (.tmp 35) (by rfl) B (I A vs.length cap) vs.length (xp vs) (by rfl) hOw w2.heap.size v.cells (by rfl) e3 rfl (gV v) (by omega) (by omega) _ rfl ?_;intro g' aD w4 hr hg bL aa;have HP:=zH (BdIn.push HI.out Er.out HM2.out ct hr hg bL);have z0:=(hg.block bB (by omega) (fun e=>(HI.out.ne bB e.symm).1 rfl)).trans (Lb ct SU cJ.out);have z1:=(hg.block w.heap.size (by omega) (fun e=>by have:=fW.out _ e.symm;omega)).trans (Lb ct (by omega) sf.out);refine ac _ _ ⟨z0,z1⟩ ?_;clear ac K' hr hg bL hOw e3 ct;refine zx rfl ?_;intro K' ac;go_simp;refine ac _ _ ⟨z0,z1⟩ ?_;clear ac K';refine zx rfl ?_;intro K' ac;go_simp;refine ac _ _ ⟨z0,z1⟩ ?_;clear ac K';have b1:w4.cell? ⟨bB,1,Z⟩=J (I A vs.length cap):=zh z0 1 rfl;have f1:=zi z0 1;clear z0 z1;refine xg rfl (by kernel_rfl) ?_;intro K' ac;go_simp;refine ac (fun _=>True) _ _ trivial ?_;refine zO ?_;clear ac K' b1 f1;go_wp2_with fail;go_ret;rw[HPW.out];exact⟨rfl,_,HP.out.1,(BdOn.refl bB bM _ w).after mN.out |>.trans HP.out.2⟩
def YT(k:Nat):Array Ax:=#[O U (if 0<k then -1 else 0),O U (if 1<k then -1 else 0),O U (if 2<k then -1 else 0),O U (if 3<k then -1 else 0),O U (if 4<k then -1 else 0)]
theorem minus_set(k:Nat)(hk:k<5):(YT k).setIfInBounds k (O U (-1))=YT (k+1):=by
 match k,hk with
 | 0,_=>rfl
 | 1,_=>rfl
 | 2,_=>rfl
 | 3,_=>rfl
 | 4,_=>rfl
theorem minus_at(k:Nat)(hk:k<5):(YT k)[k]?=J (O U 0):=by
 match k,hk with
 | 0,_=>rfl
 | 1,_=>rfl
 | 2,_=>rfl
 | 3,_=>rfl
 | 4,_=>rfl
theorem Zl(w:Ba):As Aq 146 #[] w fun e w'=>e=Am (Ak #[O U (-1),O U (-1),O U (-1),O U (-1),O U (-1)])/\Ar w.heap.size w w':=by
 obtain⟨w1,ab,d0,d1,aK,hB⟩:=yV w (YT 0) (YT 0) 88 88;have ai:=zH ab;go_enter func146,ntmps146;go_wp2_with fail;rw[show((w.alloc (Ai #[O U 0,O U 0,O U 0,O U 0,O U 0] 88)).alloc (Ai #[O U 0,O U 0,O U 0,O U 0,O U 0] 88))=w1 from ai.out];have H0:=zH d0;have H1:=zH d1;have HB:=zH hB
 go_loopw [3] (fun i wr=>∃k:Nat,k<=5/\i=O U (k:Int)/\Aw (wr.heap[w.heap.size]?=J (Ai (YT 0) 88 (0,0)))/\Aw (wr.heap[w.heap.size+1]?=J (Ai (YT k) 88 (0,0)))/\Aw (Ar w.heap.size w wr)) (fun i _=>5-(Au i).toNat)
 case atStart=>exact⟨0,by omega,rfl,H0.out,H1.out,HB.out⟩
 obtain⟨k,hk,rfl,H0,H1,CB⟩:=hrel
 by_cases p':k<5
 case neg=>
  obtain rfl:k=5:=by omega
  have x0:wr.cell? ⟨w.heap.size+1,0,Z⟩=J (O U (-1)):=zh H1.out 0 rfl;have x1:wr.cell? ⟨w.heap.size+1,1,Z⟩=J (O U (-1)):=zh H1.out 1 rfl;have x2:wr.cell? ⟨w.heap.size+1,2,Z⟩=J (O U (-1)):=zh H1.out 2 rfl;have x3:wr.cell? ⟨w.heap.size+1,3,Z⟩=J (O U (-1)):=zh H1.out 3 rfl;have x4:wr.cell? ⟨w.heap.size+1,4,Z⟩=J (O U (-1)):=zh H1.out 4 rfl;have y0:wr.cell? ⟨w.heap.size,0,Z⟩=J (O U 0):=zh H0.out 0 rfl;have y1:wr.cell? ⟨w.heap.size,1,Z⟩=J (O U 0):=zh H0.out 1 rfl;have y2:wr.cell? ⟨w.heap.size,2,Z⟩=J (O U 0):=zh H0.out 2 rfl;have y3:wr.cell? ⟨w.heap.size,3,Z⟩=J (O U 0):=zh H0.out 3 rfl;have y4:wr.cell? ⟨w.heap.size,4,Z⟩=J (O U 0):=zh H0.out 4 rfl;have f0:=zi H0.out 0;have f1:=zi H0.out 1;have f2:=zi H0.out 2;have f3:=zi H0.out 3;have f4:=zi H0.out 4;go_wp2_with fail;refine LG (v:=Ak #[O U (-1),O U (-1),O U (-1),O U (-1),O U (-1)]) (by simp[results,results146,go_sem,y0,y1,y2,y3,y4]) rfl ⟨rfl,?_⟩;exact((((CB.out.setCell (Le _) _).setCell (Le _) _).setCell (Le _) _).setCell (Le _) _).setCell (Le _) _
 have x0:=zh H1.out k (minus_at k p');have f0:=zi H1.out k;have dh:(0:Int)<=(k:Int):=by omega
 have aW:(k:Int)<5:=by omega
 go_wp2_with fail
 go_roundw
 case rel=>exact⟨k+1,by omega,by go_num,(Lh wr _ _ w.heap.size (by show w.heap.size≠w.heap.size+1;omega)).trans H0.out,by show _=_;rw[Lq wr _ k _ _ _ H1.out,minus_set k p'],CB.out.setCell (by show w.heap.size<=w.heap.size+1;omega) _⟩
 simp[Au];omega
end
section
open Go.RowKit
theorem gK(n:Nat)(h1:1<=n)(h5:n<=8)(W:Ba):(Instr.makeSlice 36 (O U n) (O U n)).run Aq W=.ok (I (J ⟨W.heap.size,0,Z⟩) n n) (W.alloc (Ai ((List.replicate n 0).map (O U)).toArray 3)):=by
 obtain rfl | rfl | rfl | rfl | rfl | rfl | rfl | rfl:n=1\/n=2\/n=3\/n=4\/n=5\/n=6\/n=7\/n=8:=by omega
 all_goals kernel_rfl
theorem qX{cur:List Ax}{x:Ax}{k m n:Nat}(hl:cur.length=n)(h:cur.take k=List.replicate k x)(hk:k+m<=n):(splice cur k (List.replicate m x)).take (k+m)=List.replicate (k+m) x/\(splice cur k (List.replicate m x)).length=n:=by
 constructor
 . unfold splice
   rw[h,<-Nn,PA (by simp),Nd (by simp)];exact List.replicate_append_replicate
 rw[length_splice _ _ _ (by simp;omega),hl]
theorem Jn{w:Ba}{b o:Nat}{x:Ax}(h:w.cell? ⟨b,o,Z⟩=J x):∀j v,[x][j]?=J v->w.cell? ((⟨b,o,Z⟩:Addr).add j)=J v:=by
 intro j v hj;have h0:j=0:=by have:=(Lv.1 hj).1;simp at this;omega
 subst h0;simp at hj;subst hj;rw[Pn];exact h
theorem wk:(Aq.info? 3).map (·.size)=J 1:=by kernel_rfl
theorem repeat8_any(n b:Nat)(h1:1<=n)(h5:n<=8)(u:Int)(w:Ba)(hb:w.heap[b]?=J (Ai #[O U u] 3 (0,0))) :
  As Aq 45 #[I (J ⟨b,0,Z⟩) 1 1,O U n] w fun e w'=>∃g,e=Am (I (J ⟨g,0,Z⟩) n n)/\w.heap.size<=g/\RowAt w' g (List.replicate n u)/\Ar w.heap.size w w':=by
 have eq:=gK n h1 h5;obtain⟨ar,pC⟩:∃ar:List Ax,(List.replicate n 0).map (O U)=ar:=⟨_,rfl⟩;rw[pC] at eq;have sK:ar.length=n:=by rw[<-pC];simp
 have hc:=zh hb 0 rfl;have aL:=zj hb;have hm:=Tryz.bits_Mul 1 n (by omega) (by omega) w;have e1:(1*n / 18446744073709551616:Nat)=0:=by omega
 have e2:(1*n % 18446744073709551616:Nat)=n:=by omega
 rw[e1,e2] at hm;have MI:¬(n:Int)<0:=by omega
 go_enter func45,ntmps45;go_wp2_with fail;refine hm.mono ?_;rintro e w1 ⟨rfl,ab⟩;obtain rfl:=ab;obtain⟨W0,dN,b0,aX,ce⟩:=zk w1 ar.toArray 3;have hx:W0.cell? ⟨b,0,Z⟩=J (O U u):=(ce.cell (p:=⟨b,0,Z⟩) aL).trans hc;have BB:=zH ce;have BX:=zH b0;have HX:=zH hx;go_wp2_with ((refine R9 rfl (.tmp 31) (.tmp 32) 36 36 rfl 3 Nm wk (J ⟨w1.heap.size,0,Z⟩) (J ⟨b,0,Z⟩) n n 1 1 rfl rfl w1.heap.size 0 ar 3 BX.out [O U u] (by simp[Nat.min_def];omega) (fun _=>⟨rfl,_,rfl,Jn HX.out⟩) (by simp;omega) (by simp[Value.oneCell']) w1.heap.size w1 BB.out (Le _) ?_);intro w2 ef ag);obtain⟨g,hg⟩:=Ki w1.heap.size;have s1:=qX (cur:=ar) (x:=O U u) (k:=0) (m:=1) (n:=n) sK (by simp) (by omega);have S1:=zH s1;have tC:=zH hg;rw[hg] at ef ag ⊢
 go_loopw [8] (fun l wr=>∃(k:Nat) (cur:List Ax),1<=k/\k<=n/\l=O U k/\Aw (cur.length=n)/\Aw (cur.take k=List.replicate k (O U u))/\Aw (wr.heap[g]?=J (Ai cur.toArray 3 (0,0)))/\Ar g w1 wr) (fun l _=>n-(Au l).toNat)
 case atStart=>exact⟨1,splice ar 0 [O U u],by omega,h1,rfl,S1.out.2,S1.out.1,ef,ag⟩
 obtain⟨k,cur,aW,MN,rfl,aP,AD,ah,iT⟩:=hrel
 by_cases aa:k<n
 . clear S1 ef ag
   have dh:(0:Int)<=(k:Int):=by omega
   have iH:(k:Int)<=(n:Int):=by omega
   have bj:¬n=k:=by omega
   go_upto_region 9 with fail
   obtain⟨d,hd⟩:=Ki (n-k);obtain⟨m,hm⟩:=Ki (Nat.min k d);have lO:min k d=m:=hm;have po:1<=m:=by omega
   have fC:k+m<=n:=by omega
   have V7:m<=k:=by omega
   have oM:∀j v,(List.replicate m (O U u))[j]?=J v->wr.cell? ((⟨g,0,Z⟩:Addr).add j)=J v:=by
    intro j v hj;have P5:j<m:=by have:=(Lv.1 hj).1;simpa using this
    rw[NY,Li P5] at hj
    cases hj
    rw[Pn,LO];refine zh ah.out j ?_;rw[RN];have h2:=congrArg (fun l=>l[j]?) AD.out;simp only[List.getElem?_take,List.getElem?_replicate] at h2;rwa[Li (by omega),Li (by omega)] at h2
   have SP:=zH (qX (cur:=cur) (x:=O U u) (k:=k) (m:=m) (n:=n) aP.out AD.out fC);have Ch:=zH oM;have HM:=zH hm;have mr:=zH iT;have aK:IntKind.i64.wrap ((k:Int)+(m:Int))=(k:Int)+(m:Int):=SG _ (by omega);have mG:=zH aK;clear oM hm iT aK
   go_region_law ((refine Sr (by rfl) (.tmp 41) (.tmp 44) 36 36 (by rfl) 3 Nm wk (J ⟨g,k,Z⟩) (J ⟨g,0,Z⟩) d d k n (by simp[go_sem]) (by simp[go_sem]) g k cur 3 ah.out (List.replicate m (O U u)) (by rw[LQ];exact HM.out.symm) (fun _=>⟨rfl,_,rfl,Ch.out⟩) (by rw[LQ,aP.out];exact fC) (by intro v hv;rw[RD hv];rfl) g w1 mr.out.drew (Le _) ?_;intro w3 mA aj;rw[LQ]))
   all_goals
    rw[mG.out];go_wp2_with fail
    go_frame
    go_roundw
    case rel=>
     (repeat apply Exists.intro)
     exact⟨⟨k+m,splice cur k (List.replicate m (O U u)),by omega,by omega,rfl,SP.out.2,SP.out.1,mA,aj⟩,by first | rfl | (go_frame;rfl) | (simp[Act.put];done)⟩
    case measure=>simp[Au];omega
 obtain rfl:k=n:=by omega
 go_wp2_with fail;go_ret;refine⟨g,rfl,by have:=tC.out;omega,?_,by have:=tC.out;rw[this];exact iT⟩;unfold RowAt;have e:=AD.out;rw[Nd (by have:=aP.out;omega)] at e;rw[ah.out,e];simp
theorem BdIn.set{B bB bM:Nat}{n:Int}{V:Ax}{vs:List Vw}{w:Ba}(h:BdIn B bB bM n V vs w){g:Nat}(h1:g≠bB)(h2:g≠bM)(h3:V.ownBlock≠J g)(o:Nat)(u:Ax):BdIn B bB bM n V vs (w.setCell ⟨g,o,Z⟩ u):=by
 obtain⟨m,hm⟩:=h.num;exact⟨(Lh w _ _ bB (fun e=>h1 e.symm)).trans h.hB,⟨m,hm.same (Lh w _ _ bM (fun e=>h2 e.symm))⟩,h.own.kept (zV w g o _) (.inr h3),h.ne,h.bm,h.lo⟩
theorem BdIn.grown{B bB bM:Nat}{n:Int}{V:Ax}{vs:List Vw}{w w':Ba}{row:Option Nat}(h:BdIn B bB bM n V vs w)(hg:w.grownBy w' row)(h1:row≠J bB)(h2:row≠J bM)(h3:∀k,V.ownBlock=J k->row≠J k):BdIn B bB bM n V vs w':=by
 obtain⟨m,hm⟩:=h.num;refine⟨(hg.block _ (zj h.hB) (fun e=>h1 e.symm)).trans h.hB,⟨m,hm.same (hg.block _ hm.lt (fun e=>h2 e.symm))⟩,h.own.kept hg ?_,h.ne,h.bm,h.lo⟩
 cases hv:V.ownBlock with
 | none=>exact .inl rfl
 | some k=>exact .inr fun e=>h3 k hv e.symm
theorem BdIn.lts{B bB bM:Nat}{n:Int}{V:Ax}{vs:List Vw}{w:Ba}(h:BdIn B bB bM n V vs w):bB<w.heap.size/\bM<w.heap.size/\∀k,V.ownBlock=J k->B<=k/\k<w.heap.size:=by
 obtain⟨m,hm⟩:=h.num;exact⟨zj h.hB,hm.lt,h.own.lt⟩
theorem BdOn.bel{B bB bM:Nat}{n:Int}{V V':Ax}{vs:List Vw}{w w':Ba}(h:BdIn B bB bM n V vs w)(k:BdOn bB bM V w V' w'):Ar B w w':=by
 obtain⟨h1,h2,h3⟩:=h.lts;have h4:=h.lo;refine k.1.below (by omega) fun j hj hr=>?_
 rcases hr with e | e | e
 . omega
 . omega
 have:=(h3 j e).1;omega
theorem BdOn.set{bB bM:Nat}{V V':Ax}{w w':Ba}(k:BdOn bB bM V w V' w'){g:Nat}(hg:w.heap.size<=g)(o:Nat)(u:Ax):BdOn bB bM V w V' (w'.setCell ⟨g,o,Z⟩ u):=
 ⟨k.1.trans (Wrote.of_grown (R:=fun k=>k=g) (zV w' g o u) (fun k e _=>by cases e;rfl)) (fun k hk e=>by subst e;omega),k.2⟩
theorem BdOn.grown{bB bM:Nat}{V V':Ax}{w w' w2:Ba}{row:Option Nat}(k:BdOn bB bM V w V' w')(hg:w'.grownBy w2 row)(hr:∀j,row=J j->w.heap.size<=j):BdOn bB bM V w V' w2:=
 ⟨k.1.trans (Wrote.of_grown (R:=fun k=>row=J k) hg (fun _ e _=>e)) (fun j hj e=>by have:=hr j e;omega),k.2⟩
theorem row_set{xs:List Int}{N p:Nat}(hx:xs.length=p)(hp:p<N)(u:Int):(xs++List.replicate (N-p) 0).set p u=(xs++[u])++List.replicate (N-(p+1)) 0:=by
 subst hx;rw[List.set_append_right _ _ (Le _),N0,show N-xs.length=(N-(xs.length+1))+1 by omega,List.replicate_succ,List.set_cons_zero];simp
structure RwIn(B bB bM N:Nat)(V0:Ax)(w0:Ba)(gN:Nat)(f:Nat->Vw)(vs:List Vw)(p:Nat)(V1:Ax)(W:Ba):Prop where
 bd:BdIn B bB bM N V1 (yH f vs p).1 W
 row:RowAt W gN ((yH f vs p).2++List.replicate (N-p) 0)
 on:BdOn bB bM V0 w0 V1 W
 ne:V1.ownBlock≠J gN
 ng:w0.heap.size<=gN
 nb:gN≠bB/\gN≠bM
theorem RwIn.on_{B bB bM N:Nat}{V0:Ax}{w0:Ba}{gN:Nat}{f:Nat->Vw}{vs:List Vw}{p:Nat}{V1:Ax}{W W':Ba}(H:RwIn B bB bM N V0 w0 gN f vs p V1 W)(hb:Ar W.heap.size W W'):RwIn B bB bM N V0 w0 gN f vs p V1 W':=
 ⟨H.bd.on hb,Lb hb H.row.lt H.row,H.on.after hb,H.ne,H.ng,H.nb⟩
theorem RwIn.mid{B bB bM N:Nat}{V0:Ax}{w0:Ba}{gN:Nat}{f:Nat->Vw}{vs:List Vw}{p:Nat}{V1 V':Ax}{W W':Ba}(H:RwIn B bB bM N V0 w0 gN f vs p V1 W)(ho:BdOn bB bM V1 W V' W') :
  RowAt W' gN ((yH f vs p).2++List.replicate (N-p) 0)/\V'.ownBlock≠J gN:=by
 refine⟨(ho.1.block gN H.row.lt fun hr=>?_).trans H.row,fun e=>?_⟩
 . rcases hr with e | e | e
   . exact H.nb.1 e
   . exact H.nb.2 e
   exact H.ne e
 rcases ho.2 gN e with e | e
 . exact H.ne e
 have:=H.row.lt;omega
theorem RwIn.step{B bB bM N:Nat}{V0:Ax}{w0:Ba}{gN:Nat}{f:Nat->Vw}{vs:List Vw}{p:Nat}{V1 V':Ax}{W W':Ba}(H:RwIn B bB bM N V0 w0 gN f vs p V1 W)(hp:p<N)
  (hb:BdIn B bB bM N V' (qu (yH f vs p).1 (f p)).1 W') (ho:BdOn bB bM V1 W V' W') :
  RwIn B bB bM N V0 w0 gN f vs (p+1) V' (W'.setCell ⟨gN,p,Z⟩ (O U (qu (yH f vs p).1 (f p)).2)):=by
 obtain⟨h1,h2⟩:=H.mid ho;refine⟨hb.set H.nb.1 H.nb.2 h2 p _,?_,(H.on.trans ho).set H.ng p _,h2,H.ng,H.nb⟩;have h3:=h1.set p (qu (yH f vs p).1 (f p)).2;rw[row_set (qn f vs p) hp] at h3;exact h3
end
section
open Go.RowKit
attribute [local go_sem] Oper.semAt_some
theorem ints_raw{w:Ba}{A:Bb}{xs:List Int}(h:IAt w w.heap.size A xs):Raw w A xs.length (xs.map (O U)):=fun h0=>by
 obtain⟨b,off,e,aa,hc⟩:=h h0;refine⟨b,off,e,aa,fun j u hj=>?_⟩;obtain⟨x,hx,rfl⟩:∃x,xs[j]?=J x/\O U x=u:=by simpa using hj
 obtain⟨cq,rfl⟩:=Lv.1 hx;exact hc j cq
theorem ints_one(xs:List Int):∀u∈xs.map (O U),u.oneCell'=AA:=fun u hu=>by obtain⟨x,_,rfl⟩:=LZ.1 hu;rfl
theorem ints_own{w:Ba}{base:Nat}{v:Ax}{xs:List Int}(h:OwnR kIn w base v xs.length (xs.map (O U))):∃A cap,v=I A xs.length cap/\xs.length<=cap/\cap<=maxLen/\IAtS (fun k=>base<=k) w A xs:=by
 have aa:=h.lt;obtain⟨A,cap,rfl,hc,hm,hr⟩:=h.form;refine⟨A,cap,rfl,hc,hm,fun h0=>?_⟩;obtain⟨g,rfl,hg,ia,aP⟩:=hr h0;refine⟨g,0,rfl,(aa g hg).1,ia,fun i hi=>?_⟩;rw[LO];exact aP i _ (by simp[hi])
theorem Xo(A:Bb)(cap:Nat)(xs:List Int)(w:Ba)(hA:IAt w w.heap.size A xs)(hl:xs.length<=1000000) :
  As Aq 140 #[I A xs.length cap] w fun e w'=>∃A' c,e=Am (I A' xs.length c)/\IAtS (fun k=>w.heap.size<=k) w' A' xs/\Ar w.heap.size w w':=
 (clone_kIn A xs.length cap (xs.map (O U)) w (by simp) (ints_raw hA) (ints_one xs) hl).mono fun e w' ⟨v,h1,h2,h3⟩=>by
  obtain⟨A',c,h4,_,_,h5⟩:=ints_own h2;exact⟨A',c,by rw[h1,h4],h5,h3⟩
theorem Zg(A:Bb)(cap:Nat)(xss:List (List Int))(w:Ba)(hA:LAt w w.heap.size A xss)(hl:xss.length<=100000)(aU:∀v∈xss,v.length<=100000) :
  As Aq 141 #[I A xss.length cap] w fun e w'=>∃v,e=Am v/\OwnX cIs (fun k=>w.heap.size<=k) w' w.heap.size v xss/\Ar w.heap.size w w':=by
 have HA:=zH hA;have ic:=zH aU;go_enter func141,ntmps141;go_wp2_with fail
 go_loopw [3,8] (fun o i wr=>∃k:Nat,k<=xss.length/\i=O U (k:Int)/\Aw (OwnX cIs (fun b=>w.heap.size<=b) wr w.heap.size o (xss.take k))/\Aw (Ar w.heap.size w wr)) (fun _ i _=>xss.length-(Au i).toNat)
 case atStart=>exact⟨0,by omega,rfl,by rw[L1];exact OwnX.nil _ _ _ _,Ll _ _⟩
 obtain⟨k,hk,rfl,HO,HB⟩:=hrel
 by_cases bY:k<xss.length
 case neg=>
  obtain rfl:k=xss.length:=by omega
  rw[LC] at HO;go_wp2_with fail;go_ret;exact⟨_,rfl,HO.out,HB.out⟩
 obtain⟨b,off,A',c',e1,hb,c0,hI⟩:=(HA.out.keep HB.out).at_ k bY;subst e1;have fh:Aw (xss.take (k+1)=xss.take k++[xss[k]]):=Lr bY;have px:=ic.out _ (Ld bY);have cA:=HB.out.size;have dh:(0:Int)<=(k:Int):=by omega
 have aW:(k:Int)<(xss.length:Int):=by omega
 have pj:(xss.take k).length=k:=by rw[N8];omega
 have Cg:=zH pj;obtain⟨x,hx⟩:=Ki (xss[k]);rw[hx] at c0 hI fh px;have HC:=zH (Xo A' c' x wr (hI.more cA) (by omega));go_wp2_with fail;refine HC.out.mono ?_;rintro e w2 ⟨A2,c2,rfl,tl,ag⟩;have aw:Aw (Ar wr.heap.size wr (w2.alloc (Ai #[I A2 x.length c2] 36))):=ag.alloc ag.size _;have UO:Aw (IAtS (fun b=>wr.heap.size<=b) (w2.alloc (Ai #[I A2 x.length c2] 36)) A2 x):=tl.keep (KeepB.alloc _ _ _);have Er:=zH (zy w2 (Ai #[I A2 x.length c2] 36));have pK:=zH (HO.out.below xx aw.out (Le _));have dw:=ag.size;have K9:=zH HO.out.lt;go_wp2_with (at_builtin;obtain⟨bz,aP,nA,cK⟩:=pK.out;rw[Cg.out] at nA;refine xb Jy rfl (.tmp 12) (.tmp 15) rfl w.heap.size u3 k bz.flatten rfl nA w2.heap.size #[I A2 x.length c2] rfl Er.out rfl (by simp[Value.oneCell']) (by omega) (by simp;omega) _ rfl ?_;intro g' cap w7 nK lQ fJ tW);have hX:cIs.lies (fun b=>(fun b=>w.heap.size<=b) b/\Value.ownBlock u3≠J b) _ [I A2 x.length c2] x:=⟨A2,c2,rfl,UO.out.mono fun b _ hb=>⟨by show w.heap.size<=b;omega,fun e=>by have:=(K9.out b e).2;omega⟩⟩;have nJ:=nK;rw[<-Cg.out] at nJ;have sS:=zH (OwnX.app xx aP cK hX nJ lQ fJ);rw[<-fh.out,Cg.out] at sS;have pQ:Aw (Ar w.heap.size w w7):=(HB.out.trans (aw.out.mono cA)).grown lQ (by simp;omega) (fun b hb=>(K9.out b hb).1)
 go_roundw
 case rel=>exact⟨k+1,by omega,by go_num,sS,pQ⟩
 simp[Au];omega
end
section
open Go.RowKit
def f0(inp:List Int):Nat->Vw:=fun p=>xr p (inp.getD p 0)
def fk(word:List Rd)(k:Nat)(row:List Int):Nat->Vw:=fun p=>qy (word.getD k default) (k+1) p row
structure PlIn(B bB bM N:Nat)(V0:Ax)(w0:Ba)(vs:List Vw)(inp:List Int)(word:List Rd)(k:Nat)(V1 o:Ax)(gk:Nat)(W:Ba):Prop where
 bd:BdIn B bB bM N V1 (zI vs N inp word k).1 W
 on:BdOn bB bM V0 w0 V1 W
 out:OwnX cIs (fun b=>w0.heap.size<=b/\V1.ownBlock≠J b) W w0.heap.size o (zI vs N inp word k).2
 no:∀b,V1.ownBlock=J b->o.ownBlock≠J b
 row:RowAt W gk ((zI vs N inp word k).2.getD k [])
 gl:w0.heap.size<=gk
 ng:V1.ownBlock≠J gk
 og:o.ownBlock≠J gk
 lt:bB<w0.heap.size/\bM<w0.heap.size
theorem rowk_len(vs:List Vw)(N:Nat)(inp:List Int)(word:List Rd)(k:Nat):((zI vs N inp word k).2.getD k []).length=N:=by
 have hl:=yW vs N inp word k;rw[Lk,Ln (by omega)];exact kY vs N inp word k _ (Ld _)
section
variable {B bB bM N:Nat} {V0:Ax} {w0:Ba} {vs:List Vw} {inp:List Int} {word:List Rd}
theorem PlIn.start{V1:Ax}{gN:Nat}{W:Ba}(_hN:N<=5)(h:RwIn B bB bM N V0 w0 gN (f0 inp) vs N V1 W)(hl:bB<w0.heap.size/\bM<w0.heap.size) :
  PlIn B bB bM N V0 w0 vs inp word 0 V1 (I (J ⟨W.heap.size,0,Z⟩) 1 1) gN (W.alloc (Ai #[I (J ⟨gN,0,Z⟩) N N] 36)):=by
 have i8:=qn (f0 inp) vs N;have ia:=h.row.lt;have hb:=ye W (Ai #[I (J ⟨gN,0,Z⟩) N N] 36);have aR:=h.row;rw[N0,List.replicate_zero,Nr] at aR;refine⟨h.bd.on hb,h.on.after hb,⟨[[I (J ⟨gN,0,Z⟩) N N]],rfl,?_,fun i i1 i2=>?_⟩,fun b e e2=>?_,Lb hb ia aR,h.ng,h.ne,fun e=>?_,hl⟩
 . refine OwnR.of_block (K:=kIs) (n:=1) (zy W _) ?_ rfl (by unfold maxLen;omega)
   have:=h.on.1.size;omega
 . obtain rfl:i=0:=by simp at i1;omega
   refine⟨J ⟨gN,0,Z⟩,N,?_,?_⟩
   . show [I (J ⟨gN,0,Z⟩) N N]=[.slice (J ⟨gN,0,Z⟩) (yH (f0 inp) vs N).2.length N]
     rw[i8]
   intro _;refine⟨gN,0,rfl,⟨⟨h.ng,h.ne⟩,fun e=>?_⟩,by simp;omega,fun j hj=>?_⟩
   . have:W.heap.size=gN:=by simpa[Value.ownBlock] using e
     omega
   rw[LO];exact RowAt.cell (Lb hb ia aR) j hj
 . have h1:W.heap.size=b:=by simpa[Value.ownBlock] using e2
   have:=(h.bd.own.lt b e).2;omega
 have h1:W.heap.size=gN:=by simpa[Value.ownBlock] using e
 omega
theorem PlIn.outn{k:Nat}{V1 o:Ax}{gk:Nat}{W Wx:Ba}{gX:Nat}{f:Nat->Vw}{V3:Ax}{p:Nat}{W3:Ba}(h:PlIn B bB bM N V0 w0 vs inp word k V1 o gk W)(hx:Ar W.heap.size W Wx)
  (r:RwIn B bB bM N V1 Wx gX f (zI vs N inp word k).1 p V3 W3) :
  OwnX cIs (fun b=>w0.heap.size<=b/\V3.ownBlock≠J b) W3 w0.heap.size o (zI vs N inp word k).2/\(∀b,V3.ownBlock=J b->o.ownBlock≠J b):=by
 have hsx:=hx.size;have l7:=h.out.lt
 have h1:OwnX cIs (fun b=>(w0.heap.size<=b/\V1.ownBlock≠J b)/\V3.ownBlock≠J b) Wx w0.heap.size o (zI vs N inp word k).2:=
  (h.out.below xx hx (Le _)).mono xx fun b hb hs=>⟨hs,fun e=>by
   rcases r.on.2 b e with e | e
   . exact hs.2 e
   . omega⟩
 refine⟨(h1.keep xx (r.on.1.keep fun b _ hs hr=>?_) fun b hb=>r.on.1.block b (by have:=(l7 b hb).2;omega) fun hr=>?_).mono xx fun b _ hs=>⟨hs.1.1,hs.2⟩,fun b e e2=>?_⟩
 . rcases hr with e | e | e
   . have:=h.lt.1;have:=hs.1.1;omega
   . have:=h.lt.2;have:=hs.1.1;omega
   exact hs.1.2 e
 . have:=(l7 b hb).1
   rcases hr with e | e | e
   . have:=h.lt.1;omega
   . have:=h.lt.2;omega
   exact h.no b e hb
 rcases r.on.2 b e with e | e
 . exact h.no b e e2
 have:=(l7 b e2).2;omega
theorem PlIn.rown{k:Nat}{V1 o:Ax}{gk:Nat}{W Wx:Ba}{gX:Nat}{f:Nat->Vw}{V3:Ax}{p:Nat}{W3:Ba}(h:PlIn B bB bM N V0 w0 vs inp word k V1 o gk W)(hx:Ar W.heap.size W Wx)
  (r:RwIn B bB bM N V1 Wx gX f (zI vs N inp word k).1 p V3 W3):RowAt W3 gk ((zI vs N inp word k).2.getD k []):=by
 have hsx:=hx.size;have ia:=h.row.lt;refine(r.on.1.block gk (by omega) fun hr=>?_).trans (Lb hx ia h.row);have:=h.gl;rcases hr with e | e | e
 . have:=h.lt.1;omega
 . have:=h.lt.2;omega
 exact h.ng e
theorem PlIn.next{k:Nat}{V1 o:Ax}{gk:Nat}{W Wx:Ba}{gX:Nat}{V3:Ax}{W3 W4 w5:Ba}{bz:List (List Ax)}{g' cap:Nat}(h:PlIn B bB bM N V0 w0 vs inp word k V1 o gk W)(hx:Ar W.heap.size W Wx)
  (r:RwIn B bB bM N V1 Wx gX (fk word k ((zI vs N inp word k).2.getD k [])) (zI vs N inp word k).1 N V3 W3) (h4:Ar W3.heap.size W3 W4)
  (aP:bz.length=(zI vs N inp word k).2.length) (cK:∀(i:Nat) (h1:i<bz.length) (h2:i<(zI vs N inp word k).2.length),cIs.lies (fun b=>(w0.heap.size<=b/\V3.ownBlock≠J b)/\o.ownBlock≠J b) W4 bz[i] (zI vs N inp word k).2[i])
  (hr:OwnR kIs w5 w0.heap.size (I (J ⟨g',0,Z⟩) ((zI vs N inp word k).2.length+1) cap) ((zI vs N inp word k).2.length+1) (bz.flatten++[I (J ⟨gX,0,Z⟩) N N]))
  (hg:W4.grownBy w5 o.ownBlock) (bL:o.ownBlock=J g'\/g'=W4.heap.size) :
  PlIn B bB bM N V0 w0 vs inp word (k+1) V3 (I (J ⟨g',0,Z⟩) ((zI vs N inp word k).2.length+1) cap) gX w5:=by
 obtain⟨mc,eM⟩:=h.outn hx r;have i8:=qn (fk word k ((zI vs N inp word k).2.getD k [])) (zI vs N inp word k).1 N;have ia:=r.row.lt;have oA:=h4.size;have hsx:=hx.size;have l7:=mc.lt;have hlW:=h.on.1.size;have hxg:=r.ng
 have Ii:o.ownBlock≠J gX:=fun e=>by
  have:=(h.out.lt gX e).2;omega
 have aR:=r.row;rw[N0,List.replicate_zero,Nr] at aR;have OQ:RowAt w5 gX (yH (fk word k ((zI vs N inp word k).2.getD k [])) (zI vs N inp word k).1 N).2:=(hg.block gX (by omega) (fun e=>Ii e.symm)).trans (Lb h4 ia aR);have e1:(zI vs N inp word (k+1)).2=(zI vs N inp word k).2++[(yH (fk word k ((zI vs N inp word k).2.getD k [])) (zI vs N inp word k).1 N).2]:=rfl;have aS:=yW vs N inp word k
 have Tb:V3.ownBlock≠J g':=fun e=>by
  rcases bL with e2 | e2
  . exact eM g' e e2
  . have:=(r.bd.own.lt g' e).2;omega
 have hX:cIs.lies (fun b=>(w0.heap.size<=b/\V3.ownBlock≠J b)/\o.ownBlock≠J b) W4 [I (J ⟨gX,0,Z⟩) N N] (yH (fk word k ((zI vs N inp word k).2.getD k [])) (zI vs N inp word k).1 N).2:=by
  refine⟨J ⟨gX,0,Z⟩,N,by rw[i8],fun _=>⟨gX,0,rfl,⟨⟨by omega,r.ne⟩,Ii⟩,by omega,fun j hj=>?_⟩⟩;rw[LO];exact RowAt.cell (Lb h4 ia aR) j hj
 refine⟨?_,?_,?_,?_,?_,by omega,r.ne,?_,h.lt⟩
 . refine(r.bd.on h4).grown hg (fun e=>?_) (fun e=>?_) (fun b hb e=>eM b hb e)
   . have:=(l7 bB e).1;have:=h.lt.1;omega
   have:=(l7 bM e).1;have:=h.lt.2;omega
 . exact((h.on.after hx).trans (r.on.after h4)).grown hg (fun j hj=>(l7 j hj).1)
 . rw[e1]
   exact OwnX.app xx aP cK hX hr hg bL
 . intro b hb e
   have:g'=b:=by simpa[Value.ownBlock] using e
   subst this;exact Tb hb
 . rw[e1,Lk,LW (by omega),aS,N0]
   exact OQ
 intro e;have:g'=gX:=by simpa[Value.ownBlock] using e
 subst this;rcases bL with e2 | e2
 . exact Ii e2
 omega
end
def qv(r:Rd)(p:Nat)(row:List Int)(q j:Nat):Int:=if j<q then yo r p row j else -1
def jA(r:Rd)(k p:Nat)(row:List Int)(q:Nat):Vw:=⟨p,k,0,qv r p row q 0,qv r p row q 1,qv r p row q 2,qv r p row q 3,qv r p row q 4⟩
theorem heardQ_end(r:Rd)(p:Nat)(row:List Int)(j:Nat):qv r p row row.length j=yo r p row j:=by
 unfold qv yo
 split
 . rfl
 rename_i h;rw[Lg (fun h2=>h h2.1)]
theorem seenQ_end(r:Rd)(k p:Nat)(row:List Int):jA r k p row row.length=qy r k p row:=by
 unfold jA qy;simp only[heardQ_end]
theorem ZF(r:Rd)(p:Nat)(row:List Int)(q j:Nat)(h:j≠q):qv r p row (q+1) j=qv r p row q j:=by
 unfold qv
 by_cases h1:j<q
 . rw[Li h1,Li (by omega)]
 rw[Lg h1,Lg (by omega)]
theorem seenQ_no(r:Rd)(k p:Nat)(row:List Int)(q:Nat)(h:(r.h p).toNat.testBit q=AC):jA r k p row (q+1)=jA r k p row q:=by
 have key:∀j,qv r p row (q+1) j=qv r p row q j:=fun j=>by
  by_cases e:j=q
  . subst e
    have h1:yo r p row j=-1:=by unfold yo;rw[Lg (fun h2=>by rw[h] at h2;cases h2.2)]
    unfold qv;rw[Li (by omega),Lg (by omega),h1]
  . exact ZF r p row q j e
 unfold jA;simp only[key]
theorem seenQ_yes(r:Rd)(k p:Nat)(row:List Int)(q:Nat)(hq:q<row.length)(h5:q<5)(h:(r.h p).toNat.testBit q=AA):(jA r k p row q).cells.setIfInBounds (3+q) (O U row[q])=(jA r k p row (q+1)).cells:=by
 have e:qv r p row (q+1) q=row[q]:=by
  unfold qv;rw[Li (by omega)];unfold yo;rw[Li ⟨hq,h⟩,Lk,Ln hq];rfl
 have key:=fun j (h:j≠q)=>ZF r p row q j h
 unfold jA Vw.cells
 match q,h5 with
 | 0,_=>simp only[key 1 (by decide),key 2 (by decide),key 3 (by decide),key 4 (by decide),e];rfl
 | 1,_=>simp only[key 0 (by decide),key 2 (by decide),key 3 (by decide),key 4 (by decide),e];rfl
 | 2,_=>simp only[key 1 (by decide),key 0 (by decide),key 3 (by decide),key 4 (by decide),e];rfl
 | 3,_=>simp only[key 1 (by decide),key 2 (by decide),key 0 (by decide),key 4 (by decide),e];rfl
 | 4,_=>simp only[key 1 (by decide),key 2 (by decide),key 3 (by decide),key 0 (by decide),e];rfl
theorem Rd.cells_h(r:Rd)(p:Nat)(hp:p<5):r.cells[1+p]?=J (O U (r.h p)):=by
 match p,hp with
 | 0,_=>rfl
 | 1,_=>rfl
 | 2,_=>rfl
 | 3,_=>rfl
 | 4,_=>rfl
theorem bit_test{h j:Nat}(hh:h<32)(hj:j<5):(bits BinOp.and U ((h:Int) / 2^j) 1==1)=h.testBit j:=by
 match j,hj with
 | 0,_=>exact LR (vf (p:=fun h=>decide ((bits BinOp.and U ((h:Int) / 2^0) 1==1)=h.testBit 0)) (by decide +kernel) hh)
 | 1,_=>exact LR (vf (p:=fun h=>decide ((bits BinOp.and U ((h:Int) / 2^1) 1==1)=h.testBit 1)) (by decide +kernel) hh)
 | 2,_=>exact LR (vf (p:=fun h=>decide ((bits BinOp.and U ((h:Int) / 2^2) 1==1)=h.testBit 2)) (by decide +kernel) hh)
 | 3,_=>exact LR (vf (p:=fun h=>decide ((bits BinOp.and U ((h:Int) / 2^3) 1==1)=h.testBit 3)) (by decide +kernel) hh)
 | 4,_=>exact LR (vf (p:=fun h=>decide ((bits BinOp.and U ((h:Int) / 2^4) 1==1)=h.testBit 4)) (by decide +kernel) hh)
theorem ZE{r:Rd}(h:xj r=0)(p:Nat)(hp:p<5):0<=r.h p/\r.h p<32:=by
 unfold xj at h
 split at h
 . cases h
 rename_i hn
 have key:∀k,k<=5->yY r (5-k) k=0->∀q,k<=q->q<5->qj r.n q (r.h q)=0:=by
  intro k hk
  induction hm:5-k generalizing k with
  | zero=>intro _ q h1 h2;omega
  | succ m ih=>
   intro hz q h1 h2;unfold yY at hz
   split at hz
   . rename_i bj;exact absurd hz bj
   . rename_i bj
     by_cases e:q=k
     . subst e;simpa using bj
     . exact ih (k+1) (by omega) (by omega) hz q (by omega) h2
 have h1:=key 0 (by omega) h p (by omega) hp;unfold qj at h1
 split at h1
 . split at h1
   . cases h1
   rename_i h2;have:r.h p=0:=by simpa using h2
   omega
 split at h1
 . cases h1
 rename_i h2
 have h3:(2^r.n.toNat-1:Nat)<32:=by
  have:2^r.n.toNat<=2^5:=L6 (by omega) (by omega);omega
 omega
end
section
open Go.RowKit
attribute [local go_sem] Oper.semAt_some
theorem play_any(B bB bM N:Nat)(h1:1<=N)(h5:N<=5)(V:Ax)(vs:List Vw)(mz:vs.length<=40000)(inp:List Int)(dm:inp.length=N)(word:List Rd)(oF:word.length<=6)(pS:∀r∈word,yD r=0/\r.n=N)
  (A AW:Bb) (ci cw:Nat) (w:Ba) (dj:B<=w.heap.size) (H:BdIn B bB bM N V vs w) (hI:IAt w B A inp) (hW:RAt w B AW word) :
  As Aq 88 #[Al (J ⟨bB,0,Z⟩),I A inp.length ci,I AW word.length cw] w fun e w'=>∃v V',e=Am v/\BdIn B bB bM N V' (zI vs N inp word word.length).1 w'/\BdOn bB bM V w V' w' /\
   OwnX cIs (fun b=>w.heap.size<=b/\V'.ownBlock≠J b) w' w.heap.size v (zI vs N inp word word.length).2/\∀b,V'.ownBlock=J b->v.ownBlock≠J b:=by
 have HI:=zH hI;have HW:=zH hW;have Eg:=zH pS;have HH:=zH H;have eq:=gK N h1 (by omega);have HM:=zH eq;obtain⟨ar,pC⟩:=Ki (((List.replicate N 0).map (O U)).toArray);rw[pC] at eq;have Ml:=zH pC;have b0:=zh H.hB 0 rfl;have pf:=zH dm;rw[dm];obtain⟨l1,l2,l3⟩:=H.lts;clear pC hI hW pS H dm l3;go_enter func88,ntmps88;go_wp2_with fail;obtain⟨w1,ab,d0,aK,bP⟩:=zk w ar 3;rw[ab]
 have R1:Aw (RwIn B bB bM N V w w.heap.size (f0 inp) vs 0 V w1):=
  ⟨HH.out.on bP,by show w1.heap[w.heap.size]?=_;rw[d0,<-Ml.out];rfl,(BdOn.refl _ _ _ _).after bP,fun e=>by have:=(HH.out.own.lt _ e).2;omega,Le _,by omega,by omega⟩
 go_loopw [24] (fun i wr=>∃(p:Nat) (V1:Ax),p<=N/\i=O U (p:Int)/\Aw (RwIn B bB bM N V w w.heap.size (f0 inp) vs p V1 wr)) (fun i _=>N-(Au i).toNat)
 case atStart=>exact⟨0,V,by omega,rfl,R1.out⟩
 obtain⟨p,V1,hp,rfl,HR⟩:=hrel
 by_cases pm:p<N
 case neg=>
  obtain rfl:N=p:=by omega
  go_wp2_with fail;have P0:=zH (PlIn.start (word:=word) h5 HR.out ⟨l1,l2⟩);obtain⟨W1,eO⟩:=Ki (wr.alloc (Ai #[I (J ⟨w.heap.size,0,Z⟩) N N] 36));rw[eO] at P0 ⊢;obtain⟨g0,mg⟩:=Ki wr.heap.size;rw[mg] at P0 ⊢;obtain⟨gn,hgn⟩:=Ki w.heap.size;rw[hgn];have P0:Aw (PlIn B bB bM N V w vs inp word 0 V1 (I (J ⟨g0,0,Z⟩) 1 1) gn W1):=by rw[<-hgn];exact P0.out
  go_loopw [7,9,44] (fun nw o i wr=>∃(k:Nat) (V1:Ax) (gk:Nat),k<=word.length/\nw=I (J ⟨gk,0,Z⟩) N N/\i=O U (k:Int)/\Aw (PlIn B bB bM N V w vs inp word k V1 o gk wr)) (fun _ _ i _=>word.length-(Au i).toNat)
  case atStart=>exact⟨0,V1,gn,by omega,rfl,rfl,P0.out⟩
  obtain⟨k,V2,gk,hk,rfl,rfl,HP⟩:=hrel
  by_cases bY:k<word.length
  case neg=>
   obtain rfl:k=word.length:=by omega
   go_wp2_with fail;go_ret;exact⟨_,V2,rfl,HP.out.bd,HP.out.on,HP.out.out,HP.out.no⟩
  obtain⟨bw,ow,e1,aQ,c0,c1,c2,c3,c4,c5,c6⟩:=(HW.out.keep (HP.out.on.bel HH.out)).row k bY;subst e1;have DB:=Eg.out _ (Ld bY);have lr:word.getD k default=word[k]:=by rw[Lk,Ln bY];rfl
  obtain⟨r,hr⟩:=Ki (word[k]);rw[hr] at c0 c1 c2 c3 c4 c5 c6 DB lr;have HGD:=zH lr;have HRD:=zH (kX DB.1).2.2.1;have dh:(0:Int)<=(k:Int):=by omega
  have aW:(k:Int)<(word.length:Int):=by omega
  have hkw:IntKind.i64.wrap ((k:Int)+1)=(k:Int)+1:=by rw[Ls];omega
  have b0:wr.cell? ⟨bB,0,Z⟩=J (O U (N:Int)):=zh HP.out.bd.hB 0 rfl;have hbBw:bB<wr.heap.size:=HP.out.bd.lts.1;have hbww:bw<wr.heap.size:=by have:=HP.out.on.1.size;omega
  clear hr DB lr;go_wp2_with fail;clear c0 c1 c2 c3 c4 c5 c6;obtain⟨W1,eO,g0,eP,WD⟩:=zk wr r.cells 92;unfold Rd.cells at eO;rw[eO];obtain⟨W2,iU,x0,dw,hBy⟩:=zk W1 ar 3;rw[iU];rw[eP] at x0;have UP:=zH g0;have aV:=zH WD;obtain⟨row,aR⟩:=Ki ((zI vs N inp word k).2.getD k []);have iE:=zH aR;have dO:Aw (row.length=N):=by rw[<-aR];exact rowk_len vs N inp word k
  have Ew:=HP.out.on.1.size
  have R0:Aw (RwIn B bB bM N V2 W1 (wr.heap.size+1) (fk word k row) (zI vs N inp word k).1 0 V2 W2):=
   ⟨(HP.out.bd.on WD).on hBy,by show W2.heap[_]?=_;rw[x0,<-Ml.out];rfl,(BdOn.refl _ _ _ _).after hBy,fun e=>by have:=(HP.out.bd.own.lt _ e).2;omega,by omega,by omega,by omega⟩
  have HPF:=zH (jE vs N inp word k)
  have hNk:(k+1)*N<=35:=by
   have:=LU (show k+1<=7 by omega) h5;omega
  obtain⟨wo,rfl⟩:∃x,x=wr:=⟨_,rfl⟩
  go_loopw [56] (fun i wx=>∃(q:Nat) (V3:Ax),q<=N/\i=O U (q:Int)/\Aw (RwIn B bB bM N V2 W1 (wo.heap.size+1) (fk word k row) (zI vs N inp word k).1 q V3 wx)) (fun i _=>N-(Au i).toNat)
  case atStart=>exact⟨0,V2,by omega,rfl,R0.out⟩
  obtain⟨q,V3,hq,rfl,HR⟩:=hrel
  by_cases EA:q<N
  case neg=>
   obtain rfl:N=q:=by omega
   have mc:=HP.out.outn aV.out HR.out;have aS:=yW vs N inp word k;have hgX:=HR.out.row.lt;have pO:=zH (zy wr (Ai #[I (J ⟨wo.heap.size+1,0,Z⟩) N N] 36));have lg:=zH (mc.1.below xx (ye wr (Ai #[I (J ⟨wo.heap.size+1,0,Z⟩) N N] 36)) (Le _));have HL:=zH aS;have hwr0:w.heap.size<=wr.heap.size:=by have:=HR.out.on.1.size;omega
   go_wp2_with (at_builtin;obtain⟨bz,aP,nA,cK⟩:=lg.out;rw[HL.out] at nA;refine xb Jy rfl (.tmp 92) (.tmp 94) rfl w.heap.size u9 (k+1) bz.flatten rfl nA wr.heap.size #[I (J ⟨wo.heap.size+1,0,Z⟩) N N] rfl pO.out rfl (by simp[Value.oneCell']) (by omega) (by simp;omega) _ rfl ?_;intro g' cap w7 nK lQ fJ tW);have tA:=HR.out;rw[<-iE.out] at tA;have nJ:=nK;rw[<-HL.out] at nJ;have El:=zH (PlIn.next HP.out aV.out tA (ye wr _) aP cK nJ lQ fJ);rw[HL.out] at El
   go_roundw
   case rel=>exact⟨k+1,V3,wo.heap.size+1,by omega,rfl,by go_num,El⟩
   simp[Au];omega
  go_wp2_with fail;refine(Zl wr).mono ?_;rintro e w3 ⟨rfl,aj⟩;have R3:=zH (HR.out.on_ aj);go_wp2_with fail;obtain⟨W4,rk,v0,pT,rT⟩:=zk w3 (jA r (k+1) q row 0).cells 111;have sL:w3.alloc (Ai #[O U (q:Int),O U ((k:Int)+1),O U 0,O U (-1),O U (-1),O U (-1),O U (-1),O U (-1)] 111)=W4:=by rw[<-rk];rfl
  rw[sL];have eK:=aj.size;have hg0w:wo.heap.size<w3.heap.size:=by have:=HR.out.on.1.size;omega
  have HG3:Aw (w3.heap[wo.heap.size]?=J (Ai r.cells 92 (0,0))):=by
   refine(R3.out.on.1.block wo.heap.size (by omega) fun hr=>?_).trans UP.out;have:=HP.out.bd.lts;rcases hr with e | e | e
   . omega
   . omega
   have:=(this.2.2 _ e).2;omega
  have He:Aw (RowAt w3 gk row):=by have:=HP.out.rown aV.out R3.out;rw[iE.out] at this;exact this
  obtain⟨wp,rfl⟩:∃x,x=wr:=⟨_,rfl⟩
  go_loopw [66] (fun i wy=>∃j:Nat,j<=N/\i=O U (j:Int)/\Aw (wy.heap[w3.heap.size]?=J (Ai (jA r (k+1) q row j).cells 111 (0,0)))/\Aw (Ar w3.heap.size w3 wy)) (fun i _=>N-(Au i).toNat)
  case atStart=>exact⟨0,by omega,rfl,v0,rT⟩
  clear v0 rT pT;obtain⟨j,hj,rfl,HV,U1⟩:=hrel
  by_cases hjN:j<N
  case neg=>
   obtain rfl:N=j:=by omega
   have hfk:fk word k row q=jA r (k+1) q row N:=by
    have:=seenQ_end r (k+1) q row;rw[dO.out] at this;rw[this];show qy (word.getD k default) (k+1) q row=_;rw[HGD.out]
   obtain⟨vw,hvw⟩:=Ki (jA r (k+1) q row N);rw[hvw] at HV hfk;have x0:wr.cell? ⟨w3.heap.size,0,Z⟩=J (O U vw.p):=zh HV.out 0 rfl;have x1:wr.cell? ⟨w3.heap.size,1,Z⟩=J (O U vw.r):=zh HV.out 1 rfl;have x2:wr.cell? ⟨w3.heap.size,2,Z⟩=J (O U vw.i):=zh HV.out 2 rfl;have x3:wr.cell? ⟨w3.heap.size,3,Z⟩=J (O U vw.h0):=zh HV.out 3 rfl;have x4:wr.cell? ⟨w3.heap.size,4,Z⟩=J (O U vw.h1):=zh HV.out 4 rfl;have x5:wr.cell? ⟨w3.heap.size,5,Z⟩=J (O U vw.h2):=zh HV.out 5 rfl;have x6:wr.cell? ⟨w3.heap.size,6,Z⟩=J (O U vw.h3):=zh HV.out 6 rfl;have x7:wr.cell? ⟨w3.heap.size,7,Z⟩=J (O U vw.h4):=zh HV.out 7 rfl;have R4:=R3.out.on_ U1.out;have hsq:=jC (fk word k row) (zI vs N inp word k).1 q;have HAD:=zH (badd_any B bB bM N V3 (yH (fk word k row) (zI vs N inp word k).1 q).1 vw (by have:=HPF.out;omega) wr R4.bd);have pJ:=zH R4;have HFK:=zH hfk;have pX:(0:Int)<=(q:Int):=by omega
   have pW:(q:Int)<(N:Int):=by omega
   go_wp2_with fail;refine HAD.out.mono ?_;rintro e w5 ⟨rfl,V5,IE,lN⟩;have oD:=pJ.out.mid lN;rw[<-HFK.out] at IE;have HS5:=zH (pJ.out.step EA IE lN);rw[HFK.out] at HS5;obtain⟨u5,c5⟩:∃u:Int,w5.cell? ⟨wo.heap.size+1,q,Z⟩=J (O U u):=⟨_,oD.1.cell q (by rw[Lw,qn,LQ];omega)⟩;have y5:=oD.1.froz q;go_wp2_with fail
   go_roundw
   case rel=>exact⟨q+1,V5,by omega,by go_num,HS5⟩
   simp[Au];omega
  have hgk3:=He.out.lt;have hjr:j<row.length:=by have:=dO.out;omega
  have n0:=(U1.out.cell (p:=⟨gk,j,Z⟩) hgk3).trans (He.out.cell j hjr);have m0:wr.cell? ⟨wo.heap.size,1+q,Z⟩=J (O U (r.h q)):=(U1.out.cell (p:=⟨wo.heap.size,1+q,Z⟩) hg0w).trans (zh HG3.out (1+q) (Rd.cells_h r q (by omega)));obtain⟨y,hy⟩:=Ki (row[j]);rw[hy] at n0;have oN:=ZE HRD.out q (by omega);obtain⟨h,hh⟩:=Lp oN.1;have hh32:h<32:=by omega
  rw[hh] at m0;have CP:(0:Int)<=(j:Int):=by omega
  have rN:(j:Int)<(N:Int):=by omega
  have Iv:(j:Int)<5:=by omega
  have pX:(0:Int)<=(q:Int):=by omega
  have Ie:(q:Int)<5:=by omega
  have mW:=bit_test hh32 (show j<5 by omega);have hrt:(r.h q).toNat=h:=by rw[hh];rfl
  have Z':=zH (seenQ_no r (k+1) q row j);have Un:=zH (seenQ_yes r (k+1) q row j hjr (by omega));rw[hrt,hy] at Un;rw[hrt] at Z';have z0:wr.cell? ⟨w3.heap.size,3+j,Z⟩=J (O U ((jA r (k+1) q row j).h j)):=zh HV.out (3+j) (Vw.cells_h _ j (by omega));have zf:=zi HV.out (3+j)
  by_cases hb:h.testBit j=AA
  case pos=>
   rw[hb] at mW;have HS:=zH (Un.out hb);go_wp2_with fail
   go_roundw
   case rel=>exact⟨j+1,by omega,by go_num,by show _=_;rw[Lq wr _ (3+j) _ _ _ HV.out,HS.out],U1.out.setCell (Le _) _⟩
   simp[Au];omega
  have ag:h.testBit j=AC:=by simpa using hb
  rw[ag] at mW;have HS:=zH (Z'.out ag);go_wp2_with fail
  go_roundw
  case rel=>exact⟨j+1,by omega,by go_num,by show _=_;rw[HS.out];exact HV.out,U1.out⟩
  simp[Au];omega
 have dm:=pf.out;obtain⟨bi,oi,e1,hbi,i0⟩:=(HI.out.keep (HR.out.on.bel HH.out)).at_ p (by omega);subst e1;have hip:Aw ((f0 inp) p=xr p inp[p]):=by show xr p (inp.getD p 0)=_;rw[Lk,Ln (by omega)];rfl
 obtain⟨x,hx⟩:=Ki (inp[p]);rw[hx] at i0 hip;have fj:(0:Int)<=(p:Int):=by omega
 have hp1:(p:Int)<(N:Int):=by omega
 have aL:bi<wr.heap.size:=by have:=HR.out.row.lt;omega
 go_wp2_with fail;have iD:=zH (jC (f0 inp) vs p)
 refine zw [(0,AA),(1,AA),(2,AA),(3,AA),(4,AA),(5,AA),(6,AA),(7,AA),(8,AC),(9,AC),(10,AC),(11,AC),(12,AC)]
  (fun W=>W.cell? ⟨bi,oi+p,Z⟩=J (O U x)) (by kernel_rfl) (by kernel_rfl) (by exact i0) ?_
 repeat
  apply zA rfl
  . rintro K' ac W y0
    go_simp;exact ac
 refine zx rfl ?_;intro K' ac;go_simp;refine(Zl wr.drew).mono ?_;rintro e w3 ⟨rfl,aj⟩;have aj:Ar wr.heap.size wr w3:=kF aj;have R3:=HR.out.on_ aj;have i3:=(aj.cell (p:=⟨bi,oi+p,Z⟩) aL).trans i0;refine ac _ _ i3 ?_;refine zx rfl ?_;intro K' ac;go_simp;refine ac _ _ i3 ?_;refine zx rfl ?_;intro K' ac;go_simp;refine(badd_any B bB bM N V1 (yH (f0 inp) vs p).1 (xr p x) (by have:=iD.out;omega) w3 R3.bd).mono ?_;rintro e w4 ⟨rfl,V4,hd4,sw⟩;have VZ:=R3.mid sw;rw[<-hip.out] at hd4;have Db:=zH (R3.step pm hd4 sw);rw[hip.out] at Db
 have i4:w4.cell? ⟨bi,oi+p,Z⟩=J (O U x):=by
  refine(LH (sw.1.block bi (by have:=aj.size;omega) fun hr=>?_)).trans i3;have lc:=HR.out.bd.lo;rcases hr with e | e | e
  . omega
  . omega
  have:=(R3.bd.own.lt bi e).1;omega
 refine ac _ _ i4 ?_;obtain⟨u4,c4⟩:∃u:Int,w4.cell? ⟨w.heap.size,p,Z⟩=J (O U u):=⟨_,VZ.1.cell p (by rw[Lw,qn,LQ];omega)⟩;have y4:=VZ.1.froz p;refine zx rfl ?_;intro K' ac;go_simp;refine ac _ _ i4 ?_;refine xg rfl (by kernel_rfl) ?_;intro K' ac;go_simp;refine ac (fun _=>True) _ _ trivial ?_;refine zO ?_;go_wp2_with fail
 go_roundw
 case rel=>exact⟨p+1,V4,by omega,by go_num,Db⟩
 simp[Au];omega
end
section
open Go.RowKit Go.Shelf
attribute [local go_sem] Oper.semAt_some
def zu(n:Nat):Nat->Nat->List (Nat×Nat)
 | _,0=>[]
 | i,m+1=>(List.range n).map (fun j=>(i,j))++zu n (i+1) m
def xt(n i j:Nat):List (Nat×Nat):=((List.range n).drop j).map fun j=>(i,j)
theorem wt{n i j:Nat}(h:j<n):xt n i j=(i,j)::xt n i (j+1):=by
 unfold xt;rw[LB (by simpa using h)];simp
theorem Zn(n i:Nat):xt n i n=[]:=by unfold xt;simp
theorem qC{n:Nat}:∀(m i:Nat) (x:Nat×Nat),x∈zu n i m->i<=x.1/\x.1<i+m/\x.2<n
 | 0,_,_,h=>by cases h
 | m+1,i,x,h=>by
  rcases Nh.1 h with h | h
  . obtain⟨j,hj,rfl⟩:=LZ.1 h
    exact⟨Le _,by show i<_;omega,by simpa using hj⟩
  . obtain⟨a,b,c⟩:=qC m (i+1) x h
    exact⟨by omega,by omega,c⟩
theorem execs_any(p:Pb)(A:Bb)(kc:Nat)(SV:Bb)(ks:Nat)(V:Bb)(nw cw:Nat)(w:Ba):As Aq 86 #[.agg (p.vs A kc SV ks),I V nw cw] w fun e w'=>
  e=Am (.func (.func 144) #[] #[Al (J ⟨w.heap.size,0,Z⟩),Al (J ⟨w.heap.size+1,0,Z⟩)])/\(w.alloc (Ai (p.vs A kc SV ks) 29)).alloc (Ai #[I V nw cw] 141)=w':=by
 unfold Pb.vs;go_enter func86,ntmps86;go_wp2;go_ret;exact⟨rfl,rfl⟩
def SlAt(w:Ba)(B:Nat)(AW:Bb)(nw:Nat)(sl:Nat->Ax):Prop:=∀j,j<nw->∃b off,AW=J ⟨b,off,Z⟩/\b<B/\w.cell? ⟨b,off+j,Z⟩=J (sl j)
theorem SlAt.same{w w':Ba}{B:Nat}{AW:Bb}{nw:Nat}{sl:Nat->Ax}(h:SlAt w B AW nw sl)(hk:∀k,k<B->w'.heap[k]?=w.heap[k]?):SlAt w' B AW nw sl:=fun j hj=>by
 obtain⟨b,off,e,hb,hc⟩:=h j hj;exact⟨b,off,e,hb,(LH (hk b hb)).trans hc⟩
theorem execs1_iter(C:Array Ax)(M:Nat)(hf:M<=30)(A:Bb)(kc:Nat)(hC:C[3]?=J (I A M kc))(AW:Bb)(nw cw:Nat)(mS:nw<=5000)(sl:Nat->Ax)(B bp bw:Nat)(w:Ba)(hp:w.heap[bp]?=J (Ai C 29))(hw:w.heap[bw]?=J (Ai #[I AW nw cw] 141))
  (hS:SlAt w B AW nw sl) (hB:B<=w.heap.size) :
  Iter Aq 144 #[Al (J ⟨bp,0,Z⟩),Al (J ⟨bw,0,Z⟩)] (fun x:Nat×Nat=>#[O U x.1,sl x.2]) (fun k=>k<B\/k=bp\/k=bw) (zu nw 0 M) w:=fun n hn l Ah Jx W hW hJ hJx hY h0=>by
 have mX:bp<w.heap.size:=(Lu.1 hp).1;have aQ:bw<w.heap.size:=(Lu.1 hw).1;have fj:=(hW.block bp mX).trans hp;have Ew:=(hW.block bw aQ).trans hw;have Dc:=zH (hS.same (w':=W) fun k hk=>hW.block k (by omega));have HY:=zH hY;have c3:=zh fj 3 hC;have H0:=zH h0;have KZ:=zH fj;have Hb:=zH Ew;have hBs:B<=W.heap.size:=Lz hB hW.size;have hpW:bp<W.heap.size:=LF mX hW.size;have hwW:bw<W.heap.size:=LF aQ hW.size;refine callsIn_of_wp func144 rfl trivial ?_ rfl;simp only[ntmps144,List.size_toArray,List.length_cons,List.length_nil,Nat.reduceAdd,Nat.reduceSub,Array.replicate_succ,Array.replicate_zero,List.push_toArray,List.append_toArray,List.nil_append,List.cons_append];gi_wp2
 gi_loopw [11] (fun q wr=>∃s:Nat,s<=M/\q=O U (s:Int)/\∃pre:List { x:Nat×Nat // x∈zu nw 0 M },Aw (pre.map (·.1)++zu nw s (M-s)=zu nw 0 M)/\Aw (Ah pre wr)/\Aw (SlAt wr B AW nw sl)/\Aw (wr.heap[bp]?=J (Ai C 29))/\Aw (wr.heap[bw]?=J (Ai #[I AW nw cw] 141))/\W.heap.size<=wr.heap.size) (fun q _=>M-(Au q).toNat)
 case atStart=>exact⟨0,by omega,rfl,[],by simp[Aw],H0,Dc,KZ,Hb,Le _⟩
 case round=>
  obtain⟨s,hs,rfl,pre,lM,mh,AO,CU,mD,aX⟩:=hrel
  by_cases aa:s<M
  · have tn : zu nw s (M - s) = xt nw s 0 ++ zu nw (s + 1) (M - (s + 1)) := by
     rw[show M-s=(M-(s+1))+1 by omega,zu];unfold xt;rw[Nc]
    have HP:Aw (pre.map (·.1)++(xt nw s 0++zu nw (s+1) (M-(s+1)))=zu nw 0 M):=by rw[<-tn];exact lM.out
    have q0:=zh mD.out 0 rfl;gi_wp2_with fail
    gi_loopw [16] (fun q wr=>∃j:Nat,j<=nw/\q=O U (j:Int)/\∃pre:List { x:Nat×Nat // x∈zu nw 0 M },Aw (pre.map (·.1)++(xt nw s j++zu nw (s+1) (M-(s+1)))=zu nw 0 M)/\Aw (Ah pre wr)/\Aw (SlAt wr B AW nw sl)/\Aw (wr.heap[bp]?=J (Ai C 29))/\Aw (wr.heap[bw]?=J (Ai #[I AW nw cw] 141))/\W.heap.size<=wr.heap.size) (fun q _=>nw-(Au q).toNat)
    case atStart=>exact⟨0,by omega,rfl,pre,HP,mh,AO,CU,mD,aX⟩
    case round=>
     obtain⟨j,hj,rfl,pre,lM,mh,AO,CU,mD,aX⟩:=hrel
     by_cases cq:j<nw
     . obtain⟨b2,o2,rfl,ag,m0⟩:=AO.out j cq
       have ti:pre.map (·.1)++((s,j)::(xt nw s (j+1)++zu nw (s+1) (M-(s+1))))=zu nw 0 M:=by
        have:=lM.out;rw[wt cq,Ns] at this;exact this
       have dx:(s,j)∈zu nw 0 M:=by rw[<-ti];simp
       have aS:pre.length<(zu nw 0 M).length:=by
        have:=congrArg List.length ti;simp only[List.length_append,List.length_map,List.length_cons] at this;omega
       obtain⟨fn,tmps,assign,body,hy,hR⟩:=HY.out pre ⟨(s,j),dx⟩ _ mh.out aS;dsimp only at hy
       have Hh:Aw ((pre++[(⟨(s,j),dx⟩:{ x:Nat×Nat // x∈zu nw 0 M })]).map (·.1)++(xt nw s (j+1)++zu nw (s+1) (M-(s+1)))=zu nw 0 M):=by
        rw[LM,Nn];exact ti
       have HR:=zH hR;gi_wp2_with fail;refine HR.out.mono ?_;rintro e W3 (⟨rfl,Tv,rM⟩ | ⟨rfl,AT⟩)
       . have aK:wr.heap.size<=W3.heap.size:=rM.size
         have S3:=zH (AO.out.same (fun k hk=>rM.same k (.inl hk) (by omega)));have P3:=zH ((rM.same bp (.inr (.inl rfl)) (by omega)).trans CU.out);have B3:=zH ((rM.same bw (.inr (.inr rfl)) (by omega)).trans mD.out);have J3:=zH Tv;have iP:W.heap.size<=W3.heap.size:=by omega
         gi_wp2_with fail
         go_roundw
         case rel=>exact⟨j+1,by omega,by go_num,_,Hh,J3,S3,P3,B3,iP⟩
         case measure=>simp[Au];omega
       . gi_wp2_with fail
         refine LG (Sd rfl _ _ _) rfl ?_;refine⟨⟨_,rfl⟩,.inr ⟨_,?_,AT⟩⟩;exact⟨_,Hh.out⟩
     . obtain rfl:nw=j:=by omega
       have HP:Aw (pre.map (·.1)++zu nw (s+1) (M-(s+1))=zu nw 0 M):=by have:=lM.out;rwa[Zn,Nq] at this
       gi_wp2_with fail
       go_roundw
       case rel=>exact⟨s+1,by omega,by go_num,pre,HP,mh,AO,CU,mD,aX⟩
       case measure=>simp[Au];omega
  . obtain rfl:M=s:=by omega
    have HP:Aw (pre.map (·.1)=zu nw 0 M):=by have:=lM.out;rwa[N0,zu,Nr] at this
    gi_wp2_with fail
    go_end0
    exact⟨⟨_,rfl⟩,.inl ⟨pre,HP.out,mh.out⟩⟩
end
section
open Go.RowKit
theorem YR:∀(j:Nat) (xss:List (List Mv)) (x:Int×Mv),x∈zU j xss->∃s,j<=s/\s<j+xss.length/\x.1=(s:Int)
 | _,[],x,h=>by cases h
 | j,l::r,x,h=>by
  rw[zU] at h;rcases Nh.1 h with h | h
  . obtain⟨m,_,rfl⟩:=LZ.1 h
    exact⟨j,Le _,by simp,rfl⟩
  . obtain⟨s,h1,h2,h3⟩:=YR (j+1) r x h
    exact⟨s,by omega,by simp;omega,h3⟩
def jo(a:Ad)(k s:Nat)(xs:List (Int×Mv)):Nat:=(xs.map fun x=>if x.1=(s:Int) then yw a k x.2.to else 0).sum
theorem sumF_snoc(a:Ad)(k s:Nat)(xs:List (Int×Mv))(x:Int×Mv):jo a k s (xs++[x])=jo a k s xs+if x.1=(s:Int) then yw a k x.2.to else 0:=by
 unfold jo;rw[LM,Sx];simp
theorem Yl(a:Ad)(k s j:Nat)(h:s≠j):∀l:List Mv,jo a k s (l.map fun m=>((j:Int),m))=0
 | []=>rfl
 | m::l=>by
  have:=Yl a k s j h l;unfold jo at this ⊢;rw[L5,L5,RB,this,Lg (by intro e;apply h;omega)]
theorem X8(a:Ad)(k s:Nat):∀l:List Mv,jo a k s (l.map fun m=>((s:Int),m))=(l.map fun m=>yw a k m.to).sum
 | []=>rfl
 | m::l=>by
  have:=X8 a k s l;unfold jo at this ⊢;rw[L5,L5,RB,this,Li rfl,L5,RB]
theorem sumF_app(a:Ad)(k s:Nat)(xs ys:List (Int×Mv)):jo a k s (xs++ys)=jo a k s xs+jo a k s ys:=by
 unfold jo;rw[LM,Sx]
theorem X9(a:Ad)(k s:Nat):∀(j:Nat) (xss:List (List Mv)),jo a k s (zU j xss)=if j<=s then ((xss.getD (s-j) []).map fun m=>yw a k m.to).sum else 0
 | j,[]=>by simp[zU,jo]
 | j,l::r=>by
  rw[zU,sumF_app,X9 a k s (j+1) r]
  by_cases e:s=j
  . subst e
    rw[X8,Lg (by omega),Li (Le _),N0];rfl
  . rw[Yl a k s j e,LO]
    by_cases h:j<=s
    . rw[Li (by omega),Li h,show s-j=(s-(j+1))+1 by omega,List.getD_cons_succ]
    . rw[Lg (by omega),Lg h]
theorem sumF_all(a:Ad)(k s:Nat):jo a k s (zU 0 a.sts)=yw a (k+1) (s:Int):=by
 rw[X9,Li (NF _),PJ,yw];unfold Ad.at_;rw[Lo]
def kC(a:Ad)(L k sl:Nat)(pre:List (Int×Mv)):List Int:=(List.range sl).map fun (j:Nat)=>((xA L (jo a k j pre):Nat):Int)
theorem nextL_len(a:Ad)(L k sl:Nat)(pre:List (Int×Mv)):(kC a L k sl pre).length=sl:=by unfold kC;simp
theorem nextL_nil(a:Ad)(L k sl:Nat):kC a L k sl []=List.replicate sl 0:=by
 refine NZ (by simp[kC]) fun j h1 h2=>?_
 simp[kC,jo,J7]
theorem gF(a:Ad)(L k sl:Nat)(pre:List (Int×Mv))(j:Nat)(h:j<(kC a L k sl pre).length):(kC a L k sl pre)[j]=((xA L (jo a k j pre):Nat):Int):=by simp[kC]
theorem nextL_step(a:Ad)(L k sl:Nat)(pre:List (Int×Mv))(x:Int×Mv)(s:Nat)(hx:x.1=(s:Int)):kC a L k sl (pre++[x])=(kC a L k sl pre).set s ((xA L (jo a k s pre+yw a k x.2.to):Nat):Int):=by
 refine NZ (by simp[kC]) fun j h1 h2=>?_
 rw[St,gF,sumF_snoc,hx]
 by_cases e:s=j
 . subst e;rw[Li rfl,Li rfl]
 rw[Lg (by omega),Lg e,NS,gF]
theorem nextL_all(a:Ad)(L k sl:Nat):kC a L k sl (zU 0 a.sts)=cl a L (k+1) sl:=by
 unfold kC cl;refine N3 fun j _=>?_
 rw[sumF_all]
theorem cl_first(a:Ad)(L sl:Nat):cl a L 0 sl=List.replicate sl 1:=by
 refine NZ (by simp[cl]) fun j h1 h2=>?_
 rw[Xp];simp[yw,sat_one]
end
section
open Go.RowKit Go.Shelf
attribute [local go_sem] Oper.semAt_some
theorem YV{B:Nat}{ds:List Deferred}{w w':Ba}(h:Marks B ds w)(hs:∀k:Nat,w.heap[k]?=J (Obj.deferred (J []))->w'.heap[k]?=J (Obj.deferred (J []))):Marks B ds w':=by
 obtain⟨rs,e,hn,hk⟩:=h;exact⟨rs,e,hn,fun r hr=>⟨(hk r hr).1,hs r (hk r hr).2⟩⟩
structure NmIn(B:Nat)(C:Array Ax)(L:Int)(g7 g:Nat)(cs:List Int)(w W:Ba):Prop where
 below:Ar B w W
 b0:W.heap[B]?=J (Ai C 27 (0,0))
 b1:W.heap[B+1]?=J (Ai #[O U L] 3 (0,0))
 b7:W.heap[g7]?=J (Ai #[I (J ⟨g,0,Z⟩) cs.length cs.length] 36 (0,0))
 row:RowAt W g cs
 h7:B+2<=g7
 hg:B+2<=g
theorem NmIn.on{B:Nat}{C:Array Ax}{L:Int}{g7 g:Nat}{cs:List Int}{w W W':Ba}(h:NmIn B C L g7 g cs w W)(hb:Ar W.heap.size W W'):NmIn B C L g7 g cs w W':=
 ⟨h.below.trans (hb.mono (by have:=zj h.b0;omega)),La hb h.b0,La hb h.b1,La hb h.b7,Lb hb h.row.lt h.row,h.h7,h.hg⟩
theorem NmIn.turn{B:Nat}{C:Array Ax}{L:Int}{g7 g:Nat}{cs:List Int}{w W W':Ba}{row:Option Nat}(h:NmIn B C L g7 g cs w W)(hg:W.grownBy W' row)(hr:∀r,row=J r->B<=r/\∃o:Obj,W.heap[r]?=J o/\o.isCells=AC):NmIn B C L g7 g cs w W':=
 ⟨h.below.grown hg (by have:=zj h.b0;omega) (fun k hk=>(hr k hk).1),(Nj hg (fun r e=>(hr r e).2) h.b0 rfl).trans h.b0,(Nj hg (fun r e=>(hr r e).2) h.b1 rfl).trans h.b1,
  (Nj hg (fun r e=>(hr r e).2) h.b7 rfl).trans h.b7,(Nj hg (fun r e=>(hr r e).2) h.row rfl).trans h.row,h.h7,h.hg⟩
theorem NmIn.setk{B:Nat}{C:Array Ax}{L:Int}{g7 g:Nat}{cs:List Int}{w W:Ba}(h:NmIn B C L g7 g cs w W)(n j:Nat)(v:Ax)(h7:g7<n)(hg:g<n):NmIn B C L g7 g cs w (W.setCell ⟨n,j,Z⟩ v):=by
 have h1:=h.h7
 exact⟨h.below.setCell (by show B<=n;omega) _,(Lh W ⟨n,j,Z⟩ v B (by show B≠n;omega)).trans h.b0,(Lh W ⟨n,j,Z⟩ v (B+1) (by show B+1≠n;omega)).trans h.b1,
  (Lh W ⟨n,j,Z⟩ v g7 (by show g7≠n;omega)).trans h.b7,(Lh W ⟨n,j,Z⟩ v g (by show g≠n;omega)).trans h.row,h.h7,h.hg⟩
theorem NmIn.swap{B:Nat}{C:Array Ax}{L:Int}{g7 g n:Nat}{cs rm:List Int}{w W:Ba}(h:NmIn B C L g7 g cs w W)(hr:RowAt W n rm)(hn:B+2<=n)(bj:n≠g7):NmIn B C L g7 n rm w (W.setCell ⟨g7,0,Z⟩ (I (J ⟨n,0,Z⟩) rm.length rm.length)):=by
 have h1:=h.h7;obtain⟨x1,x2,x3⟩:=kI h.b7 (I (J ⟨n,0,Z⟩) rm.length rm.length);exact⟨h.below.setCell (by show B<=g7;omega) _,(x3 B (by omega)).trans h.b0,(x3 (B+1) (by omega)).trans h.b1,x1,(x3 n bj).trans hr,h.h7,hn⟩
theorem keeps_setk{D:Nat}{W:Ba}{n:Nat}{xs:List Int}(h:RowAt W n xs)(j:Nat)(v:Ax):KeepsFrom D W (W.setCell ⟨n,j,Z⟩ v):=
 ⟨(zV W n j v).size,fun k o _ hk ho=>(Lh W ⟨n,j,Z⟩ v k (by rintro rfl;rw[h] at hk;cases hk;cases ho)).trans hk⟩
theorem rep_arr(n:Nat):((List.replicate n (0:Int)).map (O U)).toArray=Array.replicate n (O U 0):=by simp
theorem number_any(a:Ad)(hf:FewA a)(hz:zQ a a.sts=0)(h1:1<=a.sts.length)(K L:Nat)(hK:K<=6)(hL:L<=1048576)(SV:Bb)(ks:Nat)(w:Ba)(hS:SAt w w.heap.size SV a.sts) :
  As Aq 168 #[Ak #[O U a.n,I SV a.sts.length ks],O U K,O U L] w fun e w'=>e=Am (O U ((xA L (yw a K 0):Nat):Int))/\Ar w.heap.size w w':=by
 have ly:=hf.1;have HI:=zH (fun (bx:Nat) (w':Ba) (hb:w'.heap[bx]?=J (Ai #[O U a.n,I SV a.sts.length ks] 27)) (h:SAt w' w.heap.size SV a.sts) (hB:w.heap.size<=w'.heap.size)=>vx a hf SV ks w.heap.size bx w' hb h hB);have HZ:=zH (@qq a hz);have HS:=zH hS;clear hS hz hf;refine xm func168 rfl ?_;simp only[ntmps168,List.size_toArray,List.length_cons,List.length_nil,Nat.reduceAdd,Nat.reduceSub,Array.replicate_succ,Array.replicate_zero,List.push_toArray,List.append_toArray,List.nil_append,List.cons_append];go_wp2_with fail;obtain⟨w2,bZ,b0,b1,aX,hB⟩:=yV w #[O U a.n,I SV a.sts.length ks] #[O U (L:Int)] 27 3;have dP:w2.heap.size=w.heap.size+2:=by rw[<-bZ];simp
 rw[bZ];obtain⟨w3,dV,b2,hz3,ct⟩:=zk w2 #[O U 1] 3;rw[dV];clear bZ dV;rw[show w2.heap.size=w.heap.size+1+1 by omega] at b2;refine(repeat8_any a.sts.length (w.heap.size+1+1) h1 ly 1 w3 b2).mono ?_;rintro e w4 ⟨g,rfl,DN,aR,rT⟩
 have H4:Aw (NmIn w.heap.size #[O U a.n,I SV a.sts.length ks] L w4.heap.size g (cl a L 0 a.sts.length) w (w4.alloc (Ai #[I (J ⟨g,0,Z⟩) a.sts.length a.sts.length] 36))):=by
  have c0:=Lb rT (by omega) (Lb ct (by omega) b0);have c1:=Lb rT (by omega) (Lb ct (by omega) b1);have oA:=rT.size;refine⟨(hB.trans (ct.mono (by omega))).trans ((rT.mono (by omega)).trans ((Ll _ _).alloc (by omega) _)),yU c0 _,yU c1 _,?_,?_,by omega,by omega⟩
  . rw[j9];exact zy _ _
  rw[cl_first];exact yU aR _
 go_wp2_with fail;obtain⟨w5,MB⟩:=Ki (w4.alloc (Ai #[I (J ⟨g,0,Z⟩) a.sts.length a.sts.length] 36));rw[MB] at H4 ⊢;obtain⟨g7,lQ⟩:=Ki w4.heap.size;rw[lQ] at H4 ⊢;obtain⟨g0,mg⟩:∃g0,g0=g:=⟨_,rfl⟩;have H5:Aw (NmIn w.heap.size #[O U a.n,I SV a.sts.length ks] L g7 g (cl a L 0 a.sts.length) w w5):=H4.out;refine wp_loop_ghost (fun (m:Nat) (a':Act) (w':Ba)=>∃(ds:List Deferred) (k h:Nat) (u8 u18 u19 u20 u21 u22 u23 u42 u43:Ax),(m=K-k/\k<=K/\Aw (NmIn w.heap.size #[O U a.n,I SV a.sts.length ks] L g7 h (cl a L k a.sts.length) w w')/\Aw (Marks w.heap.size ds w'))/\a'={ tmps:=#[Ak #[O U a.n,I SV a.sts.length ks],O U (K:Int),O U (L:Int),Al (J ⟨w.heap.size,0,Z⟩),undef,Al (J ⟨w.heap.size+1,0,Z⟩),O U 0,Al (J ⟨g7,0,Z⟩),u8,undef,undef,I (J ⟨w.heap.size+1+1,0,Z⟩) 1 1,Al (J ⟨w.heap.size,1,Z⟩),I SV a.sts.length ks,O U (a.sts.length:Int),I (J ⟨g0,0,Z⟩) a.sts.length a.sts.length,O U (K:Int),O U (k:Int),u18,u19,u20,u21,u22,u23,undef,undef,undef,undef,undef,undef,undef,undef,undef,undef,undef,undef,undef,undef,undef,undef,undef,undef,u42,u43,undef,undef,undef],defers:=ds }) K ?_ ?_
 . exact⟨[],0,g,_,_,_,_,_,_,_,_,_,⟨by omega,by omega,H5.out,Marks.nil _ _⟩,by rw[mg];rfl⟩
 clear H5 mg;rintro m a' wr ⟨ds,k,h,u8,u18,u19,u20,u21,u22,u23,u42,u43,⟨hm,hk,HN,MK⟩,rfl⟩;have px:=j9 a L k a.sts.length;have q7:=zh HN.out.b7 0 rfl;rw[px] at q7
 by_cases PZ:k<K
 case neg=>
  obtain rfl:k=K:=by omega
  have c0:=HN.out.row.cell 0 (by omega);rw[Xp] at c0;clear HI HZ;go_wp2_with fail;refine xP MK.out (v:=O U ((xA L (yw a k 0):Nat):Int)) (fun W=>by kernel_rfl) ?_;intro W hX;exact⟨rfl,HN.out.below.trans hX.below⟩
 case pos=>
 have eq:=gK a.sts.length h1 ly;obtain⟨q0,q1,_⟩:=Ka HN.out.b0;go_upto_region 5 with fail
 obtain⟨W1,eO,d0,d1,aK,bP⟩:=yV wr (Array.replicate a.sts.length (O U 0)) #[I (J ⟨wr.heap.size,0,Z⟩) a.sts.length a.sts.length] 3 36;rw[eO];have aR:RowAt W1 wr.heap.size (kC a L k a.sts.length []):=by rw[nextL_nil];unfold RowAt;rw[rep_arr];exact d0
 have De:=HN.out.on bP;obtain⟨hn,Rg⟩:=Ki wr.heap.size;have hg7n:g7<hn:=by rw[<-Rg];exact zj HN.out.b7
 have hhg:h<hn:=by rw[<-Rg];exact HN.out.row.lt
 have hBn:w.heap.size+1<hn:=by rw[<-Rg];exact zj HN.out.b1
 have MK1:Aw (Marks w.heap.size ds W1):=YV (w:=wr) MK.out fun x hx=>(bP.block x (Lu.1 hx).1).trans hx
 rw[Rg] at aR d1 aK ⊢;obtain⟨q0,q1,_⟩:=Ka De.b0;have ff:=zH De;have Dd:=zH aR;have cN:=zH d1;clear eO d0 d1 bP aR De eq Rg q7;go_wp2_with fail;refine(gG a.n (I SV a.sts.length ks) W1).mono ?_;rintro e W2 ⟨rfl,iU⟩;have bb:=zy W1 (Ai #[O U a.n,I SV a.sts.length ks] 27);have cH:Ar W1.heap.size W1 W2:=by rw[<-iU];exact ye _ _
 have eQ:W2.heap.size=W1.heap.size+1:=by rw[<-iU];simp
 rw[iU] at bb;obtain⟨bx,bk⟩:=Ki W1.heap.size;have Cn:=zH (ff.out.on cH);have dk:Aw (RowAt W2 hn (kC a L k a.sts.length [])):=Lb cH Dd.out.lt Dd.out;have nk:=zH (La cH cN.out);have MK2:Aw (Marks w.heap.size ds W2):=YV (w:=W1) MK1.out fun x hx=>(cH.block x (Lu.1 hx).1).trans hx
 rw[bk] at bb eQ aK ⊢;have lh:=zH (HI.out bx W2 bb (HS.out.keep Cn.out.below) (by omega));clear iU bb cH bk ff Dd cN MK1 q0 q1;go_wp2_with fail
 refine jv rfl (Pg Sj (by kernel_rfl) rfl) lh.out (by rintro x (h | rfl)<;>omega) (fun _=>rfl)
  (fun (pre:List { x:Int×Mv // x∈zU 0 a.sts }) (X:Ba)=>NmIn w.heap.size #[O U a.n,I SV a.sts.length ks] L g7 h (cl a L k a.sts.length) w X/\X.heap[hn+1]?=J (Ai #[I (J ⟨hn,0,Z⟩) a.sts.length a.sts.length] 36 (0,0))/\RowAt X hn (kC a L k a.sts.length (pre.map (·.1)))/\W2.heap.size<=X.heap.size/\(∀y:Nat,W2.heap[y]?=J (Obj.deferred (J []))->X.heap[y]?=J (Obj.deferred (J []))))
  (fun _ _ _=>False)
  ?hI (fun _ _ _ _ _ h _ _=>h)
  ⟨Cn.out,nk.out,dk.out,Le _,fun _ h=>h⟩ (fun x=>x.2.cells) 94 ?a1 ?assign ?body ?done ?stop (fun _ _ h=>h.2.2.2.1)
 case hI=>
  intro s X X' row hX hg hr;refine⟨hX.1.turn hg (fun r e=>⟨by have:=(hr r e).1;omega,(hr r e).2⟩),(Nj hg (fun r e=>(hr r e).2) hX.2.1 rfl).trans hX.2.1,(Nj hg (fun r e=>(hr r e).2) hX.2.2.1 rfl).trans hX.2.2.1,Lz hX.2.2.2.1 hg.size,fun y hy=>?_⟩;have Ou:=hX.2.2.2.2 y hy;have fY:=(Lu.1 hy).1;exact(hg.block y (by have:=hX.2.2.2.1;omega) (fun e=>by have:=(hr y e.symm).1;omega)).trans Ou
 case assign=>
  intro l pre x X K' hI hK;obtain⟨g',mU⟩:∃g',g'=X.heap.size:=⟨_,rfl⟩;have HK:=zH (hK g' mU ⟨hI.1.on (ye X _),yU hI.2.1 _,yU hI.2.2.1 _,by have:=hI.2.2.2.1;simp;omega,fun y hy=>(N9 X _ y (Lu.1 (hI.2.2.2.2 y hy)).1).trans (hI.2.2.2.2 y hy)⟩);have HG:=zH mU;unfold Mv.cells at HK ⊢;dsimp only at HK ⊢;clear hK mU hI;gi_wp2;rw[<-HG.out];exact HK.out
 case body=>
  intro l pre x g W3 hg lw hI aa;obtain⟨na,AU,lA,WB,D'⟩:=hI;obtain⟨s,_,f',Ow⟩:=YR 0 a.sts x.1 x.2;obtain⟨_,_,z3,z4⟩:=HZ.out x.1.2 (Js x.2);have dW:=nextL_step a L k a.sts.length (pre.map (·.1)) x.1 s Ow;obtain⟨t,et⟩:=Lp z3;have pj:t<a.sts.length:=by omega
  have f':s<a.sts.length:=by omega
  have c8:=zh AU 0 rfl;have rS:=lA.cell s (by rw[nextL_len];omega);rw[gF] at rS;have fS:=lA.froz s;have q7:=zh na.b7 0 rfl;rw[j9] at q7;have cT:=na.row.cell t (by rw[j9];omega);rw[Xp] at cT;have u7:=zh lw 7 (u:=O U x.1.2.to) rfl;rw[et] at u7;have q1:=zh na.b1 0 rfl;rw[et] at dW;have Dy:=sat_add L (jo a k s (pre.map (·.1))) (yw a k (t:Int));have y1:=ge L (jo a k s (pre.map (·.1)));have y2:=ge L (yw a k (t:Int));rw[<-Dy] at dW;obtain⟨n1,cU⟩:=Ki (xA L (jo a k s (pre.map (·.1))));obtain⟨n2,EF⟩:=Ki (xA L (yw a k (t:Int)));rw[cU] at rS dW y1;rw[EF] at cT dW y2;have ML:=lA.lt;have Hj:=zH na;have UO:=zH AU;have mK:=zH lA;have se:=zH D';have dq:=zH dW;clear na AU lA D' dW z3 z4 et cU EF Dy lw aa MK MK2 nk dk Cn lh HI HS
  try dsimp only
  rw[Ow];clear Ow HZ;gi_wp2_with fail;refine uH 16 (by kernel_rfl) (by kernel_rfl) (by kernel_rfl) (by rintro⟨_,_,h⟩;exact h) ?_;simp only[List.take_succ_cons,List.take_zero,List.drop_succ_cons,List.drop_zero]
  repeat still_step
  try refine wpStill_nil ?_
  change wpList _ _ _ _ _ W3.drew;go_wp2_with fail;have hv:min ((n1:Int)+(n2:Int)) ((L:Int)+1)=((min (n1+n2) (L+1):Nat):Int):=by omega
  rw[hv];have ck:=mK.out.set s ((min (n1+n2) (L+1):Nat):Int);rw[<-dq.out] at ck;obtain⟨V,hV⟩:∃V:Ax,O U ((min (n1+n2) (L+1):Nat):Int)=V:=⟨_,rfl⟩;rw[hV] at ck ⊢;have hnk:¬(hn<w.heap.size\/hn=bx):=by omega
  refine⟨(keeps_setk mK.out s V).trans (qE (Ll _ _).drew),?_,(Hj.out.setk hn s V (by omega) (by omega)).on (Ll _ _).drew,?_,?_,?_,?_⟩
  . have aW:=KeepB.setCell (W:=W3) (K:=fun k=>k<w.heap.size\/k=bx) (a:=⟨hn,s,Z⟩) hnk V
    exact aW.trans (KeepB.drew _ _)
  . exact(Lh W3 ⟨hn,s,Z⟩ V (hn+1) (by show hn+1≠hn;omega)).trans UO.out
  . show RowAt (W3.setCell ⟨hn,s,Z⟩ V) hn (kC a L k a.sts.length ((pre++[x]).map (·.1)))
    rw[LM];exact ck
  . show W2.heap.size<=(W3.setCell ⟨hn,s,Z⟩ V).heap.size
    exact Lz WB (zV W3 hn s V).size
  intro y hy;exact(Lh W3 ⟨hn,s,Z⟩ V y (by rintro rfl;have h5:=se.out _ hy;rw[mK.out] at h5;cases h5)).trans (se.out y hy)
 case done=>
  intro D ys W3 hD nI hI mi;obtain⟨na,AU,lA,WB,D'⟩:=hI;rw[nI,nextL_all] at lA;have c8:=zh AU 0 rfl;have q7:=zh na.b7 0 rfl;have f7:=zi na.b7 0;have hl7:=zj na.b7;have Hj:=zH na;have mK:=zH lA;have se:=zH D';have Di:=zH mi;clear na AU lA D' mi nI HI lh nk dk Cn HZ HS
  try dsimp only
  go_wp2_with fail;have Dv:=NmIn.swap Hj.out mK.out (by omega) (by omega);rw[j9] at Dv;refine⟨K-(k+1),by omega,_,k+1,hn,_,_,_,_,_,_,_,_,_,⟨rfl,by omega,Dv,?_⟩,rfl⟩;refine Marks.cons MK2.out (fun y hy=>?_) (by omega) hD ?_
  . exact(Lh W3 ⟨g7,0,Z⟩ _ y (by rintro rfl;have:=se.out _ hy;rw[Hj.out.b7] at this;cases this)).trans (se.out y hy)
  exact(Lh W3 ⟨g7,0,Z⟩ _ D (by rintro rfl;have:=Di.out;rw[Hj.out.b7] at this;cases this)).trans Di.out
 intro D c pre W _ _ h;exact h.elim
end
section
open Go.RowKit
attribute [local go_sem] Oper.semAt_some
theorem xv{a:Ad}(hf:FewA a)(h:qQ a=0):zQ a a.sts=0/\1<=a.sts.length/\qk a=AA/\1<=a.n/\a.n<=5:=by
 by_cases h1:a.n<1\/5<a.n
 . rw[uZ h1] at h;cases h
 by_cases h2:a.sts.length<1
 . rw[Za h1 h2] at h;cases h
 by_cases h3:zQ a a.sts=0
 . rw[we h1 (by omega) hf h3] at h
   by_cases h4:qk a=AA
   . exact⟨h3,by omega,h4,by omega,by omega⟩
   rw[Lg h4] at h;cases h
 rw[uY h1 (by omega) hf h3] at h;exact absurd h h3
def uj(L T:Nat):Int×Int:=if L<T then (0,17) else ((T:Int),0)
theorem wR(a:Ad)(hf:FewA a)(h:qQ a=0)(K L:Nat)(hK:K<=6)(hL:L<=1048576)(SV:Bb)(ks:Nat)(w:Ba)(hS:SAt w w.heap.size SV a.sts) :
  As Aq 137 #[Ak #[O U a.n,I SV a.sts.length ks],O U K,O U L] w fun e w'=>e=Am (.tuple #[O U (uj L (yw a K 0)).1,O U (uj L (yw a K 0)).2])/\Ar w.heap.size w w':=by
 obtain⟨z1,z2,_⟩:=xv hf h;have HC:=zH (fun (w':Ba) (h':SAt w' w'.heap.size SV a.sts)=>Xy a hf SV ks w' h');rw[h] at HC;have HN:=zH (fun (w':Ba) (h':SAt w' w'.heap.size SV a.sts)=>number_any a hf z1 z2 K L hK hL SV ks w' h');have Wg:=sat_gt L (yw a K 0);have tD:=zH (@sat_eq L (yw a K 0));have eU:=ge L (yw a K 0);obtain⟨T,hT⟩:=Ki (yw a K 0);rw[hT] at HN tD Wg eU ⊢;obtain⟨r,hr⟩:=Ki (xA L T);rw[hr] at HN tD Wg eU;obtain⟨w1,ab⟩:=Ki (w.alloc (Ai #[O U a.n,I SV a.sts.length ks] 27));have aY:=zy w (Ai #[O U a.n,I SV a.sts.length ks] 27);have aM:Ar w.heap.size w w1:=by rw[<-ab];exact ye w _
 have eP:w1.heap.size=w.heap.size+1:=by rw[<-ab];simp
 rw[ab] at aY;have cJ:=zH aY;have ch:=zH aM;have HS:=zH ((hS.keep aM).more (by omega:w.heap.size<=w1.heap.size));have ai:=zH ab;clear hS ab aM aY;go_enter func137,ntmps137;go_wp2_with fail;rw[ai.out];go_wp2_with fail;refine(HC.out w1 HS.out).mono ?_;rintro e w2 ⟨rfl,ag⟩;have aw:=zH (ch.out.trans (ag.mono (by omega)));have dS:=zH ((HS.out.keep ag).more ag.size);have bC:=La ag cJ.out;obtain⟨q0,q1,_⟩:=Ka bC;have eQ:=ag.size;clear ag bC HC ai;go_wp2_with fail
 all_goals first | (exfalso;omega) | skip
 refine(HN.out w2 dS.out).mono ?_;rintro e w3 ⟨rfl,aj⟩;have aJ:=zH (aw.out.trans (aj.mono (by omega)))
 by_cases hg:L<T
 . have ib:L<r:=Wg.2 hg
   have hR:Aw (uj L T=(0,17)):=Li hg;go_wp2_with fail
   all_goals first | (exfalso;omega) | skip
   go_ret2
   rw[hR.out];exact⟨rfl,aJ.out⟩
 have ib:¬L<r:=fun h=>hg (Wg.1 h)
 have hr:r=T:=(tD.out (by omega)).symm▸rfl;have hR:Aw (uj L T=((T:Int),0)):=Lg hg;subst hr;go_wp2_with fail
 all_goals first | (exfalso;omega) | skip
 go_ret2
 rw[hR.out];exact⟨rfl,aJ.out⟩
theorem acount_fine(a:Ad)(hf:FewA a)(h:qQ a=0)(K:Nat)(hK:K<=6)(SV:Bb)(ks:Nat)(w:Ba)(hS:SAt w w.heap.size SV a.sts) :
  As Aq 136 #[Ak #[O U a.n,I SV a.sts.length ks],O U K] w fun e w'=>e=Am (.tuple #[O U (uj 1048576 (yw a K 0)).1,O U (uj 1048576 (yw a K 0)).2])/\Ar w.heap.size w w':=by
 have HN:=zH (fun (w':Ba) (h':SAt w' w'.heap.size SV a.sts)=>wR a hf h K 1048576 hK (Le _) SV ks w' h');obtain⟨r,hr⟩:=Ki (uj 1048576 (yw a K 0));rw[hr] at HN ⊢;have aM:=ye w (Ai #[O U a.n,I SV a.sts.length ks] 27);have ch:=zH aM;have HS:=zH ((hS.keep aM).more aM.size);go_enter func136,ntmps136;go_wp2_with fail;refine(HN.out _ HS.out).mono ?_;rintro e w2 ⟨rfl,ag⟩;have aw:=zH (ch.out.trans (ag.mono (by simp)));go_wp2_with fail
 go_ret2
 exact⟨rfl,aw.out⟩
theorem words_any(a:Ad)(hf:FewA a)(h:qQ a=0)(K:Nat)(hK:K<=6)(hT:yw a K 0<=4096)(SV:Bb)(ks:Nat)(w:Ba)(hS:SAt w w.heap.size SV a.sts) :
  As Aq 84 #[Ak #[O U a.n,I SV a.sts.length ks],O U K] w fun e w'=>∃A c,e=Am (.tuple #[.slice A (zT a K 0).length c,O U 0])/\WAt w' w'.heap.size A (zT a K 0)/\Ar w.heap.size w w':=by
 obtain⟨z1,z2,_⟩:=xv hf h;have HC:=zH (fun (w':Ba) (h':SAt w' w'.heap.size SV a.sts)=>wR a hf h K 4096 hK (by omega) SV ks w' h');have hcut:uj 4096 (yw a K 0)=(((yw a K 0:Nat):Int),0):=Lg (by omega);rw[hcut] at HC;have HL:=zH (xe a K 0);obtain⟨T,AN⟩:=Ki (yw a K 0);rw[AN] at HC HL hT;have HF:=zH (from_any a K hK SV ks z1 hf K);obtain⟨w1,ab,d0,d1,aK,dj⟩:=yV w #[O U a.n,I SV a.sts.length ks] #[O U (K:Int)] 27 3;have HS:=zH ((hS.keep dj).more dj.size);have Dc:=zH hS;have cu:=zH dj;have bK:=zH d0;have cN:=zH d1;have ai:=zH ab;clear ab d0 d1 dj hS;go_enter func84,ntmps84;go_wp2_with fail;rw[ai.out];go_wp2_with fail;refine(HC.out w1 HS.out).mono ?_;rintro e w2 ⟨rfl,ag⟩;have aw:=zH ag;have D0:=zH (La ag bK.out);have D1:=zH (La ag cN.out);have dw:=ag.size;obtain⟨i0,hi,ec,cO,dP⟩:=xu kWd_ok;obtain⟨w3,eq,r1,r2⟩:=run_make_own (P:=Aq) w2 w2.heap.size 141 55 i0 kWd.z 1 underlying141 hi ec cO U U T (by rw[dP];show 24*T<=_;omega) (by unfold maxLen;omega) (Le _);have R1:=zH r1;have R2:=zH r2;go_wp2_with fail;have t':=R2.out;have lP:=R2.out.size;obtain⟨w4,fN,e0,e1,oA,rT⟩:=yV w3 #[I (J ⟨w2.heap.size,0,Z⟩) 0 T] #[.func (.func 138) #[] #[Al (J ⟨w.heap.size+1,0,Z⟩),Al (J ⟨w3.heap.size,0,Z⟩),Al (J ⟨w.heap.size,0,Z⟩),Al (J ⟨w3.heap.size+1,0,Z⟩)]] 141 200;rw[fN]
 have B3:Ar w2.heap.size w2 w3:=⟨t'.os,t'.tape,t'.output,t'.size,fun k hk=>t'.block k hk (by simp)⟩;have B4:Ar w2.heap.size w2 w4:=B3.trans (rT.mono lP);have CD:=La B4 D0.out;have D14:=La B4 D1.out;have iR:=zj D1.out;obtain⟨i1,hi,ec,cO,dP⟩:=xu Jw;obtain⟨w5,eq,r1,r2⟩:=run_make_own (P:=Aq) w4.drew w4.drew.heap.size 55 92 i1 kRd.z 7 PX hi ec cO U U K (by rw[dP];show 56*K<=_;omega) (by unfold maxLen;omega) (Le _);have B5:Ar w4.heap.size w4 w5:=kF ⟨r2.os,r2.tape,r2.output,r2.size,fun k hk=>r2.block k hk (by simp)⟩;have r1':OwnR kRd w5 w4.heap.size (I (J ⟨w4.heap.size,0,Z⟩) 0 K) 0 []:=r1;have hl4:w3.heap.size+1<w4.heap.size:=by omega
 have cj:Aw (Ar w.heap.size w w5):=(cu.out.trans ((aw.out.trans (B4.mono dw)).mono cu.out.size)).trans (B5.mono (by omega))
 have HFI:Aw (FromIn a K SV ks w.heap.size (w.heap.size+1) w3.heap.size w.heap.size (w3.heap.size+1) w4.heap.size (I (J ⟨w2.heap.size,0,Z⟩) 0 T) [] [] w w5):=by
  refine⟨Lb B5 (by omega) D14,Lb B5 (by omega) e0,Lb B5 (by omega) CD,Lb B5 (by omega) e1,?_,?_,?_,cj.out⟩
  . refine⟨[],rfl,?_,fun i h1 _=>absurd h1 (by simp)⟩
    have h3:OwnR kWd w3 w2.heap.size (I (J ⟨w2.heap.size,0,Z⟩) 0 T) 0 []:=R1.out;exact((h3.below rT (Le _)).below B5 (Le _)).low (by omega)
  . intro k hk
    have:w2.heap.size=k:=by simpa[Value.ownBlock] using hk
    have hlt3:w2.heap.size<w3.heap.size:=(R1.out.lt w2.heap.size rfl).2;exact⟨by omega,by omega,by omega,by omega,by omega⟩
  exact r1'.low (by omega)
 have f4:w4.cell? ⟨w3.heap.size+1,0,Z⟩=J (.func (.func 138) #[] #[Al (J ⟨w.heap.size+1,0,Z⟩),Al (J ⟨w3.heap.size,0,Z⟩),Al (J ⟨w.heap.size,0,Z⟩),Al (J ⟨w3.heap.size+1,0,Z⟩)]):=zh e1 0 rfl;have k4:w4.cell? ⟨w.heap.size+1,0,Z⟩=J (O U K):=zh D14 0 rfl;have f5:=(B5.cell (p:=⟨w3.heap.size+1,0,Z⟩) (by show w3.heap.size+1<_;omega)).trans f4;have k5:=(B5.cell (p:=⟨w.heap.size+1,0,Z⟩) (by show w.heap.size+1<_;omega)).trans k4
 have bQ:Aw (FromB w.heap.size (w.heap.size+1) w3.heap.size w.heap.size (w3.heap.size+1) w4.heap.size):=
  ⟨by omega,by omega,by omega,by omega,by omega,by omega,by omega,by omega,by omega,by omega,by omega,by omega⟩
 refine zw [(0,AA),(1,AA),(2,AC),(3,AC)]
  (fun W=>W.cell? ⟨w3.heap.size+1,0,Z⟩=J (.func (.func 138) #[] #[Al (J ⟨w.heap.size+1,0,Z⟩),Al (J ⟨w3.heap.size,0,Z⟩),Al (J ⟨w.heap.size,0,Z⟩),Al (J ⟨w3.heap.size+1,0,Z⟩)])/\W.cell? ⟨w.heap.size+1,0,Z⟩=J (O U K))
  (by kernel_rfl) (by kernel_rfl) ⟨f4,k4⟩ ?_
 repeat
  apply zA rfl
  . rintro K' ac W ⟨y0,y1⟩
    go_simp;exact ac
 refine zx rfl ?_;intro K' ac;go_simp;refine ac _ _ ⟨f5,k5⟩ ?_;refine xg rfl (by kernel_rfl) ?_;intro K' ac;go_simp;have sg:=HF.out 0 [] [] (I (J ⟨w2.heap.size,0,Z⟩) 0 T) w.heap.size (w.heap.size+1) w3.heap.size w.heap.size (w3.heap.size+1) w4.heap.size w w5 (by simp) (.inr ⟨by omega,by omega⟩) (by have:=HL.out;simp;omega) bQ.out Dc.out HFI.out;refine sg.mono ?_;rintro e w6 ⟨⟨v6,rfl⟩,V6,H6⟩;rw[Nq,show xG [] (zT a K 0)=zT a K 0 by simp[xG]] at H6;refine ac (fun _=>True) _ _ trivial ?_;refine zO ?_;obtain⟨A6,c6,rfl,_,_,CQ⟩:=Xu H6.out;have o6:=zh H6.hO 0 rfl;have fA:=zH H6.bel;have Ha:=zH CQ;go_wp2_with fail
 go_ret2
 exact⟨A6,c6,rfl,Ha.out,fA.out⟩
end
section
open Go.RowKit
def RawL(B:Nat)(w:Ba)(A:Bb)(n:Nat)(cs:List Ax):Prop:=0<n->∃b off,A=J ⟨b,off,Z⟩/\b<B/\∀(j:Nat) (u:Ax),cs[j]?=J u->w.cell? ⟨b,off+j,Z⟩=J u
theorem RawL.raw{B:Nat}{w:Ba}{A:Bb}{n:Nat}{cs:List Ax}(h:RawL B w A n cs)(hB:B<=w.heap.size):Raw w A n cs:=fun h0=>by
 obtain⟨b,off,e,hb,hc⟩:=h h0;exact⟨b,off,e,by omega,hc⟩
theorem RawL.keep{B:Nat}{w w':Ba}{A:Bb}{n:Nat}{cs:List Ax}(h:RawL B w A n cs)(hb:Ar B w w'):RawL B w' A n cs:=fun h0=>by
 obtain⟨b,off,e,aa,hc⟩:=h h0;exact⟨b,off,e,aa,fun j u hu=>(hb.cell (p:=⟨b,_,Z⟩) aa).trans (hc j u hu)⟩
def CAtL(L0 B0:Nat)(w:Ba)(A:Bb)(xs:List Cs):Prop:=∃cs:List Ax,cs.length=xs.length*3/\RawL B0 w A xs.length cs/\(∀u∈cs,u.oneCell'=AA) /\
  ∀(i:Nat) (hi:i<xs.length),∃d,cCs.lies (fun k=>L0<=k/\k<B0) w d xs[i]/\∀j u,d[j]?=J u->cs[i*3+j]?=J u
def SAtL(L0 B0:Nat)(w:Ba)(A:Bb)(xs:List (List Mv)):Prop:=∃cs:List Ax,cs.length=xs.length*1/\RawL B0 w A xs.length cs/\(∀u∈cs,u.oneCell'=AA) /\
  ∀(i:Nat) (hi:i<xs.length),∃d,cMl.lies (fun k=>L0<=k/\k<B0) w d xs[i]/\∀j u,d[j]?=J u->cs[i*1+j]?=J u
section
variable {L0 B0:Nat} {w w':Ba} {A:Bb}
theorem CAtL.keep{xs:List Cs}(h:CAtL L0 B0 w A xs)(hb:Ar B0 w w'):CAtL L0 B0 w' A xs:=by
 obtain⟨cs,h1,h2,h3,h4⟩:=h;refine⟨cs,h1,h2.keep hb,h3,fun i hi=>?_⟩;obtain⟨d,h5,h6⟩:=h4 i hi;exact⟨d,qM.keep h5 ⟨hb.size,fun k hk _=>hb.block k hk.2⟩,h6⟩
theorem SAtL.keep{xs:List (List Mv)}(h:SAtL L0 B0 w A xs)(hb:Ar B0 w w'):SAtL L0 B0 w' A xs:=by
 obtain⟨cs,h1,h2,h3,h4⟩:=h;refine⟨cs,h1,h2.keep hb,h3,fun i hi=>?_⟩;obtain⟨d,h5,h6⟩:=h4 i hi;exact⟨d,jg.keep h5 ⟨hb.size,fun k hk _=>hb.block k hk.2⟩,h6⟩
theorem CAtL.raw{xs:List Cs}(h:CAtL L0 B0 w A xs)(hB:B0<=w.heap.size):∃cs:List Ax,cs.length=xs.length*3/\Raw w A xs.length cs/\(∀u∈cs,u.oneCell'=AA) /\
  ∀(i:Nat) (hi:i<xs.length),∃d,cCs.lies (fun k=>L0<=k/\k<B0) w d xs[i]/\∀j u,d[j]?=J u->cs[i*3+j]?=J u:=by
 obtain⟨cs,h1,h2,h3,h4⟩:=h;exact⟨cs,h1,h2.raw hB,h3,h4⟩
theorem SAtL.raw{xs:List (List Mv)}(h:SAtL L0 B0 w A xs)(hB:B0<=w.heap.size):∃cs:List Ax,cs.length=xs.length*1/\Raw w A xs.length cs/\(∀u∈cs,u.oneCell'=AA) /\
  ∀(i:Nat) (hi:i<xs.length),∃d,cMl.lies (fun k=>L0<=k/\k<B0) w d xs[i]/\∀j u,d[j]?=J u->cs[i*1+j]?=J u:=by
 obtain⟨cs,h1,h2,h3,h4⟩:=h;exact⟨cs,h1,h2.raw hB,h3,h4⟩
theorem CAtL.of{xs:List Cs}(h:CAt w B0 A xs)(hB:B0<=w.heap.size):CAtL 0 B0 w A xs:=by
 obtain⟨cs,h1,h2,h3,h4⟩:=h.raw hB;refine⟨cs,h1,fun h0=>?_,h3,fun i hi=>?_⟩
 . obtain⟨b,off,e,_,hc⟩:=h2 h0
   obtain⟨b',eh,e',di,_⟩:=h h0;rw[e] at e';simp only[Option.some.injEq,Addr.mk.injEq,and_true] at e';exact⟨b,off,e,by omega,hc⟩
 obtain⟨d,h5,h6⟩:=h4 i hi;exact⟨d,qM.mono h5 fun k _ hk=>⟨NF _,hk⟩,h6⟩
theorem SAtL.of{xs:List (List Mv)}(h:SAt w B0 A xs)(hB:B0<=w.heap.size):SAtL 0 B0 w A xs:=by
 obtain⟨cs,h1,h2,h3,h4⟩:=h.raw hB;refine⟨cs,h1,fun h0=>?_,h3,fun i hi=>?_⟩
 . obtain⟨b,off,e,_,hc⟩:=h2 h0
   obtain⟨b',eh,e',di,_⟩:=h h0;rw[e] at e';simp only[Option.some.injEq,Addr.mk.injEq,and_true] at e';exact⟨b,off,e,by omega,hc⟩
 obtain⟨d,h5,h6⟩:=h4 i hi;exact⟨d,jg.mono h5 fun k _ hk=>⟨NF _,hk⟩,h6⟩
end
end
section
open Go.RowKit
attribute [local go_sem] Oper.semAt_some
structure CpIn(B:Nat)(p:Pb)(A:Bb)(kc:Nat)(SV:Bb)(ks:Nat)(Ag:Array Ax)(w W:Ba):Prop where
 bel:Ar B w W
 b0:W.heap[B]?=J (Ai (p.vs A kc SV ks) 29 (0,0))
 b1:W.heap[B+1]?=J (Ai Ag 29 (0,0))
def Nbx(L0 B0 B k:Nat):Prop:=k≠B/\k≠B+1/\((L0<=k/\k<B0)\/B<=k)
theorem CpIn.on{B:Nat}{p:Pb}{A:Bb}{kc:Nat}{SV:Bb}{ks:Nat}{Ag:Array Ax}{w W W':Ba}(h:CpIn B p A kc SV ks Ag w W)(hb:Ar W.heap.size W W'):CpIn B p A kc SV ks Ag w W':=by
 have:=zj h.b1;exact⟨h.bel.trans (hb.mono (by omega)),Lb hb (by omega) h.b0,Lb hb (by omega) h.b1⟩
theorem CpIn.set{B:Nat}{p:Pb}{A:Bb}{kc:Nat}{SV:Bb}{ks:Nat}{Ag:Array Ax}{w W:Ba}(h:CpIn B p A kc SV ks Ag w W){g:Nat}(hg:B+1<g)(o:Nat)(v:Ax):CpIn B p A kc SV ks Ag w (W.setCell ⟨g,o,Z⟩ v):=
 ⟨h.bel.setCell (by show B<=g;omega) _,(Lh W _ v B (by show B≠g;omega)).trans h.b0,(Lh W _ v (B+1) (by show B+1≠g;omega)).trans h.b1⟩
theorem copied_any(p:Pb)(hf:JQ p)(hc1:1<=p.t.cases.length)(aK:1<=p.a.sts.length)(A:Bb)(kc:Nat)(SV:Bb)(ks:Nat)(w:Ba)(L0 B0:Nat)(ce:B0<=w.heap.size)(hA:CAtL L0 B0 w A p.t.cases)(hS:SAtL L0 B0 w SV p.a.sts) :
  As Aq 85 #[.agg (p.vs A kc SV ks)] w fun e w'=>∃g kc' gm ks',e=Am (.agg (p.vs (J ⟨g,0,Z⟩) kc' (J ⟨gm,0,Z⟩) ks'))/\RowX cCs (fun b=>(L0<=b/\b<B0)\/w.heap.size<=b) w' g p.t.cases/\RowX cMl (fun b=>(L0<=b/\b<B0)\/w.heap.size<=b) w' gm p.a.sts/\w.heap.size<=g/\w.heap.size<=gm/\Ar w.heap.size w w':=by
 have hfc:=hf.1.1;have hfs:=hf.2.1;obtain⟨w1,ab,d0,d1,aX,dj⟩:=yV w (p.vs A kc SV ks) #[O U 0,O U 0,O U 0,I Z 0 0,O U 0,I Z 0 0,O U 0] 29 29;have J':=dj.mono ce;have HS:=zH (hS.keep J');have Dp:B0<=w1.heap.size:=by have:=dj.size;omega
 obtain⟨ccs,ccl,ccr,cc1,cce⟩:=(hA.keep J').raw Dp;have HC:=zH (clone_kCs A p.t.cases.length kc ccs w1 ccl ccr cc1 (by omega));have cu:=zH dj;have bK:=zH d0;have cN:=zH d1;have pP:=zH cce;have HFT:=zH hf.1;have HFA:=zH hf.2;unfold Pb.vs at ab d0;have p3:=zh d0 3 rfl;have f3:=zi d0 3;have ai:=zH ab;clear ab d0 d1 dj J';unfold Pb.vs;go_enter func85,ntmps85;go_wp2_with fail;rw[ai.out];refine HC.out.mono ?_;rintro e w2 ⟨v2,rfl,mB,ag⟩;obtain⟨A2,c2,rfl,hc2,fC,ib⟩:=mB.form;obtain⟨g,rfl,_,ia,_⟩:=ib (by omega);have RQ:w1.heap.size<=g:=(mB.lt g rfl).1;have dw:=ag.size;have lw:w.heap.size+1<g:=by omega
 have R2:RowX cCs (Nbx L0 B0 w.heap.size) w2 g p.t.cases:=RowX.of_own qM mB rfl rfl (fun i hi=>by
  obtain⟨d,h1,h2⟩:=pP.out i hi
  refine⟨d,qM.mono (qM.keep h1 ⟨ag.size,fun k hk _=>ag.block k (by omega)⟩) fun k _ hk=>⟨⟨by omega,by omega⟩,by omega⟩,h2⟩)
 have D0:=La ag bK.out;have D1:=La ag cN.out;have p3:=zh D0 3 rfl;have f3:=zi D0 3;obtain⟨W3,fU⟩:=Ki (w2.setCell ⟨w.heap.size,3,Z⟩ (I (J ⟨g,0,Z⟩) p.t.cases.length c2))
 have H3:Aw (CpIn w.heap.size p (J ⟨g,0,Z⟩) c2 SV ks #[O U 0,O U 0,O U 0,I Z 0 0,O U 0,I Z 0 0,O U 0] w W3):=by
  rw[<-fU];refine⟨(cu.out.trans (ag.mono (by omega))).setCell (Le _) _,?_,(Lh w2 _ _ (w.heap.size+1) (by show w.heap.size+1≠w.heap.size;omega)).trans D1⟩;rw[Lq w2 w.heap.size 3 _ _ _ D0]
  rfl
 have R3:Aw (RowX cCs (Nbx L0 B0 w.heap.size) W3 g p.t.cases):=by rw[<-fU];exact R2.other qM 3 _ (by omega) (fun h=>h.1 rfl)
 have oY:Aw (SAtL L0 B0 W3 SV p.a.sts):=HS.out.keep (by
  rw[<-fU]
  exact((Below.mono ag (show w.heap.size<=w1.heap.size by omega)).setCell (Le _) _).mono ce)
 have q3:W3.cell? ⟨w.heap.size,3,Z⟩=J (I (J ⟨g,0,Z⟩) p.t.cases.length c2):=zh H3.out.b0 3 rfl;clear R2 D0 D1 mB ag hc2 fC HC pP;go_wp2_with fail;clear p3 f3 fU q3
 go_loopw [17] (fun i wr=>∃k:Nat,k<=p.t.cases.length/\i=O U (k:Int)/\Aw (CpIn w.heap.size p (J ⟨g,0,Z⟩) c2 SV ks #[O U 0,O U 0,O U 0,I Z 0 0,O U 0,I Z 0 0,O U 0] w wr)/\Aw (RowX cCs (Nbx L0 B0 w.heap.size) wr g p.t.cases)/\Aw (SAtL L0 B0 wr SV p.a.sts)) (fun i _=>p.t.cases.length-(Au i).toNat)
 case atStart=>exact⟨0,by omega,rfl,H3.out,R3.out,oY.out⟩
 obtain⟨k,hk,rfl,HI,HR,HSr⟩:=hrel
 by_cases bY:k<p.t.cases.length
 case neg=>
  obtain rfl:k=p.t.cases.length:=by omega
  have b0:=HI.out.b0;have q5:wr.cell? ⟨w.heap.size,5,Z⟩=J (I SV p.a.sts.length ks):=zh b0 5 rfl;have Dx:=HI.out.bel.size;obtain⟨ccs,ccl,ccr,cc1,cce⟩:=HSr.out.raw (by omega);have HC:=zH (clone_kMl SV p.a.sts.length ks ccs wr ccl ccr cc1 (by omega));have pP:=zH cce;have bk:=zj HI.out.b1;go_wp2_with fail;refine HC.out.mono ?_;rintro e Mw ⟨v2,rfl,mB,ag⟩;obtain⟨A2,c3,rfl,_,_,ib⟩:=mB.form;obtain⟨gm,rfl,_,hgml,_⟩:=ib (by omega);have hgem:wr.heap.size<=gm:=(mB.lt gm rfl).1;have DN:g<wr.heap.size:=HR.out.lt
  have R2:RowX cMl (fun b=>Nbx L0 B0 w.heap.size b/\b≠g) Mw gm p.a.sts:=RowX.of_own jg mB rfl rfl (fun i hi=>by
   obtain⟨d,h1,h2⟩:=pP.out i hi
   exact⟨d,jg.mono (jg.keep h1 ⟨ag.size,fun k hk _=>ag.block k (by omega)⟩) fun k _ hk=>⟨⟨⟨by omega,by omega⟩,by omega⟩,by omega⟩,h2⟩)
  have I2:=HI.out.on ag;have q5':Mw.cell? ⟨w.heap.size,5,Z⟩=J (I SV p.a.sts.length ks):=zh I2.b0 5 rfl;have f5':=zi I2.b0 5;have RC:RowX cCs (fun b=>Nbx L0 B0 w.heap.size b/\b≠gm) Mw g p.t.cases:=(HR.out.mono qM fun b hb hs=>⟨hs,by omega⟩).below qM ag (Le _);obtain⟨W3,fU⟩:=Ki (Mw.setCell ⟨w.heap.size,5,Z⟩ (I (J ⟨gm,0,Z⟩) p.a.sts.length c3))
  have H3:Aw (CpIn w.heap.size p (J ⟨g,0,Z⟩) c2 (J ⟨gm,0,Z⟩) c3 #[O U 0,O U 0,O U 0,I Z 0 0,O U 0,I Z 0 0,O U 0] w W3):=by
   rw[<-fU];refine⟨I2.bel.setCell (Le _) _,?_,(Lh Mw _ _ (w.heap.size+1) (by show w.heap.size+1≠w.heap.size;omega)).trans I2.b1⟩;rw[Lq Mw w.heap.size 5 _ _ _ I2.b0]
   rfl
  have R3:Aw (RowX cMl (fun b=>Nbx L0 B0 w.heap.size b/\b≠g) W3 gm p.a.sts):=by rw[<-fU];exact R2.other jg 5 _ (by omega) (fun h=>h.1.1 rfl)
  have RC3:Aw (RowX cCs (fun b=>Nbx L0 B0 w.heap.size b/\b≠gm) W3 g p.t.cases):=by rw[<-fU];exact RC.other qM 5 _ (by omega) (fun h=>h.1.1 rfl)
  have q6:W3.cell? ⟨w.heap.size,5,Z⟩=J (I (J ⟨gm,0,Z⟩) p.a.sts.length c3):=zh H3.out.b0 5 rfl;go_wp2_with fail
  go_loopw [48] (fun i wx=>∃k:Nat,k<=p.a.sts.length/\i=O U (k:Int)/\Aw (CpIn w.heap.size p (J ⟨g,0,Z⟩) c2 (J ⟨gm,0,Z⟩) c3 #[O U 0,O U 0,O U 0,I Z 0 0,O U 0,I Z 0 0,O U 0] w wx)/\Aw (RowX cMl (fun b=>Nbx L0 B0 w.heap.size b/\b≠g) wx gm p.a.sts)/\Aw (RowX cCs (fun b=>Nbx L0 B0 w.heap.size b/\b≠gm) wx g p.t.cases)) (fun i _=>p.a.sts.length-(Au i).toNat)
  case atStart=>exact⟨0,by omega,rfl,H3.out,R3.out,RC3.out⟩
  obtain⟨k,hk,rfl,HI,HR,Uz⟩:=hrel
  by_cases bY:k<p.a.sts.length
  case neg=>
   obtain rfl:k=p.a.sts.length:=by omega
   have b0:=HI.out.b0;have b1:=HI.out.b1;have c0:wr.cell? ⟨w.heap.size,0,Z⟩=J (O U p.t.n):=zh b0 0 rfl;have c1:wr.cell? ⟨w.heap.size,1,Z⟩=J (O U p.t.ins):=zh b0 1 rfl;have c2':wr.cell? ⟨w.heap.size,2,Z⟩=J (O U p.t.outs):=zh b0 2 rfl;have c3':wr.cell? ⟨w.heap.size,3,Z⟩=J (I (J ⟨g,0,Z⟩) p.t.cases.length c2):=zh b0 3 rfl;have c4:wr.cell? ⟨w.heap.size,4,Z⟩=J (O U p.a.n):=zh b0 4 rfl;have c5:wr.cell? ⟨w.heap.size,5,Z⟩=J (I (J ⟨gm,0,Z⟩) p.a.sts.length c3):=zh b0 5 rfl;have c6:wr.cell? ⟨w.heap.size,6,Z⟩=J (O U p.k):=zh b0 6 rfl;obtain⟨e0,e1,e2,e3,e4,e5,e6,_⟩:=Kf b1;have z0:=zi b1 0;have z1:=zi b1 1;have z2:=zi b1 2;have z3:=zi b1 3;have z4:=zi b1 4;have z5:=zi b1 5;have z6:=zi b1 6;clear b0 b1;have Ho:=zH HI.out.bel;have HCT:=zH Uz.out;have dq:=zH HR.out;have hgl1:=Uz.out.lt;have hgl2:=HR.out.lt;have hgm1:w.heap.size+1<gm:=by omega
   have K7:=zH (fun (o:Nat) (v:Ax) (W:Ba) (h:RowX cCs (fun b=>Nbx L0 B0 w.heap.size b/\b≠gm) W g p.t.cases)=>h.other qM o v (show w.heap.size+1≠g by omega) (fun h=>h.1.2.1 rfl));have pK:=zH (fun (o:Nat) (v:Ax) (W:Ba) (h:RowX cMl (fun b=>Nbx L0 B0 w.heap.size b/\b≠g) W gm p.a.sts)=>h.other jg o v (show w.heap.size+1≠gm by omega) (fun h=>h.1.2.1 rfl));clear HI HR Uz;go_wp2_with fail;refine LG (v:=.agg (p.vs (J ⟨g,0,Z⟩) c2 (J ⟨gm,0,Z⟩) c3)) (by simp[results,results85,go_sem,e0,e1,e2,e3,e4,e5,e6,Pb.vs]) rfl ?_;refine⟨g,c2,gm,c3,rfl,?_,?_,by omega,by omega,?_⟩
   . refine RowX.mono (S:=fun b=>Nbx L0 B0 w.heap.size b/\b≠gm) qM ?_ (fun b _ hs=>hs.1.2.2)
     exact K7.out _ _ _ (K7.out _ _ _ (K7.out _ _ _ (K7.out _ _ _ (K7.out _ _ _ (K7.out _ _ _ (K7.out _ _ _ (HCT.out)))))))
   . refine RowX.mono (S:=fun b=>Nbx L0 B0 w.heap.size b/\b≠g) jg ?_ (fun b _ hs=>hs.1.2.2)
     exact pK.out _ _ _ (pK.out _ _ _ (pK.out _ _ _ (pK.out _ _ _ (pK.out _ _ _ (pK.out _ _ _ (pK.out _ _ _ (dq.out)))))))
   have Iq:w.heap.size<=w.heap.size+1:=by omega
   exact(((((((Ho.out).setCell Iq _).setCell Iq _).setCell Iq _).setCell Iq _).setCell Iq _).setCell Iq _).setCell Iq _
  obtain⟨iL,fK,iK⟩:=HR.out;obtain⟨cs,⟨A0,k0,rfl,i0⟩,cK⟩:=iK k bY
  have x0:wr.cell? ⟨gm,k,Z⟩=J (I A0 p.a.sts[k].length k0):=by
   have:=cK 0 _ rfl;change iL[k*1+0]?=_ at this;exact zh fK _ (by rw[<-this];congr 1;omega)
  have dh:(0:Int)<=(k:Int):=by omega
  have aW:(k:Int)<(p.a.sts.length:Int):=by omega
  have ie:gm<wr.heap.size:=zj fK;have WD:=zj HI.out.b1;have tU:=HFA.out.each (Ld bY);obtain⟨x,hx⟩:=Ki (p.a.sts[k]);have C9:=zH hx;rw[hx] at x0 i0 tU;have HC:=zH (clone_kMv A0 x.length k0 (jq x) wr.drew (uy x) (mcells_raw (w:=wr.drew) i0.mat) (mcells_one x) (by omega));have q5:wr.cell? ⟨w.heap.size,5,Z⟩=J (I (J ⟨gm,0,Z⟩) p.a.sts.length c3):=zh HI.out.b0 5 rfl;go_wp2_with fail
  refine zw [(0,AA),(1,AA),(2,AA),(3,AA),(4,AA),(5,AC),(6,AC),(7,AC)]
   (fun W=>W.cell? ⟨w.heap.size,5,Z⟩=J (I (J ⟨gm,0,Z⟩) p.a.sts.length c3)) (by kernel_rfl) (by kernel_rfl) (by exact q5) ?_
  repeat
   apply zA rfl
   . rintro K' ac W y0
     go_simp;exact ac
  refine zx rfl ?_;intro K' ac;go_simp;refine HC.out.mono ?_;rintro e w5 ⟨v5,rfl,lN,aA⟩;have aA:Ar wr.heap.size wr w5:=kF aA;have lN:OwnR kMv w5 wr.heap.size v5 x.length (jq x):=lN;obtain⟨A5,c5,rfl,_,_,nP⟩:=mcells_own lN;have I5:=HI.out.on aA;have q5':w5.cell? ⟨w.heap.size,5,Z⟩=J (I (J ⟨gm,0,Z⟩) p.a.sts.length c3):=zh I5.b0 5 rfl;refine ac _ _ q5' ?_;refine zx rfl ?_;intro K' ac;go_simp;refine ac _ _ q5' ?_;clear ac K';have iM:=HR.out.below jg aA (Le _);obtain⟨iL,fK,iK⟩:=iM;obtain⟨cs,⟨Q0,n0,rfl,_⟩,cK⟩:=iK k bY
  have x1:w5.cell? ⟨gm,k,Z⟩=J (I Q0 p.a.sts[k].length n0):=by
   have:=cK 0 _ rfl;change iL[k*1+0]?=_ at this;exact zh fK _ (by rw[<-this];congr 1;omega)
  have y1:=zi fK k
  have hX:cMl.lies (fun b=>(fun b=>Nbx L0 B0 w.heap.size b/\b≠g) b/\b≠gm) w5 [I A5 x.length c5] p.a.sts[k]:=by
   rw[C9.out];have ia:=Uz.out.lt;exact⟨A5,c5,rfl,nP.mono fun b _ hb=>⟨⟨⟨by omega,by omega⟩,by omega⟩,by omega⟩⟩
  have HRn:=zH (RowX.set1 jg rfl (HR.out.below jg aA (Le _)) bY hX);have Tl:w.heap.size+1<gm:=by omega
  have HIn:=zH (I5.set Tl k (I A5 x.length c5));have hgmg:gm≠g:=by omega
  have HRCn:=zH ((Uz.out.below qM aA (Le _)).other qM k (I A5 x.length c5) hgmg (fun h=>h.2 rfl));refine xg rfl (by kernel_rfl) ?_;intro K' ac;go_simp;refine ac (fun _=>True) _ _ trivial ?_;refine zO ?_;go_wp2_with fail
  go_roundw
  case rel=>exact⟨k+1,by omega,by go_num,HIn,HRn,HRCn⟩
  simp[Au];omega
 obtain⟨iL,fK,iK⟩:=HR.out;obtain⟨cs,⟨A0,k0,A1,k1,A2,k2,rfl,i0,l1,l2⟩,cK⟩:=iK k bY;have x0:wr.cell? ⟨g,k*3,Z⟩=J (I A0 p.t.cases[k].inp.length k0):=zh fK _ (cK 0 _ rfl);have x1:wr.cell? ⟨g,k*3+1,Z⟩=J (I A1 p.t.cases[k].out.length k1):=zh fK _ (cK 1 _ rfl);have x2:wr.cell? ⟨g,k*3+2,Z⟩=J (I A2 p.t.cases[k].calm.length k2):=zh fK _ (cK 2 _ rfl);have dh:(0:Int)<=(k:Int):=by omega
 have aW:(k:Int)<(p.t.cases.length:Int):=by omega
 have ie:g<wr.heap.size:=zj fK;have WD:=zj HI.out.b1;have Ob:=HFT.out.2 p.t.cases[k] (Ld bY);obtain⟨x,hx⟩:=Ki (p.t.cases[k]);have C9:=zH hx;rw[hx] at x0 x1 x2 i0 l1 l2 Ob;go_wp2_with fail;obtain⟨W4,rk,g0,pT,rT⟩:=zk wr #[I A0 x.inp.length k0,I A1 x.out.length k1,I A2 x.calm.length k2] 87;rw[rk];have H4:=HI.out.on rT;have p4:W4.cell? ⟨w.heap.size,3,Z⟩=J (I (J ⟨g,0,Z⟩) p.t.cases.length c2):=zh H4.b0 3 rfl;have HI0:=zH i0.iat;have UI:=zH l1.lat;have mI:=zH l2.lat;have dT:=zH rT;have pO:=zH g0;have hN0:w.heap.size<W4.heap.size:=by omega
 clear i0 l1 l2 rT H4
 refine zw [(0,AA),(1,AA),(2,AA),(3,AA),(4,AA),(5,AA),(7,AA),(8,AA),(10,AA),(11,AA),(6,AC),(9,AC),(12,AC),(13,AC),(14,AC),(15,AC)]
  (fun W=>W.cell? ⟨w.heap.size,3,Z⟩=J (I (J ⟨g,0,Z⟩) p.t.cases.length c2)/\W.heap[wr.heap.size]?=J (Ai #[I A0 x.inp.length k0,I A1 x.out.length k1,I A2 x.calm.length k2] 87 (0,0)))
  (by kernel_rfl) (by kernel_rfl) ⟨p4,g0⟩ ?_
 repeat
  apply zA rfl
  . rintro K' ac W ⟨y0,y1⟩
    have z0:W.cell? ⟨wr.heap.size,0,Z⟩=J (I A0 x.inp.length k0):=zh y1 0 rfl;have z1:W.cell? ⟨wr.heap.size,1,Z⟩=J (I A1 x.out.length k1):=zh y1 1 rfl;have z2:W.cell? ⟨wr.heap.size,2,Z⟩=J (I A2 x.calm.length k2):=zh y1 2 rfl;clear y1;go_simp;exact ac
 clear p4 g0;have hwr4:=dT.out.size
 -- the inputs
 refine zx rfl ?_;intro K' ac;go_simp;refine(Xo A0 k0 x.inp W4.drew (((HI0.out.keep dT.out).more hwr4)) (by have:=Ob.1;omega)).mono ?_;rintro e w5 ⟨A5,c5,rfl,MP,aA⟩;have aA:Ar W4.heap.size W4 w5:=kF aA;have cj:=zH aA;have MP:IAtS (fun b=>W4.heap.size<=b) w5 A5 x.inp:=MP;have se:=zH MP;have hwr5:=aA.size;have E5:Ar wr.heap.size wr w5:=dT.out.trans (aA.mono (by omega));refine ac _ _ ⟨zh (HI.out.on E5).b0 3 rfl,Lb aA (by omega) pO.out⟩ ?_
 -- the outputs
 refine zx rfl ?_;intro K' ac;go_simp;refine(Zg A1 k1 x.out w5 ((UI.out.keep E5).more E5.size) (by have:=Ob.2.1.1;omega) (fun v hv=>by have:=Ob.2.1.2 v hv;omega)).mono ?_;rintro e w6 ⟨v6,rfl,CM,cX⟩;obtain⟨A6,c6,rfl,_,_,MJ⟩:=cIs_part CM;have fA:=zH cX;have Oc:=zH MJ;have hwr6:=cX.size;have E6:Ar wr.heap.size wr w6:=Lc E5 cX;refine ac _ _ ⟨zh (HI.out.on E6).b0 3 rfl,Lb cX (by omega) (Lb cj.out (by omega) pO.out)⟩ ?_
 -- the calm ones
 refine zx rfl ?_;intro K' ac;go_simp;refine(Zg A2 k2 x.calm w6 ((mI.out.keep E6).more E6.size) (by have:=Ob.2.2.1;omega) (fun v hv=>by have:=Ob.2.2.2 v hv;omega)).mono ?_;rintro e w7 ⟨v7,rfl,EE,fT⟩;obtain⟨A7,c7,rfl,_,_,hl7⟩:=cIs_part EE;have pQ:=zH fT;have HL7:=zH hl7;have E7:Ar wr.heap.size wr w7:=Lc E6 fT;have HE7:=zH E7;refine ac _ _ ⟨zh (HI.out.on E7).b0 3 rfl,Lb fT (by omega) (Lb fA.out (by omega) (Lb cj.out (by omega) pO.out))⟩ ?_;have Hf:=zH (HR.out.below qM E7 (Le _));obtain⟨iL,fK,iK⟩:=Hf.out;obtain⟨cs,⟨Q0,n0,B1,n1,B2,n2,rfl,_,_,_⟩,cK⟩:=iK k bY;have x0:w7.cell? ⟨g,k*3,Z⟩=J (I Q0 p.t.cases[k].inp.length n0):=zh fK _ (cK 0 _ rfl);have x1:w7.cell? ⟨g,k*3+1,Z⟩=J (I B1 p.t.cases[k].out.length n1):=zh fK _ (cK 1 _ rfl);have x2:w7.cell? ⟨g,k*3+2,Z⟩=J (I B2 p.t.cases[k].calm.length n2):=zh fK _ (cK 2 _ rfl);have y0:=zi fK (k*3);have y1:=zi fK (k*3+1);have y2:=zi fK (k*3+2);have q3:w7.cell? ⟨w.heap.size,3,Z⟩=J (I (J ⟨g,0,Z⟩) p.t.cases.length c2):=zh (HI.out.on E7).b0 3 rfl;have HKK:=zH ((fT.block wr.heap.size (by omega)).trans (Lb fA.out (by omega) (Lb cj.out (by omega) pO.out)));refine zx rfl ?_;intro K' ac;go_simp;refine ac _ _ ⟨q3,HKK.out⟩ ?_;refine zx rfl ?_;intro K' ac;go_simp;refine ac _ _ ⟨q3,HKK.out⟩ ?_;refine xg rfl (by kernel_rfl) ?_;intro K' ac;go_simp
 refine ac (fun _=>True) _ _ trivial ?_;refine zO ?_
 have hX:cCs.lies (fun b=>Nbx L0 B0 w.heap.size b/\b≠g) w7 [I A5 x.inp.length c5,I A6 x.out.length c6,I A7 x.calm.length c7] p.t.cases[k]:=by
  rw[C9.out];refine⟨A5,c5,A6,c6,A7,c7,rfl,?_,?_,?_⟩
  . exact(se.out.on (fA.out.trans (pQ.out.mono hwr6))).mono fun b _ hb=>⟨⟨by omega,by omega⟩,by omega⟩
  . exact(Oc.out.on pQ.out).mono fun b _ hb=>⟨⟨by omega,by omega⟩,by omega⟩
  exact HL7.out.mono fun b _ hb=>⟨⟨by omega,by omega⟩,by omega⟩
 have HRn:=zH (Hf.out.set3 bY hX);have Tl:w.heap.size+1<g:=lw;have HIn:=zH ((((HI.out.on HE7.out).set Tl (k*3) (I A5 x.inp.length c5)).set Tl (k*3+1) (I A6 x.out.length c6)).set Tl (k*3+2) (I A7 x.calm.length c7))
 have HSn:Aw (SAtL L0 B0 (((w7.setCell ⟨g,k*3,Z⟩ (I A5 x.inp.length c5)).setCell ⟨g,k*3+1,Z⟩ (I A6 x.out.length c6)).setCell ⟨g,k*3+2,Z⟩ (I A7 x.calm.length c7)) SV p.a.sts):=
  HSr.out.keep (((((HE7.out.mono (by omega:w.heap.size<=wr.heap.size)).setCell (by show w.heap.size<=g;omega) _).setCell (by show w.heap.size<=g;omega) _).setCell (by show w.heap.size<=g;omega) _).mono ce)
 go_wp2_with fail
 go_roundw
 case rel=>exact⟨k+1,by omega,by go_num,HIn,HRn,HSn⟩
 simp[Au];omega
theorem yf{p:Pb}(h:zY p=0):xD p.t=0/\qQ p.a=0/\p.t.n=p.a.n/\0<=p.k/\p.k<=6:=by
 by_cases h1:xD p.t=0
 case neg=>rw[uL h1] at h;exact absurd h h1
 by_cases h2:qQ p.a=0
 case neg=>rw[gA h1 h2] at h;exact absurd h h2
 by_cases h3:p.t.n=p.a.n
 case neg=>rw[Jh h1 h2 h3] at h;cases h
 by_cases h4:p.k<0\/6<p.k
 . rw[Ji h1 h2 h3 h4] at h;cases h
 exact⟨h1,h2,h3,by omega,by omega⟩
theorem xJ{t:Tk}(h:xD t=0):1<=t.cases.length/\1<=t.n/\t.n<=5:=by
 unfold xD at h
 split at h
 . cases h
 split at h
 . cases h
 omega
def yx(p:Pb):Nat:=yw p.a p.k.toNat 0*p.t.cases.length
def uX(p:Pb):Int×Int:=if zY p≠0 then (0,zY p) else uj 1048576 (yx p)
theorem ecount_any(p:Pb)(hf:JQ p)(A:Bb)(kc:Nat)(SV:Bb)(ks:Nat)(w:Ba)(hA:CAt w w.heap.size A p.t.cases)(hS:SAt w w.heap.size SV p.a.sts) :
  As Aq 83 #[.agg (p.vs A kc SV ks)] w fun e w'=>e=Am (.tuple #[O U (uX p).1,O U (uX p).2])/\Ar w.heap.size w w':=by
 have HP:=zH (fun (w':Ba) (h:CAt w' w'.heap.size A p.t.cases) (h2:SAt w' w'.heap.size SV p.a.sts)=>pcheck_any p hf A kc SV ks w' h h2);have HF:=zH (@yf p);have sH:=hf.1.1;have CA:=zH (fun (h:qQ p.a=0) (K:Nat) (hK:K<=6) (w':Ba) (h':SAt w' w'.heap.size SV p.a.sts)=>acount_fine p.a hf.2 h K hK SV ks w' h');have az:Aw (zY p≠0->uX p=(0,zY p)):=fun h=>Li h
 have au:Aw (zY p=0->uX p=uj 1048576 (yx p)):=fun h=>Lg (by simpa using h)
 obtain⟨E,hE⟩:=Ki (uX p);rw[hE] at az au ⊢;obtain⟨pe,nN⟩:=Ki (zY p);rw[nN] at az au HF HP;obtain⟨w1,ab⟩:=Ki (w.alloc (Ai (p.vs A kc SV ks) 29));have aY:=zy w (Ai (p.vs A kc SV ks) 29);have aM:Ar w.heap.size w w1:=by rw[<-ab];exact ye w _
 have eP:w1.heap.size=w.heap.size+1:=by rw[<-ab];simp
 rw[ab] at aY;unfold Pb.vs at ab aY HP ⊢;have cJ:=zH aY;have ch:=zH aM;have HA:=zH ((hA.keep aM).more (by omega:w.heap.size<=w1.heap.size));have HS:=zH ((hS.keep aM).more (by omega:w.heap.size<=w1.heap.size));have ai:=zH ab;have q3:=zh aY 3 rfl;have q5:=zh aY 5 rfl;have q6:=zh aY 6 rfl;clear hA hS ab aM aY;go_enter func83,ntmps83;go_wp2_with fail;rw[ai.out];go_wp2_with fail;refine(HP.out w1 HA.out HS.out).mono ?_;rintro e w2 ⟨rfl,ag⟩;have B2:=zH (ch.out.trans (ag.mono (by omega)));have dS:=zH ((HS.out.keep ag).more ag.size);have bC:=La ag cJ.out;have aw:=zH bC;have eQ:=ag.size;clear ag HP ai q3 q5 q6;have q4:=zh bC 4 rfl;have q5:=zh bC 5 rfl;have q6:=zh bC 6 rfl;clear bC
 by_cases h1:pe=0
 case neg=>
  have hR:=zH (az.out h1);have e0:(pe != 0)=AA:=by simpa using h1
  clear az au h1 HF CA;go_wp2_with fail
  go_ret2
  rw[hR.out];exact⟨rfl,B2.out⟩
 case pos=>
 have hR:=zH (au.out h1);obtain⟨f1,f2,f3,f4,f5⟩:=HF.out h1;obtain⟨K,hk⟩:=Lp f4;have HN:=zH (CA.out f2 K (by omega));obtain⟨c1,_⟩:=xJ f1;rw[hk] at q6;have hx:yx p=yw p.a K 0*p.t.cases.length:=by unfold yx;rw[hk];rfl
 rw[hx] at hR;subst h1;obtain⟨T,hT⟩:=Ki (yw p.a K 0);rw[hT] at HN hR;clear az au HF CA f1 f2 f3 f4 hx hT;go_wp2_with fail;refine(HN.out w2 dS.out).mono ?_;rintro e w3 ⟨rfl,aj⟩;have B3:=zH (B2.out.trans (aj.mono (by omega)));have bC:=La aj aw.out;have q3:=zh bC 3 rfl;obtain⟨cn,IG⟩:=Ki p.t.cases.length;rw[IG] at q3 c1 sH hR
 by_cases hg:1048576<T
 . have hm:1048576<T*cn:=LF hg (RI T c1)
   have nB:Aw (E=(0,17)):=hR.out.trans (Li hm);have hC:uj 1048576 T=(0,17):=Li hg;rw[hC];go_wp2_with fail
   go_ret2
   rw[nB.out];exact⟨rfl,B3.out⟩
 have hC:uj 1048576 T=((T:Int),0):=Lg hg;rw[hC];have oS:T*cn<=1048576*30:=LU (by omega) sH;have hw:IntKind.i64.wrap ((T:Int)*(cn:Int))=((T*cn:Nat):Int):=by rw[Ls,<-Int.natCast_mul];omega
 obtain⟨m,hm⟩:=Ki (T*cn);rw[hm] at hR oS hw
 by_cases hg:1048576<m
 . have nB:Aw (E=(0,17)):=hR.out.trans (Li hg)
   go_wp2_with fail
   all_goals first | (exfalso;omega) | skip
   go_ret2
   rw[nB.out];exact⟨rfl,B3.out⟩
 have nB:Aw (E=((m:Int),0)):=hR.out.trans (Lg hg);go_wp2_with fail
 all_goals first | (exfalso;omega) | skip
 go_ret2
 rw[nB.out];exact⟨by first | rfl | rw[hw],B3.out⟩
end
section
open Go.RowKit Go.Shelf
def xz(p:Pb):Prop:=JQ p/\(zY p=0->yx p<=60\/4096<yx p)
def yj(p:Pb):Sy×Int:=if zY p≠0 then (kH,zY p) else if 4096<yx p then (kH,17) else (yu p,0)
theorem xy{p:Pb}(h:zY p≠0):yj p=(kH,zY p):=Li h
theorem qd{p:Pb}(h:zY p=0)(h2:4096<yx p):yj p=(kH,17):=by unfold yj;rw[Lg (by simpa using h),Li h2]
theorem kg{p:Pb}(h:zY p=0)(h2:yx p<=4096):yj p=(yu p,0):=by unfold yj;rw[Lg (by simpa using h),Lg (by omega)]
def ui(ae:List (List Rd))(l:List (Nat×Nat)):List (Nat×List Rd):=l.map fun x=>(x.1,ae.getD x.2 [])
theorem prsW_snoc(ae:List (List Rd))(l:List (Nat×Nat))(x:Nat×Nat):ui ae (l++[x])=ui ae l++[(x.1,ae.getD x.2 [])]:=by simp[ui]
theorem prsW_row(ae:List (List Rd))(i:Nat):ui ae ((List.range ae.length).map fun j=>(i,j))=ae.map fun w=>(i,w):=by
 unfold ui;rw[P4];refine NZ (by simp) fun j h1 h2=>?_
 simp at h1;simp[h1]
theorem prsW_all(ae:List (List Rd)):∀(m i:Nat),ui ae (zu ae.length i m)=(List.range m).flatMap fun d=>ae.map fun w=>(i+d,w)
 | 0,_=>rfl
 | m+1,i=>by
  rw[zu,ui,LM];have h1:=prsW_row ae i;have h2:=prsW_all ae m (i+1);unfold ui at h1 h2;rw[h1,h2,List.range_succ_eq_map,NP,List.flatMap_map]
  have e:(fun d=>ae.map fun w=>(i+1+d,w))=(fun d=>ae.map fun w=>(i+(d+1),w)):=by
   funext d;rw[show i+1+d=i+(d+1) by omega]
  rw[e];rfl
theorem Qk(p:Pb)(K:Nat)(hK:p.k=(K:Int)):ui (zT p.a K 0) (zu (zT p.a K 0).length 0 p.t.cases.length)=zD p:=by
 rw[prsW_all];unfold zD;rw[hK]
 have e:(fun d=>(zT p.a K 0).map fun w=>(0+d,w))=(fun d=>(zT p.a ((K:Int).toNat) 0).map fun w=>(d,w)):=by
  funext d;rw[LO];rfl
 rw[e]
theorem vr(n:Nat):∀(m i:Nat),(zu n i m).length=m*n
 | 0,_=>by simp[zu]
 | m+1,i=>by rw[zu,Lw,vr n m (i+1)];simp;rw[Rw];omega
theorem qI(p:Pb)(l:List (Nat×List Rd)):(zK p l).2.length=l.length:=by
 have key:∀n,n<=l.length->(zK p (l.take n)).2.length=n:=by
  intro n
  induction n with
  | zero=>intro _;rfl
  | succ n ih=>
   intro hl;rw[Lr (by omega),qz,Lw,ih (by omega)];rfl
 have:=key l.length (Le _);rwa[LC] at this
theorem Ys(p:Pb)(hn:p.t.n.toNat<=5)(l:List (Nat×List Rd))(h:∀x∈l,x.2.length<=6):(zK p l).1.length<=l.length*35:=by
 have key:∀n,n<=l.length->(zK p (l.take n)).1.length<=n*35:=by
  intro n
  induction n with
  | zero=>intro _;simp[jB]
  | succ n ih=>
   intro hl;rw[Lr (by omega),qz];have h1:=ih (by omega);obtain⟨x,hx⟩:=Ki (l[n]);have h3:=h l[n] (Ld _);rw[hx] at h3 ⊢;have h2:=jE (zK p (l.take n)).1 p.t.n.toNat (yt p x.1) x.2 x.2.length;have h4:(x.2.length+1)*p.t.n.toNat<=7*5:=LU (by omega) hn;dsimp only;omega
 have:=key l.length (Le _);rwa[LC] at this
end
section
open Go.RowKit Go.Shelf
structure BlIn(p:Pb)(D B bB bM b7:Nat)(SC:Ax->Array Ax)(WR:Ba)(l:List (Nat×List Rd))(V E:Ax)(X:Ba):Prop where
 wr:Wrote (fun k=>k=bB\/k=bM\/k=b7) WR X
 bd:BdIn B bB bM p.t.n V (zK p l).1 X
 sys:X.heap[b7]?=J (Ai (SC E) 35 (0,0))
 out:OwnX JN (fun k=>D<=k/\V.ownBlock≠J k) X D E (zK p l).2
 no:∀k,V.ownBlock=J k->D<=k/\E.ownBlock≠J k
structure BlB(D B bB bM b7:Nat)(WR:Ba):Prop where
 d:WR.heap.size=D
 b:bB<D
 m:bM<D
 s:b7<D
 lo:B<=bB/\B<=bM/\B<=b7
 bs:bB≠b7
 ms:bM≠b7
section
variable {p:Pb} {D B bB bM b7:Nat} {SC:Ax->Array Ax} {WR X:Ba} {l:List (Nat×List Rd)} {V E:Ax}
theorem BlIn.big(h:BlIn p D B bB bM b7 SC WR l V E X)(hb:BlB D B bB bM b7 WR):D<=X.heap.size:=by have:=h.wr.size;have:=hb.d;omega
theorem BlIn.bel(h:BlIn p D B bB bM b7 SC WR l V E X)(hb:BlB D B bB bM b7 WR):Ar B WR X:=h.wr.below (by have:=hb.d;have:=hb.lo;have:=hb.b;omega) fun k hk hr=>by
 have:=hb.lo;rcases hr with e | e | e<;>omega
theorem BlIn.same(h:BlIn p D B bB bM b7 SC WR l V E X)(hb:BlB D B bB bM b7 WR){k:Nat}(hk:k<D)(h1:k≠bB)(h2:k≠bM)(h3:k≠b7):X.heap[k]?=WR.heap[k]?:=
 h.wr.block k (by have:=hb.d;omega) fun hr=>by rcases hr with e | e | e<;>contradiction
theorem BlIn.turn(h:BlIn p D B bB bM b7 SC WR l V E X)(hb:BlB D B bB bM b7 WR){X':Ba}{row:Option Nat}(hg:X.grownBy X' row)(hr:∀r,row=J r->D<=r/\∃o:Obj,X.heap[r]?=J o/\o.isCells=AC):BlIn p D B bB bM b7 SC WR l V E X':=by
 have hc:∀(k:Nat) (o:Obj),X.heap[k]?=J o->o.isCells=AA->X'.heap[k]?=J o:=fun k o hk ho=>(Nj hg (fun r e=>(hr r e).2) hk ho).trans hk
 obtain⟨m,hm⟩:=h.bd.num;refine⟨h.wr.trans (Wrote.of_grown (R:=fun k=>D<=k) hg (fun k e _=>(hr k e).1)) (fun k hk e=>by have:=hb.d;omega),⟨hc _ _ h.bd.hB rfl,⟨m,hm.same (hg.block bM hm.lt fun e=>by have:=(hr bM e.symm).1;have:=hb.m;omega)⟩,?_,h.bd.ne,h.bd.bm,h.bd.lo⟩,hc _ _ h.sys rfl,h.out.turn yc hg.size hc,h.no⟩;refine⟨h.bd.own.1,?_⟩;rcases h.bd.own.2 with hn | ⟨g,cap,cur,CI,di,mU,rest⟩
 . exact .inl hn
 exact .inr ⟨g,cap,cur,CI,di,hc g _ mU rfl,rest⟩
theorem BlIn.outn(h:BlIn p D B bB bM b7 SC WR l V E X)(hb:BlB D B bB bM b7 WR){w2 w3:Ba}{V':Ax}(h2:Ar X.heap.size X w2)(ho:BdOn bB bM V w2 V' w3) :
  OwnX JN (fun k=>D<=k/\V'.ownBlock≠J k) w3 D E (zK p l).2/\∀k,V'.ownBlock=J k->D<=k/\E.ownBlock≠J k:=by
 have hs:=h2.size;have hD:=h.big hb;have nT:=h.out.lt
 have h1:OwnX JN (fun k=>(D<=k/\V.ownBlock≠J k)/\V'.ownBlock≠J k) w2 D E (zK p l).2:=
  (h.out.mono (S':=fun k=>(D<=k/\V.ownBlock≠J k)/\V'.ownBlock≠J k) yc fun k hk hs=>⟨hs,fun e=>by
   rcases ho.2 k e with e | e
   . exact hs.2 e
   . omega⟩).below yc h2 (Le _)
 refine⟨(h1.keep yc (ho.1.keep fun k _ hs hr=>?_) fun k hk=>ho.1.block k (by have:=(nT k hk).2;omega) fun hr=>?_).mono yc fun k _ hs=>⟨hs.1.1,hs.2⟩,fun k hk=>?_⟩
 . rcases hr with e | e | e
   . have:=hb.b;have:=hs.1.1;omega
   . have:=hb.m;have:=hs.1.1;omega
   exact hs.1.2 e
 . have:=(nT k hk).1
   rcases hr with e | e | e
   . have:=hb.b;omega
   . have:=hb.m;omega
   exact(h.no k e).2 hk
 rcases ho.2 k hk with e | e
 . exact h.no k e
 exact⟨by omega,fun e2=>by have:=(nT k e2).2;omega⟩
theorem BlIn.lies(h:BlIn p D B bB bM b7 SC WR l V E X)(hb:BlB D B bB bM b7 WR){w2 w3 W4:Ba}{V' v:Ax}{i:Nat}{word:List Rd}{views:List (List Int)}{A2 A3:Bb}{c2 c3:Nat}(h2:Ar X.heap.size X w2)(ho:BdOn bB bM V w2 V' w3)(h4:Ar w3.heap.size w3 W4)
  (hw:RAtS (fun k=>X.heap.size<=k) w2 A2 word) (hv:LAtS (fun k=>(w2.heap.size<=k/\V'.ownBlock≠J k)\/v.ownBlock=J k) w3 A3 views) (dI:∀k,v.ownBlock=J k->w2.heap.size<=k) (hvn:∀k,V'.ownBlock=J k->v.ownBlock≠J k) (hcap:word.length<=c2) :
  JN.lies (fun k=>(D<=k/\V'.ownBlock≠J k)/\E.ownBlock≠J k) W4 [O U i,I A2 word.length c2,I A3 views.length c3] ⟨i,word,views⟩:=by
 have hs:=h2.size;have hD:=h.big hb;have nT:=h.out.lt;have hvo:=h.bd.own.lt;refine⟨A2,c2,A3,c3,rfl,?_,?_,hcap⟩
 . have h5:RAtS (fun k=>X.heap.size<=k/\k<w2.heap.size) w2 A2 word:=hw.mono fun k hk hs=>⟨hs,hk⟩
   have h6:=h5.keep (ho.1.keep fun k _ hs hr=>by
    rcases hr with e | e | e
    . have:=hb.b;omega
    . have:=hb.m;omega
    . have:=(hvo k e).2;omega)
   have h7:RAtS (fun k=>(D<=k/\V'.ownBlock≠J k)/\E.ownBlock≠J k) w3 A2 word:=h6.mono fun k _ hs=>⟨⟨by omega,fun e=>by
    rcases ho.2 k e with e | e
    . have:=(hvo k e).2;omega
    . omega⟩,fun e=>by have:=(nT k e).2;omega⟩
   exact h7.on h4
 have h7 : LAtS (fun k => (D <= k /\ V'.ownBlock ≠ J k) /\ E.ownBlock ≠ J k) w3 A3 views := hv.mono fun k _ hs => by
  rcases hs with hs | hs
  . exact⟨⟨by omega,hs.2⟩,fun e=>by have:=(nT k e).2;omega⟩
  . have:=dI k hs
    exact⟨⟨by omega,fun e=>hvn k e hs⟩,fun e=>by have:=(nT k e).2;omega⟩
 exact h7.on h4
theorem BlIn.next(h:BlIn p D B bB bM b7 SC WR l V E X)(hb:BlB D B bB bM b7 WR){w2 w3 W4 w5:Ba}{V':Ax}{x:Nat×List Rd}{cs:List Ax}{bz:List (List Ax)}{g' cap:Nat}(h2:Ar X.heap.size X w2)(ho:BdOn bB bM V w2 V' w3)(h4:Ar w3.heap.size w3 W4)
  (hd:BdIn B bB bM p.t.n V' (zI (zK p l).1 p.t.n.toNat (yt p x.1) x.2 x.2.length).1 w3)
  (ns:∀E':Ax,(SC E).setIfInBounds 9 E'=SC E')
  (aP:bz.length=(zK p l).2.length) (cK:∀(i:Nat) (h1:i<bz.length) (h2:i<(zK p l).2.length),JN.lies (fun k=>(D<=k/\V'.ownBlock≠J k)/\E.ownBlock≠J k) W4 bz[i] (zK p l).2[i])
  (hX:JN.lies (fun k=>(D<=k/\V'.ownBlock≠J k)/\E.ownBlock≠J k) W4 cs ⟨x.1,x.2,(zI (zK p l).1 p.t.n.toNat (yt p x.1) x.2 x.2.length).2⟩)
  (hr:OwnR kXn w5 D (I (J ⟨g',0,Z⟩) ((zK p l).2.length+1) cap) ((zK p l).2.length+1) (bz.flatten++cs)) (hg:W4.grownBy w5 E.ownBlock) (bL:E.ownBlock=J g'\/g'=W4.heap.size) :
  BlIn p D B bB bM b7 SC WR (l++[x]) V' (I (J ⟨g',0,Z⟩) ((zK p l).2.length+1) cap) (w5.setCell ⟨b7,9,Z⟩ (I (J ⟨g',0,Z⟩) ((zK p l).2.length+1) cap)) /\
   KeepsFrom D X (w5.setCell ⟨b7,9,Z⟩ (I (J ⟨g',0,Z⟩) ((zK p l).2.length+1) cap)) /\
   Wrote (fun k=>k=bB\/k=bM\/k=b7\/D<=k) X (w5.setCell ⟨b7,9,Z⟩ (I (J ⟨g',0,Z⟩) ((zK p l).2.length+1) cap)):=by
 have hs:=h2.size;have hD:=h.big hb;have eK:=ho.1.size;have oA:=h4.size;have nT:=h.out.lt;have hvo:=h.bd.own.lt;obtain⟨_,eM⟩:=h.outn hb h2 ho;have ia:=hr.lt g' rfl;have aL:=hb.lo;obtain⟨e1,e2,e3⟩:bB<D/\bM<D/\b7<D:=⟨hb.b,hb.m,hb.s⟩;have hEb:∀k,k<D->E.ownBlock≠J k:=fun k hk e=>by have:=(nT k e).1;omega
 have hV7:∀k,V'.ownBlock=J k->D<=k:=fun k e=>(eM k e).1
 have hW:Wrote (fun k=>k=bB\/k=bM\/k=b7\/V.ownBlock=J k\/E.ownBlock=J k) X (w5.setCell ⟨b7,9,Z⟩ (I (J ⟨g',0,Z⟩) ((zK p l).2.length+1) cap)):=by
  refine((((Wrote.of_below (R:=fun k=>k=bB\/k=bM\/k=b7\/V.ownBlock=J k\/E.ownBlock=J k) h2).trans ho.1 fun k _ hr=>?_).trans (Wrote.of_below (R:=fun _=>False) h4) fun _ _ h=>h.elim).trans (Wrote.of_grown (R:=fun k=>E.ownBlock=J k) hg fun _ e _=>e) fun k _ e=>?_).trans (Wrote.of_grown (R:=fun k=>k=b7) (zV w5 b7 9 _) fun k e _=>by cases e;rfl) fun k _ e=>?_
  . rcases hr with e | e | e
    . exact .inl e
    . exact .inr (.inl e)
    exact .inr (.inr (.inr (.inl e)))
  . exact .inr (.inr (.inr (.inr e)))
  exact .inr (.inr (.inl e))
 have bN:w5.heap[b7]?=J (Ai (SC E) 35 (0,0)):=by
  refine(hg.block b7 (by omega) fun e=>hEb b7 e3 e.symm).trans ((h4.block b7 (by omega)).trans ((ho.1.block b7 (by omega) fun hr=>?_).trans ((h2.block b7 (by omega)).trans h.sys)));rcases hr with e | e | e
  . exact hb.bs e.symm
  . exact hb.ms e.symm
  have:=(h.no b7 e).1;omega
 have IE:=((hd.on h4).grown hg (fun e=>hEb bB e1 e) (fun e=>hEb bM e2 e) (fun k hk e=>(eM k hk).2 e)).set (g:=b7) (fun e=>hb.bs e.symm) (fun e=>hb.ms e.symm) (fun e=>by have:=hV7 b7 e;omega) 9 (I (J ⟨g',0,Z⟩) ((zK p l).2.length+1) cap);have fH:=qz p l x;refine⟨⟨?_,?_,?_,?_,?_⟩,?_,hW.more fun k _ hr=>?_⟩
 . refine h.wr.trans hW fun k hk hr=>?_
   have:=hb.d;rcases hr with e | e | e | e | e
   . exact .inl e
   . exact .inr (.inl e)
   . exact .inr (.inr e)
   . have:=(h.no k e).1;omega
   have:=(nT k e).1;omega
 . rw[fH];exact IE
 . rw[Lq w5 b7 9 _ _ _ bN,ns]
 . rw[fH]
   have h8:=OwnX.app yc aP cK hX hr hg bL;refine h8.kept yc (zV w5 b7 9 _) (.inr (fun e=>?_)) (fun k e=>.inl fun hs=>?_)
   . have:g'=b7:=by simpa[Value.ownBlock] using e
     omega
   cases e;have:=hs.1;omega
 . intro k hk
   refine⟨hV7 k hk,fun e=>?_⟩;have:g'=k:=by simpa[Value.ownBlock] using e
   subst this;rcases bL with e | e
   . exact(eM g' hk).2 e
   have:=(hd.own.lt g' hk).2;omega
 . refine⟨hW.size,fun k o hk mB hcf=>(hW.block k (zj mB) fun hr=>?_).trans mB⟩
   rcases hr with e | e | e | e | e
   . omega
   . omega
   . omega
   . rcases h.bd.own.2 with ⟨hn,_⟩ | ⟨g,aD,cur,CI,_,mU,_⟩
     . rw[hn] at e;cases e
     rw[CI] at e;cases e;rw[mU] at mB;cases mB;cases hcf
   obtain⟨css2,_,ef,_⟩:=h.out;rcases ef.2 with ⟨hn,_⟩ | ⟨g,aD,cur,CI,_,mU,_⟩
   . rw[hn] at e;cases e
   rw[CI] at e;cases e;rw[mU] at mB;cases mB;cases hcf
 rcases hr with e | e | e | e | e
 . exact .inl e
 . exact .inr (.inl e)
 . exact .inr (.inr (.inl e))
 . exact .inr (.inr (.inr (h.no k e).1))
 exact .inr (.inr (.inr (nT k e).1))
end
end
section
open Go.RowKit
theorem jT(w:Ba)(c1 c2 c3:Array Ax)(t1 t2 t3:TypeId):∃W0,((w.alloc (Ai c1 t1)).alloc (Ai c2 t2)).alloc (Ai c3 t3)=W0/\W0.heap[w.heap.size]?=J (Ai c1 t1 (0,0))/\W0.heap[w.heap.size+1]?=J (Ai c2 t2 (0,0)) /\
  W0.heap[w.heap.size+1+1]?=J (Ai c3 t3 (0,0))/\W0.heap.size=w.heap.size+3/\Ar w.heap.size w W0:=
 ⟨_,rfl,yU (yU (zy _ _) _) _,yU (by have:=zy (w.alloc (Ai c1 t1)) (Ai c2 t2);rwa[Nk] at this) _,
  by have:=zy ((w.alloc (Ai c1 t1)).alloc (Ai c2 t2)) (Ai c3 t3);rwa[Nk,Nk] at this,by simp,bel3 w _ _ _⟩
def PutCut(n:Int)(vs:List Vw)(v:Vw)(g:Nat)(w1:Ba)(s:Ax)(wx:Ba):Prop:=
 s=Al (J ⟨g,0,Z⟩)/\∃A cap,wx.cell? ⟨g,0,Z⟩=J (O U n)/\wx.cell? ⟨g,1,Z⟩=J (I A (vs.length+1) cap)/\OwnV wx (g+1) (I A (vs.length+1) cap) (vs++[v])/\Ar g w1 wx
theorem put_any(n:Int)(A:Bb)(cap:Nat)(vs:List Vw)(v:Vw)(w:Ba)(hT:TArg w A cap vs)(hl:vs.length<100000) :
  As Aq 128 #[Ak #[O U n,I A vs.length cap],.agg v.cells] w (RetPut n A cap vs v w):=by
 have HT:=zH hT;have nS:=hT.few;go_enter func128,ntmps128;unfold Vw.cells;go_wp2_with fail;obtain⟨W0,dN,b0,b1,b2,aX,ce⟩:=jT w #[O U n,I A vs.length cap] v.cells #[O U 0,I Z 0 0] 32 111 32;unfold Vw.cells at dN;rw[dN];have c0:W0.heap[w.heap.size+1]?=J (Ai v.cells 111 (0,0)):=b1;have Td:=HT.out.keep ce;refine(index_any n A cap vs v W0 W0.heap.size (Le _) Td.rows (by omega)).mono ?_;rintro e w1 ⟨rfl,hb⟩;have HV:Aw (w1.heap[w.heap.size+1]?=J (Ai v.cells 111 (0,0))):=Lb hb (by omega) c0;have d0:=Lb hb (by omega) b0;have d2:=Lb hb (by omega) b2;have MX:=zH (Td.keep hb);have B1:Aw (Ar w.heap.size w w1):=ce.trans (hb.mono (by omega));have l0:w.heap.size+3<=w1.heap.size:=by have:=hb.size;omega
 obtain⟨t0,t1,_⟩:=Ka d0;obtain⟨r0,r1,_⟩:=Ka d2;have f0:=zi d2 0;have f1:=zi d2 1
 by_cases hv:v∈vs
 . have hz:=zH hv
   have h0:0<=jj vs v:=idxE_yes hv;go_wp2_with fail;have cA:Aw (Ar w.heap.size w ((w1.setCell ⟨w.heap.size+1+1,0,Z⟩ (O U n)).setCell ⟨w.heap.size+1+1,1,Z⟩ (I A vs.length cap))):=(B1.out.setCell (by simp;omega) _).setCell (by simp;omega) _;exact LG (v:=.tuple #[Ak #[O U n,I A vs.length cap],O U (jj vs v)]) (by simp[results,results128,go_sem,r0,r1]) rfl ⟨cA.out,fun _=>rfl,fun h=>absurd hz.out h⟩
 have hz:Aw (v∉vs):=hv;have h0:jj vs v=-1:=by unfold jj;rw[Lg hv]
 have h1:jj vs v<0:=by omega
 go_upto_region 5 with fail
 obtain⟨W2,iU,g0,dw,cH⟩:=zk w1 #[O U n,I Z 0 0] 32;rw[iU];clear iU;have ET:W2.heap[w.heap.size+1]?=J (Ai v.cells 111 (0,0)):=Lb cH (by omega) HV.out;have D0:W2.heap[w.heap.size]?=J (Ai #[O U n,I A vs.length cap] 32 (0,0)):=Lb cH (by omega) d0;have D2:W2.heap[w.heap.size+1+1]?=J (Ai #[O U 0,I Z 0 0] 32 (0,0)):=Lb cH (by omega) d2;have x0:W2.cell? ⟨w.heap.size+1,0,Z⟩=J (O U v.p):=zh ET 0 rfl;have x1:W2.cell? ⟨w.heap.size+1,1,Z⟩=J (O U v.r):=zh ET 1 rfl;have x2:W2.cell? ⟨w.heap.size+1,2,Z⟩=J (O U v.i):=zh ET 2 rfl;have x3:W2.cell? ⟨w.heap.size+1,3,Z⟩=J (O U v.h0):=zh ET 3 rfl;have x4:W2.cell? ⟨w.heap.size+1,4,Z⟩=J (O U v.h1):=zh ET 4 rfl;have x5:W2.cell? ⟨w.heap.size+1,5,Z⟩=J (O U v.h2):=zh ET 5 rfl;have x6:W2.cell? ⟨w.heap.size+1,6,Z⟩=J (O U v.h3):=zh ET 6 rfl;have x7:W2.cell? ⟨w.heap.size+1,7,Z⟩=J (O U v.h4):=zh ET 7 rfl;have s1:W2.cell? ⟨w.heap.size,1,Z⟩=J (I A vs.length cap):=zh D0 1 rfl;have y1:W2.cell? ⟨w1.heap.size,1,Z⟩=J (I Z 0 0):=zh g0 1 rfl;have y0:W2.cell? ⟨w1.heap.size,0,Z⟩=J (O U n):=zh g0 0 rfl;have BX:=zH cH;have l3:w.heap.size<W2.heap.size:=by omega
 have z1:=zi g0 1;have l2:w1.heap.size<W2.heap.size:=by omega
 have IP:=zH (MX.out.keep cH);have B2:Aw (Ar w.heap.size w W2):=Lc B1.out cH;have bK:=zH d0;have nk:=zH d2;clear d0 d2 t0 t1 r0 r1 f0 f1 cH dw
 go_cut [7] (fun s7 wx=>PutCut n vs v w1.heap.size w1 s7 wx)
 case first=>
  go_region_law ((first
    | (refine step_appv0 (by rfl) (.tmp 19) (.tmp 21) (by rfl) W2.heap.size (by rfl) A cap vs (by rfl) (by first | exact IP.out.keep (Ll _ _).drew | exact IP.out.keep (ye W2 _).drew) (by simp) ?_;intro A1 TJ wA fP dy;have hG:W2.grownBy wA Z:=(by first | exact⟨dy.os,dy.tape,dy.output,dy.size,dy.block⟩ | exact xF (o:=Ai v.cells 111) ⟨dy.os,dy.tape,dy.output,dy.size,dy.block⟩);have e0:=yF hG x0 (by simp);have e1:=yF hG x1 (by simp);have e2:=yF hG x2 (by simp);have e3:=yF hG x3 (by simp);have e4:=yF hG x4 (by simp);have e5:=yF hG x5 (by simp);have e6:=yF hG x6 (by simp);have e7:=yF hG x7 (by simp);have e8:=yF hG y1 (by simp);have e9:=uS hG z1 l2 (by simp);have Bd:W2.heap.size<=wA.heap.size:=hG.size)
    | (refine Ym (by rfl) (.tmp 22) (.tmp 24) (by rfl) W2.heap.size _ vs v (by rfl) (fP.alloc _) (by omega) wA.heap.size (by rfl) (zy wA _) (by first | omega | (simp;omega)) ?_;intro A3 mm wB tS bD;have hH:wA.grownBy wB (I A1 vs.length TJ).ownBlock:=(by first | exact⟨bD.os,bD.tape,bD.output,bD.size,bD.block⟩ | exact xF (o:=Ai v.cells 111) ⟨bD.os,bD.tape,bD.output,bD.size,bD.block⟩);have h8:=yF hH e8 (fP.ne (by omega));have h9:=uS hH e9 (by omega) (fP.ne (by omega));have oG:Ar w1.heap.size w1 wB:=(BX.out.grown hG (by omega) (by simp)).grown hH (by omega) (fun k hk=>by have:=(fP.lt k hk).1;omega);have rW:=yF hH (yF hG y0 (by simp)) (fP.ne (by omega)))
    | (refine Ym (by rfl) (.tmp 22) (.tmp 24) (by rfl) W2.heap.size _ vs v (by rfl) (fP) (by omega) W2.heap.size (by rfl) (grown_heap dy (zy W2 _) (by simp)) (by first | omega | (simp;omega)) ?_;intro A3 mm wB tS bD;have hH:wA.grownBy wB (I A1 vs.length TJ).ownBlock:=(by first | exact⟨bD.os,bD.tape,bD.output,bD.size,bD.block⟩ | exact xF (o:=Ai v.cells 111) ⟨bD.os,bD.tape,bD.output,bD.size,bD.block⟩);have h8:=yF hH e8 (fP.ne (by omega));have h9:=uS hH e9 (by omega) (fP.ne (by omega));have oG:Ar w1.heap.size w1 wB:=(BX.out.grown hG (by omega) (by simp)).grown hH (by omega) (fun k hk=>by have:=(fP.lt k hk).1;omega);have rW:=yF hH (yF hG y0 (by simp)) (fP.ne (by omega)))))
  all_goals
   go_wp2_with fail
   go_meet
   refine⟨rfl,A3,mm,by simp[go_sem,rW],by simp[go_sem,h8],?_,oG.setCell (by simp) _⟩;exact(OwnV.kept tS (uR wB w1.heap.size 1 _) (Or.inr (tS.ne l2))).low l2
 obtain⟨rfl,A3,mm,c0,c1,hT3,ct⟩:=hcut;have D0:=Lb ct (by omega) bK.out;have D2:=Lb ct (by omega) nk.out;have t1:wc.cell? ⟨w.heap.size,1,Z⟩=J (I A vs.length cap):=zh D0 1 rfl;obtain⟨r0,r1,_⟩:=Ka D2;have f0:=zi D2 0;have f1:=zi D2 1;have Da:=zH hT3;have aJ:Aw (Ar w.heap.size w wc):=Lc B1.out ct;go_wp2_with fail
 go_region
 all_goals
  go_wp2_with fail;have cA:Aw (Ar w.heap.size w (((wc.setCell ⟨w.heap.size+1+1,0,Z⟩ (O U n)).setCell ⟨w.heap.size+1+1,1,Z⟩ (I A3 (vs.length+1) mm)).drew)):=((aJ.out.setCell (by simp;omega) _).setCell (by simp;omega) _).drew
  have hfin:OwnV ((wc.setCell ⟨w.heap.size+1+1,0,Z⟩ (O U n)).setCell ⟨w.heap.size+1+1,1,Z⟩ (I A3 (vs.length+1) mm)) (w1.heap.size+1) (I A3 (vs.length+1) mm) (vs++[v]):=
   (Da.out.kept (uR wc (w.heap.size+1+1) 0 _) (Or.inr (Da.out.ne (by omega)))).kept (uR _ (w.heap.size+1+1) 1 _) (Or.inr (Da.out.ne (by omega)))
  exact LG (v:=.tuple #[Ak #[O U n,I A3 (vs.length+1) mm],O U vs.length]) (by simp[results,results128,go_sem,r0,r1]) rfl ⟨cA.out,fun h=>absurd h hz.out,fun _=>⟨A3,mm,rfl,(OwnV.drew hfin).low (by have:=B1.out.size;omega)⟩⟩
end
end Go.Proofs.YtjedjoeidcbffaaGreatDoor
