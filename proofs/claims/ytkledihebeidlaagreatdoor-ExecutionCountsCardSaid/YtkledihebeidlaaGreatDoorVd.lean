/- Merged. -/
import Derived.Test.YtkledihebeidlaaGreatDoorVc
import Derived.Laws.Pointers
import Derived.Laws.CopyOwn
import Derived.Deep.RegionLaw
import Derived.IntWalk
import Derived.Maps.RangeWalk
import Derived.Deep.LoopGhost
import Derived.Laws.EntriesVeiled
open Go.Proofs.Tryz
open Go.Value renaming int->O,slice->I,agg->Aj,pointer->Ak
open Go.IntKind renaming i64->U
open Option renaming none->Z,some->J
open Go.Obj renaming cells->Ah
open Go.Ending renaming returned->Am
open Go.Proofs.Tryz renaming prog->An
open Go.RowKit renaming Below->Ao,intOf->Aq,Hid->As
open Go renaming Calls->Ap,Value->Au
open Bool renaming true->Av,false->Ax
open Nat renaming sub_zero->Pa
open List renaming flatMap_cons->Ny,sum_cons->Rn,length_replicate->N5,getD_cons_succ->Ri
namespace Go.Proofs.YtkledihebeidlaaGreatDoor
abbrev Rj:=@List.flatMap_append
abbrev Pw:=@Go.World.cell?_alloc_lt
abbrev Pt:=@List.ext_getElem
abbrev RH:=@Go.wpStill_nil
abbrev Pk:=@Nat.le_mul_of_pos_right
set_option maxRecDepth 100000
set_option maxHeartbeats 4000000
section
open Go.RowKit
attribute [local go_sem] Oper.semAt_some
theorem QF(w:Ba)(c1:Array Au)(t1:TypeId):∃W0,(w.alloc (Ah c1 t1)).drew=W0/\W0.heap[w.heap.size]?=J (Ah c1 t1 (0,0))/\W0.heap.size=w.heap.size+1/\Ao w.heap.size w W0:=
 ⟨_,rfl,zg w _,by show(w.alloc _).heap.size=_;simp,(zt w _).drew⟩
def yz(pre:List Rd)(l:List (List Rd)):List (List Rd):=l.map (pre++·)
theorem Qc(pre:List Rd):yz pre [[]]=[pre]:=by simp[yz]
theorem YK(pre:List Rd)(r:Rd)(l:List (List Rd)):yz pre (l.map (r::·))=yz (pre++[r]) l:=by simp[yz]
def zT(a:Ad)(k:Nat)(M:List Mv)(j:Nat):List (List Rd):=(M.take j).flatMap fun m=>(zo a k m.to).map (m.r::·)
theorem jz(a:Ad)(k:Nat)(M:List Mv):zT a k M 0=[]:=by simp[zT]
theorem xV(a:Ad)(k:Nat)(M:List Mv){j:Nat}(h:j<M.length):zT a k M (j+1)=zT a k M j++(zo a k M[j].to).map (M[j].r::·):=by
 unfold zT;rw[Lu h,Rj];simp
theorem vF(a:Ad)(k:Nat){s:Nat}(h:s<a.sts.length):zT a k a.sts[s] a.sts[s].length=zo a (k+1) (s:Int):=by
 unfold zT;rw[zo,LJ,show a.at_ (s:Int)=a.sts[s] by unfold Ad.at_;rw[Lv,Lf,Lg h];rfl]
theorem vE(a:Ad)(k:Nat)(M:List Mv)(j:Nat):(zT a k M j).length<=(zT a k M M.length).length:=by
 unfold zT;rw[LJ]
 conv=>rhs;rw[<-Ra j M,Rj,Lq]
 omega
def Fx(bR bO bA bF g k:Nat):Prop:=k≠bR/\k≠bO/\k≠bA/\k≠bF/\k≠g
structure FromIn(a:Ad)(K:Nat)(SV:Bb)(ks B bR bO bA bF g:Nat)(V:Au)(pre:List Rd)(outs:List (List Rd))(w0 w:Ba):Prop where
 hR:w.heap[bR]?=J (Ah #[O U K] 3 (0,0))
 hO:w.heap[bO]?=J (Ah #[V] 104 (0,0))
 hA:w.heap[bA]?=J (Ah #[O U a.n,I SV a.sts.length ks] 27 (0,0))
 hF:w.heap[bF]?=J (Ah #[.func (.func 82) #[] #[Ak (J ⟨bR,0,Z⟩),Ak (J ⟨bO,0,Z⟩),Ak (J ⟨bA,0,Z⟩),Ak (J ⟨bF,0,Z⟩)]] 160 (0,0))
 out:OwnX cWd (Fx bR bO bA bF g) w B V outs
 ne:∀k,V.ownBlock=J k->Fx bR bO bA bF g k
 buf:OwnR kRd w B (I (J ⟨g,0,Z⟩) pre.length K) pre.length (yf pre)
 bel:Ao B w0 w
theorem FromIn.fresh{a:Ad}{K:Nat}{SV:Bb}{ks B bR bO bA bF g:Nat}{V:Au}{pre:List Rd}{outs:List (List Rd)}{w0 w:Ba}(H:FromIn a K SV ks B bR bO bA bF g V pre outs w0 w){k:Nat}(hk:w.heap.size<=k):Fx bR bO bA bF g k:=by
 have h1:=zd H.hR;have h2:=zd H.hO;have h3:=zd H.hA;have h4:=zd H.hF;have h5:=(H.buf.lt g rfl).2;exact⟨by omega,by omega,by omega,by omega,by omega⟩
structure FromB(B bR bO bA bF g:Nat):Prop where
 r:B<=bR
 o:B<=bO
 a:B<=bA
 f:B<=bF
 ro:bR≠bO
 ao:bA≠bO
 fo:bF≠bO
 gr:g≠bR
 go:g≠bO
 ga:g≠bA
 gf:g≠bF
 g:B<=g
def jV(a:Ad)(K:Nat)(SV:Bb)(ks k:Nat):Prop:=∀(s:Int) (pre:List Rd) (outs:List (List Rd)) (V:Au) (B bR bO bA bF g:Nat) (w0 w:Ba),
 pre.length+k=K->(k=0\/(0<=s/\s<a.sts.length))->outs.length+(zo a k s).length<=5000->FromB B bR bO bA bF g->SAt w0 B SV a.sts->FromIn a K SV ks B bR bO bA bF g V pre outs w0 w ->
 Ap An 82 #[O U s,I (J ⟨g,0,Z⟩) pre.length K,Ak (J ⟨bR,0,Z⟩),Ak (J ⟨bO,0,Z⟩),Ak (J ⟨bA,0,Z⟩),Ak (J ⟨bF,0,Z⟩)] w
  fun e w'=>(∃v,e=Am v)/\∃V',FromIn a K SV ks B bR bO bA bF g V' pre (outs++yz pre (zo a k s)) w0 w'
theorem FromIn.push{a:Ad}{K:Nat}{SV:Bb}{ks B bR bO bA bF g:Nat}{V:Au}{pre:List Rd}{outs:List (List Rd)}{w0 w W w3:Ba}{x:List Rd}{aD:List (List Au)}{A2:Bb}{c2 g' cap:Nat}
  (H:FromIn a K SV ks B bR bO bA bF g V pre outs w0 w) (hB:FromB B bR bO bA bF g) (hw:Ao w.heap.size w W) (hl:aD.length=outs.length)
  (h3:∀(i:Nat) (h1:i<aD.length) (h2:i<outs.length),cWd.lies (fun k=>Fx bR bO bA bF g k/\V.ownBlock≠J k) W aD[i] outs[i])
  (hx:RAtS (fun k=>w.heap.size<=k) W A2 x) (SS:x.length<=c2) (hr:OwnR kWd w3 B (I (J ⟨g',0,Z⟩) (outs.length+1) cap) (outs.length+1) (aD.flatten++[I A2 x.length c2]))
  (hg:W.grownBy w3 V.ownBlock) (bz:V.ownBlock=J g'\/g'=W.heap.size) :
  FromIn a K SV ks B bR bO bA bF g (I (J ⟨g',0,Z⟩) (outs.length+1) cap) pre (outs++[x]) w0 (w3.setCell ⟨bO,0,Z⟩ (I (J ⟨g',0,Z⟩) (outs.length+1) cap)):=by
 have ac:=H.out.lt;have oN:g<w.heap.size:=(H.buf.lt g rfl).2;have oh:=hw.size;have k1:=zd H.hR;have k2:=zd H.hO;have k3:=zd H.hA;have k4:=zd H.hF
 have hk:∀b,b<w.heap.size->V.ownBlock≠J b->b≠bO->(w3.setCell ⟨bO,0,Z⟩ (I (J ⟨g',0,Z⟩) (outs.length+1) cap)).heap[b]?=w.heap[b]?:=fun b h1 h0 h2=>
  (Le _ _ _ b h2).trans ((hg.block b (by omega) (fun e=>h0 e.symm)).trans (hw.block b h1))
 have lp:w3.heap[bO]?=J (Ah #[V] 104 (0,0)):=(hg.block bO (by omega) (fun e=>(H.ne bO e.symm).2.1 rfl)).trans ((hw.block bO (by omega)).trans H.hO);obtain⟨x1,x2,x3⟩:=j6 lp (I (J ⟨g',0,Z⟩) (outs.length+1) cap);have hX:cWd.lies (fun k=>Fx bR bO bA bF g k/\V.ownBlock≠J k) W [I A2 x.length c2] x:=⟨A2,c2,rfl,hx.mono fun k _ hk=>⟨H.fresh hk,fun e=>by have:=(ac k e).2;omega⟩,SS⟩;have hO:=OwnX.app xH hl h3 hX hr hg bz;have Ch:B<=g'/\g'<w3.heap.size:=hr.lt g' rfl
 have MY:Fx bR bO bA bF g g':=by
  rcases bz with e | e
  . exact H.ne g' e
  exact H.fresh (by omega)
 have FN:V.ownBlock≠J g:=fun e=>(H.ne g e).2.2.2.2 rfl
 refine⟨(hk _ k1 (fun e=>(H.ne _ e).1 rfl) hB.ro).trans H.hR,x1,(hk _ k3 (fun e=>(H.ne _ e).2.2.1 rfl) hB.ao).trans H.hA,(hk _ k4 (fun e=>(H.ne _ e).2.2.2.1 rfl) hB.fo).trans H.hF,?_,?_,?_,?_⟩
 . refine hO.kept xH (yo w3 bO 0 _) (.inr (fun e=>?_)) (fun k e=>.inl fun hs=>?_)
   . have e2:g'=bO:=by simpa[Value.ownBlock] using e
     exact MY.2.1 e2
   cases e
   exact hs.2.1 rfl
 . intro k e
   have e2:g'=k:=by simpa[Value.ownBlock] using e
   subst e2;exact MY
 . refine((H.buf.below hw (Lh _)).kept hg (.inr (fun e=>FN e.symm))).kept (yo w3 bO 0 _) (.inr (fun e=>?_))
   have e2:g=bO:=by simpa[Value.ownBlock] using e
   exact hB.go e2
 have h1:=hB.o;have h2:=hB.g;exact((H.bel.trans (hw.mono (by omega))).grown hg (by omega) (fun k hk=>(ac k hk).1)).setCell (by show B<=bO;omega) _
theorem JL(a:Ad)(K:Nat)(hK:K<=6)(SV:Bb)(ks:Nat):jV a K SV ks 0:=by
 intro s pre outs V B bR bO bA bF g w0 w eH _ aC hB hS H;obtain rfl:K=pre.length:=by omega
 have aC:outs.length<=5000:=by omega
 have HI:=zH H;have bJ:=zH hB;have r0:=za H.hR 0 rfl;have o0:=za H.hO 0 rfl
 have rV:Raw w.drew (J ⟨g,0,Z⟩) pre.length (yf pre):=by
  obtain⟨A,cap,e,_,_,h⟩:=H.buf.raw
  cases e;exact h
 have HC:=zH (gV (J ⟨g,0,Z⟩) pre.length pre.length (yf pre) w.drew (yZ pre) rV (jm pre) (by omega));go_enter func82,ntmps82;go_wp2_with fail;refine zE [(0,Av),(1,Av),(2,Ax),(3,Ax),(4,Ax),(5,Ax)] (fun W=>W.cell? ⟨bO,0,Z⟩=J V) (by kernel_rfl) (by kernel_rfl) (by exact o0) ?_
 repeat
  apply zX rfl
  . intro K' ai W hW
    go_simp;exact ai
 refine zG rfl ?_;intro K' ai;go_simp;refine HC.out.mono ?_;rintro e w2 ⟨v2,rfl,cC,ae⟩;obtain⟨A2,c2,rfl,hc2,ia,ew⟩:=jl cC;have ae:Ao w.heap.size w w2:=vx ae;have ew:RAtS (fun k=>w.heap.size<=k) w2 A2 pre:=ew;have tf:=HI.out.hO;have o2:w2.cell? ⟨bO,0,Z⟩=J V:=(ae.cell (p:=⟨bO,0,Z⟩) (zd tf)).trans o0;refine ai _ _ o2 ?_;refine zG rfl ?_;intro K' ai;go_simp;have GU:bO<w2.heap.size:=by have:=zd tf;have:=ae.size;omega
 refine ai _ _ ((Pw _ _ _ GU).trans o2) ?_;refine zG rfl ?_;intro K' ai;obtain⟨W2,dx⟩:=Kh (w2.alloc (Ah #[I A2 pre.length c2] 39));have fN:=zg w2 (Ah #[I A2 pre.length c2] 39);have aO:Ao w.heap.size w W2:=by rw[<-dx];exact ae.alloc ae.size _
 have CQ:RAtS (fun k=>w.heap.size<=k) W2 A2 pre:=by rw[<-dx];exact ew.keep (KeepB.alloc _ _ _)
 rw[dx] at fN ⊢;obtain⟨aD,bk,fb,bj⟩:=HI.out.out.below xH aO (Lh _);have bC:B<=W2.heap.size:=by have:=bJ.out.g;have:=(HI.out.buf.lt g rfl).2;have:=aO.size;omega
 refine Jd Xy (by rfl) (.tmp 14) (.tmp 17) (by rfl) B V outs.length aD.flatten (by rfl) fb w2.heap.size #[I A2 pre.length c2] (by rfl) fN rfl (by simp[Value.oneCell']) (by omega) bC _ rfl ?_;intro g' cap w3 hr aK bz Gh
 have o3:w3.cell? ⟨bO,0,Z⟩=J V:=by
  refine(L6 (aK.block bO (by have:=zd tf;have:=aO.size;omega) (fun e=>?_))).trans ((aO.cell (p:=⟨bO,0,Z⟩) (zd tf)).trans o0);exact(HI.out.ne bO e.symm).2.1 rfl
 have f3:w3.frozen? ⟨bO,0,Z⟩=Ax:=by
  refine zb (cs:=#[V]) (t:=104) ((aK.block bO (by have:=zd tf;have:=aO.size;omega) (fun e=>?_)).trans ((aO.block bO (zd tf)).trans tf)) 0;exact(HI.out.ne bO e.symm).2.1 rfl
 have HP:=zH (HI.out.push bJ.out aO bk bj CQ hc2 hr aK bz);refine ai _ _ o3 ?_;refine xb rfl (by kernel_rfl) ?_;intro K' ai;go_simp;refine ai (fun _=>True) _ _ trivial ?_;refine yh ?_;go_simp;go_wp2_with fail;refine Nb (Rq rfl _ _ _) rfl ?_;refine⟨⟨.tuple #[],rfl⟩,I (J ⟨g',0,Z⟩) (outs.length+1) cap,?_⟩;rw[show zo a 0 s=[[]] from rfl,Qc];exact HP.out
theorem FromIn.ext{a:Ad}{K:Nat}{SV:Bb}{ks B bR bO bA bF g:Nat}{V:Au}{pre:List Rd}{outs:List (List Rd)}{w0 w W w4:Ba}{r:Rd}
  (H:FromIn a K SV ks B bR bO bA bF g V pre outs w0 w) (hB:FromB B bR bO bA bF g) (hw:Ao w.heap.size w W)
  (hr:OwnR kRd w4 B (I (J ⟨g,0,Z⟩) (pre.length+1) K) (pre.length+1) (yf pre++r.cells.toList)) (hg:W.grownBy w4 (J g)) :
  FromIn a K SV ks B bR bO bA bF g V (pre++[r]) outs w0 w4:=by
 have oN:g<w.heap.size:=(H.buf.lt g rfl).2;have oh:=hw.size;have k1:=zd H.hR;have k2:=zd H.hO;have k3:=zd H.hA;have k4:=zd H.hF;have hk:∀b,b<w.heap.size->g≠b->w4.heap[b]?=w.heap[b]?:=fun b h1 h2=>(hg.block b (by omega) (fun e=>by cases e;exact h2 rfl)).trans (hw.block b h1)
 have FN:V.ownBlock≠J g:=fun e=>(H.ne g e).2.2.2.2 rfl
 refine⟨(hk _ k1 hB.gr).trans H.hR,(hk _ k2 hB.go).trans H.hO,(hk _ k3 hB.ga).trans H.hA,(hk _ k4 hB.gf).trans H.hF,?_,H.ne,?_,?_⟩
 . exact(H.out.below xH hw (Lh _)).kept xH hg (.inr FN) (fun k e=>.inl fun hs=>hs.2.2.2.2 (by cases e;rfl))
 . rw[Lq,kZ];exact hr
 have:=hB.g;exact(H.bel.trans (hw.mono (by omega))).grown hg (by omega) (fun k hk=>by cases hk;omega)
theorem FromIn.cut{a:Ad}{K:Nat}{SV:Bb}{ks B bR bO bA bF g:Nat}{V:Au}{pre:List Rd}{outs:List (List Rd)}{w0 w:Ba}{r:Rd}
  (H:FromIn a K SV ks B bR bO bA bF g V (pre++[r]) outs w0 w):FromIn a K SV ks B bR bO bA bF g V pre outs w0 w:=by
 refine⟨H.hR,H.hO,H.hA,H.hF,H.out,H.ne,?_,H.bel⟩;have h:=H.buf;rw[kZ,Lq] at h;exact h.pop (yZ pre)
theorem Qd(pre:List Rd)(l:List (List Rd)):(yz pre l).length=l.length:=by simp[yz]
theorem gh(pre:List Rd)(l m:List (List Rd)):yz pre (l++m)=yz pre l++yz pre m:=by simp[yz]
theorem JM(a:Ad)(K:Nat)(SV:Bb)(ks k:Nat)(hz:zj a a.sts=0)(hf:FewA a)(ih:jV a K SV ks k):jV a K SV ks (k+1):=by
 intro s pre outs V B bR bO bA bF g w0 w eH lk aC hB hS H;have hs:0<=s/\s<a.sts.length:=lk.resolve_left (by omega);obtain⟨S,rfl⟩:=Lr hs.1;have iC:S<a.sts.length:=by omega
 have HI:=zH H;have bJ:=zH hB;have Kt:=zH ih;have dm:=zH hS;have HZ:=zH (@xa a hz);have my:=hf.each (Ld iC);have fR:=zH (vF a k iC);have Dz:=zH aC;have tj:=zH (fun (m:Mv) (hm:m∈a.sts[S])=>(Nr.2 ⟨_,Ld iC,hm⟩:m∈a.mvs));have r0:=za H.hR 0 rfl;have a1:=za H.hA 1 rfl;obtain⟨bs,os,A',lF,Ay,bC,s0,sP⟩:=(hS.keep H.bel).at_ S iC;have Tf:SV.map (fun x=>x)=J ⟨bs,os,Z⟩:=by rw[Ay];rfl
 have pm:As (∀W,Ao B w0 W->MAt W B A' a.sts[S]):=by
  intro W hW;obtain⟨bs2,os2,A2,cs2,CM,_,s2,ra⟩:=(hS.keep hW).at_ S iC;rw[Ay] at CM
  cases CM
  have e1:=(hS.keep H.bel).at_ S iC;obtain⟨bs3,os3,A3,cs3,CL,Cv,s3,UF⟩:=hS.at_ S iC;rw[Ay] at CL
  cases CL
  have x1:=(H.bel.cell (p:=⟨bs,os+S,Z⟩) Cv).trans s3;have x2:=(hW.cell (p:=⟨bs,os+S,Z⟩) Cv).trans s3;rw[x1] at s0
  cases s0
  exact UF.keep hW
 clear Tf sP hS;subst Ay;obtain⟨M,hM⟩:=Kh (a.sts[S]);rw[hM] at s0 pm fR tj my;have e0:((pre.length:Int)==(K:Int))=Ax:=by simp;omega
 have bq:(S:Int)<(a.sts.length:Int):=by omega
 have dq:(0:Int)<=(S:Int):=by omega
 clear H hB hM hz hf ih hs lk;go_enter func82,ntmps82;go_wp2_with fail;clear r0 a1 s0 e0
 go_loopw [25] (fun i wr=>∃(j:Nat) (V':Au),j<=M.length/\i=O U (j:Int)/\As (FromIn a K (J ⟨bs,os,Z⟩) ks B bR bO bA bF g V' pre (outs++yz pre (zT a k M j)) w0 wr)) (fun i _=>M.length-(Aq i).toNat)
 case atStart=>exact⟨0,V,by omega,rfl,by rw[jz,show yz pre []=[] from rfl,Nf];exact HI.out⟩
 obtain⟨j,V',hj,rfl,HJ⟩:=hrel
 by_cases bg:j<M.length
 case neg=>
  obtain rfl:j=M.length:=by omega
  go_wp2_with fail
  go_end0
  refine⟨⟨.tuple #[],rfl⟩,V',?_⟩;rw[<-fR.out];exact HJ.out
 obtain⟨bm,om,e1,Us,m0,m1,m2,m3,m4,m5,m6,m7⟩:=(pm.out _ HJ.out.bel).row j bg;subst e1;have Cb:(0:Int)<=(j:Int):=by omega
 have tR:(j:Int)<(M.length:Int):=by omega
 have HF:=HJ.out.hF;have f0:=za HF 0 rfl;have GV:bF<wr.heap.size:=zd HF;have fr:=tj.out M[j] (Ld bg);obtain⟨z1,z2,z3,z4⟩:=HZ.out _ fr;have dh:=zH (xV a k M bg);have d':=vE a k M (j+1);rw[xV a k M bg,Lq,LE] at d';obtain⟨m,BY⟩:=Kh (M[j]);rw[BY] at m0 m1 m2 m3 m4 m5 m6 m7 fr z1 z2 z3 z4 dh d'
 have iq:(outs++yz pre (zT a k M j)).length+(zo a k m.to).length<=5000:=by
  have:=Dz.out;rw[<-fR.out] at this;rw[Lq,Qd];omega
 have DC:=zH iq;have Vf:=zH z3;have Ve:=zH z4;clear BY d' z1 z2 z3 z4 iq fr tj HZ Dz HI pm fR;go_wp2_with fail;clear m0 m1 m2 m3 m4 m5 m6 m7;obtain⟨W1,cG,g0,ch,aw⟩:=zq wr m.cells 121;unfold Mv.cells at cG;rw[cG];clear cG;have f1:=(aw.cell (p:=⟨bF,0,Z⟩) GV).trans f0;have cy:=(HJ.out.buf.lt g rfl).2;have GE:=bJ.out.gf;have Tz:pre.length+1<=K:=by omega
 have F6:(pre++[m.r]).length+k=K:=by rw[Lq,List.length_singleton];omega
 have UK:wr.heap.size<W1.heap.size:=by omega
 have hD:=zH g0
 refine zE [(0,Av),(1,Av),(2,Av),(3,Av),(4,Av),(5,Av),(6,Ax),(7,Ax),(8,Ax)]
  (fun W=>W.cell? ⟨bF,0,Z⟩=J (.func (.func 82) #[] #[Ak (J ⟨bR,0,Z⟩),Ak (J ⟨bO,0,Z⟩),Ak (J ⟨bA,0,Z⟩),Ak (J ⟨bF,0,Z⟩)])/\W.heap[wr.heap.size]?=J (Ah m.cells 121 (0,0)))
  (by kernel_rfl) (by kernel_rfl) ⟨f1,g0⟩ ?_
 clear f0
 repeat
  apply zX rfl
  . rintro K' ai W ⟨y0,y1⟩
    have g1:W.cell? ⟨wr.heap.size,0,Z⟩=J (O U m.r.n):=za y1 0 rfl;have g2:W.cell? ⟨wr.heap.size,1,Z⟩=J (O U m.r.h0):=za y1 1 rfl;have g3:W.cell? ⟨wr.heap.size,2,Z⟩=J (O U m.r.h1):=za y1 2 rfl;have g4:W.cell? ⟨wr.heap.size,3,Z⟩=J (O U m.r.h2):=za y1 3 rfl;have g5:W.cell? ⟨wr.heap.size,4,Z⟩=J (O U m.r.h3):=za y1 4 rfl;have g6:W.cell? ⟨wr.heap.size,5,Z⟩=J (O U m.r.h4):=za y1 5 rfl;have g7:W.cell? ⟨wr.heap.size,6,Z⟩=J (O U m.r.f):=za y1 6 rfl;have g8:W.cell? ⟨wr.heap.size,7,Z⟩=J (O U m.to):=za y1 7 rfl;clear y1;go_simp;exact ai
 refine zG rfl ?_;intro K' ai;go_simp;obtain⟨W2,dx,d0,dX,mO⟩:=QF W1 m.r.cells 75;unfold Rd.cells at dx;rw[dx];have g2:=Lb mO UK hD.out;have f2:=(mO.cell (p:=⟨bF,0,Z⟩) (by show bF<W1.heap.size;omega)).trans f1;refine ai _ _ ⟨f2,g2⟩ ?_;have oW:Ao wr.heap.size wr W2:=aw.trans (mO.mono (by omega));refine zG rfl ?_;intro K' ai;rw[Ln (by rfl)];refine wp_fitR ZC (.tmp 32) (.tmp 35) (by rfl) B g pre.length K (yf pre) (by rfl) (HJ.out.buf.below oW (Lh _)) (wr.heap.size+1) m.r.cells (by rfl) (ch▸d0) rfl (by simp[Rd.cells,Value.oneCell']) Tz ?_;intro W3 hr cM;have HX:=zH (HJ.out.ext bJ.out oW hr cM);have g3:=(cM.block _ (by omega) (fun e=>by cases e;omega)).trans g2;have f3:=(L6 (cM.block bF (by omega) (fun e=>by cases e;exact GE rfl))).trans f2;refine ai _ _ ⟨f3,g3⟩ ?_;refine xb rfl (by kernel_rfl) ?_;intro K' ai;go_simp;have HC:=Kt.out m.to (pre++[m.r]) (outs++yz pre (zT a k M j)) V' B bR bO bA bF g w0 W3 F6 (.inr ⟨Vf.out,Ve.out⟩) DC.out bJ.out dm.out HX.out;rw[Lq,List.length_singleton] at HC;refine HC.mono ?_;rintro e w4 ⟨⟨v4,rfl⟩,V4,H4⟩;have H5:=zH H4.cut;rw[Ng,<-YK,<-gh,<-dh.out] at H5;refine ai (fun _=>True) _ _ trivial ?_;refine yh ?_;go_wp2_with fail
 go_roundw
 case rel=>exact⟨j+1,V4,by omega,by go_num,H5⟩
 simp[Aq];omega
theorem Yy(a:Ad)(K:Nat)(hK:K<=6)(SV:Bb)(ks:Nat)(hz:zj a a.sts=0)(hf:FewA a):∀k,jV a K SV ks k
 | 0=>JL a K hK SV ks
 | k+1=>JM a K SV ks k hz hf (Yy a K hK SV ks hz hf k)
theorem JH{W w w':Ba}{r r':Option Nat}(h:W.grownBy w r)(hg:w.grownBy w' r')(hr:∀k,r'=J k->k<W.heap.size->r=J k):W.grownBy w' r:=
 ⟨hg.os.trans h.os,hg.tape.trans h.tape,hg.output.trans h.output,Lz h.size hg.size,fun k hk hn=>(hg.block k (LF hk h.size) (fun e=>hn (hr k e.symm hk).symm)).trans (h.block k hk hn)⟩
theorem XI{W w w':Ba}{r:Option Nat}(h:W.grownBy w r)(hb:Ao w.heap.size w w'):W.grownBy w' r:=
 ⟨hb.os.trans h.os,hb.tape.trans h.tape,hb.output.trans h.output,Lz h.size hb.size,fun k hk hn=>(hb.block k (LF hk h.size)).trans (h.block k hk hn)⟩
def qN(a:Ad)(SV:Bb)(ks k:Nat):Prop:=∀(s:Int) (w:Ba),(k=0\/(0<=s/\s<a.sts.length))->(zo a k s).length<=5000->SAt w w.heap.size SV a.sts ->
 Ap An 123 #[Aj #[O U a.n,I SV a.sts.length ks],O U s,O U k] w fun e w'=>∃v,e=Am v/\OwnX cWd (fun b=>w.heap.size<=b) w' w.heap.size v (zo a k s)/\Ao w.heap.size w w'
theorem XL(a:Ad)(SV:Bb)(ks:Nat):qN a SV ks 0:=by
 intro s w _ _ _;go_enter func123,ntmps123;go_wp2_with fail;obtain⟨w1,ag,d0,d1,bq,hBw⟩:=zZ w #[O U a.n,I SV a.sts.length ks] #[I Z 0 0] 27 39;rw[ag];go_ret;refine⟨_,rfl,⟨[[I Z 0 0]],rfl,?_,?_⟩,hBw⟩
 . exact OwnR.of_block (K:=kWd) (n:=1) d1 (by omega) rfl (by unfold maxLen;omega)
 intro i h1 h2;obtain rfl:i=0:=by simp at h1;omega
 exact⟨Z,0,rfl,RAtS.nil _ _ _,Lh _⟩
theorem XP(a:Ad)(SV:Bb)(ks k:Nat)(mA:k<=6)(hz:zj a a.sts=0)(hf:FewA a)(ih:qN a SV ks k):qN a SV ks (k+1):=by
 intro s w lk aC hS;have hs:0<=s/\s<a.sts.length:=lk.resolve_left (by omega);obtain⟨S,rfl⟩:=Lr hs.1;have iC:S<a.sts.length:=by omega
 have Kt:=zH ih;have HZ:=zH (@xa a hz);have my:=hf.each (Ld iC);have fR:=zH (vF a k iC);have Dz:=zH aC;have tj:=zH (fun (m:Mv) (hm:m∈a.sts[S])=>(Nr.2 ⟨_,Ld iC,hm⟩:m∈a.mvs));have HS:=zH hS;obtain⟨bs,os,A',lF,Ay,bC,s0,sP⟩:=hS.at_ S iC;subst Ay;have pm:=zH sP;obtain⟨M,hM⟩:=Kh (a.sts[S]);rw[hM] at s0 pm fR tj my;have e0:(((k+1:Nat):Int)==0)=Ax:=by simp;omega
 have ag:IntKind.i64.wrap (((k+1:Nat):Int)-1)=(k:Int):=by rw[Ly];omega
 have bq:(S:Int)<(a.sts.length:Int):=by omega
 have dq:(0:Int)<=(S:Int):=by omega
 obtain⟨K,hK⟩:∃K:Int,((k+1:Nat):Int)=K:=⟨_,rfl⟩;rw[hK] at e0 ag ⊢;go_enter func123,ntmps123;go_wp2_with fail;obtain⟨w1,cG,d0,ch,aw⟩:=zq w #[O U a.n,I (J ⟨bs,os,Z⟩) a.sts.length ks] 27;rw[cG];have bn:=zH d0;have dp:=zH aw;clear d0 aw e0
 go_loopw [7,8] (fun o i wr=>∃j:Nat,j<=M.length/\i=O U (j:Int)/\As (OwnX cWd (fun b=>w.heap.size<b) wr (w.heap.size+1) o (zT a k M j))/\As (Ao w1.heap.size w1 wr)) (fun _ i _=>M.length-(Aq i).toNat)
 case atStart=>exact⟨0,by omega,rfl,by rw[jz];exact OwnX.nil _ _ _ _,Lp _ _⟩
 obtain⟨j,hj,rfl,HO,bX⟩:=hrel;have D0:=Lb bX.out (by omega) bn.out;have q1:=za D0 1 rfl;have aB:=bX.out.size;have s1:wr.cell? ⟨bs,os+S,Z⟩=J (I A' M.length lF):=((dp.out.trans (bX.out.mono (by omega))).cell (p:=⟨bs,os+S,Z⟩) bC).trans s0
 by_cases bg:j<M.length
 case neg=>
  obtain rfl:j=M.length:=by omega
  go_wp2_with fail;go_ret;refine⟨_,rfl,?_,dp.out.trans (bX.out.mono (by omega))⟩;rw[<-fR.out];exact(HO.out.mono xH fun b _ hb=>by omega).low (by omega)
 obtain⟨bm,om,e1,Us,m0,m1,m2,m3,m4,m5,m6,m7⟩:=(pm.out.keep (dp.out.trans (bX.out.mono (by omega)))).row j bg;subst e1;have Cb:(0:Int)<=(j:Int):=by omega
 have tR:(j:Int)<(M.length:Int):=by omega
 have q0:=za D0 0 rfl;have oN:w.heap.size<wr.heap.size:=by omega
 have fr:=tj.out M[j] (Ld bg);obtain⟨z1,z2,z3,z4⟩:=HZ.out _ fr;have dm:=zH (xV a k M bg);have d':=vE a k M (j+1);rw[xV a k M bg,Lq,LE] at d';obtain⟨m,BY⟩:=Kh (M[j]);rw[BY] at m0 m1 m2 m3 m4 m5 m6 m7 fr z1 z2 z3 z4 dm d'
 have iq:(zT a k M j).length+(zo a k m.to).length<=5000:=by
  have:=Dz.out;rw[<-fR.out] at this;omega
 have HC:=zH (fun (W:Ba) (hW:Ao wr.heap.size wr W)=>Kt.out m.to W (.inr ⟨z3,z4⟩) (by omega) (((HS.out.keep (dp.out.trans ((bX.out.trans (hW.mono aB)).mono (by omega)))).more (by have:=hW.size;omega))));clear BY d' z1 z2 z3 z4 fr tj HZ Dz pm fR;go_wp2_with fail;clear m0 m1 m2 m3 m4 m5 m6 m7 q0 q1 s1;obtain⟨W1,cG,g0,dX,aO⟩:=zq wr m.cells 121;unfold Mv.cells at cG;rw[cG];refine(HC.out W1 aO).mono ?_;rintro e w3 ⟨rv,rfl,lp,ap⟩;obtain⟨AR,cR,rfl,hcR,hmR,hWR⟩:=wN lp;have G0:=Lb ap (by omega) g0;have bE:As (Ao wr.heap.size wr w3):=aO.trans (ap.mono (by omega));have pj:=zH (HO.out.below xH bE.out (Lh _));have lS:=HO.out.lt;have IW:=zH (lp.mono (S':=fun b=>wr.heap.size<b) xH fun b _ hb=>by omega);have rz:=zH G0;have mo:=ap.size;obtain⟨R,hR⟩:=Kh (zo a k m.to);have Po:=zH (yK a k m.to);rw[hR] at iq dm IW Po ⊢;go_wp2_with fail;obtain⟨Ab,rfl⟩:∃Ab,Ab=u7:=⟨_,rfl⟩;obtain⟨wo,rfl⟩:∃x,x=wr:=⟨_,rfl⟩
 go_loopw [7,11] (fun o i wx=>∃l:Nat,l<=R.length/\i=O U (l:Int)/\As (OwnX cWd (fun b=>w.heap.size<b) wx (w.heap.size+1) o (zT a k M j++(R.take l).map (m.r::·)))/\As (w3.grownBy wx (Value.ownBlock Ab))/\As (o.ownBlock=Value.ownBlock Ab\/∀b,o.ownBlock=J b->w3.heap.size<=b)) (fun _ i _=>R.length-(Aq i).toNat)
 case atStart=>exact⟨0,by omega,rfl,by rw[LO,Nt,Nf];exact pj.out,Pj _ _,.inl rfl⟩
 obtain⟨l,hl,rfl,HX,HG,HW⟩:=hrel;have dA:As (Ao w1.heap.size w1 wr):=(bX.out.trans (bE.out.mono aB)).grown HG.out (by omega) (fun b hb=>by have:=(lS b hb).1;omega)
 by_cases aN:l<R.length
 case neg=>
  obtain rfl:l=R.length:=by omega
  rw[LJ,<-dm.out] at HX;go_wp2_with fail
  go_roundw
  case rel=>exact⟨j+1,by omega,by go_num,HX,dA⟩
  simp[Aq];omega
 have Oh:OwnX cWd (fun b=>wo.heap.size<b) wr W1.heap.size (I AR R.length cR) R:=IW.out.kept xH HG.out (by
  cases UT:(I AR R.length cR).ownBlock with
  | none=>exact .inl rfl
  | some b=>exact .inr fun e=>by have h1:=(IW.out.lt b UT).1;have h2:=(lS b e.symm).2;omega) (fun b hb=>.inl fun h=>by have:=(lS b hb).2;omega)
 obtain⟨A9,c9,e9,_,_,EJ⟩:=wN Oh
 cases e9
 obtain⟨br,SD,A2,c2,er,fO,r0,pI⟩:=EJ.at_ l aN;subst er;have G1:=(HG.out.block wo.heap.size (by omega) (fun e=>by have:=(lS _ e.symm).2;omega)).trans rz.out;have mi:=zd G1;have rl:=zH pI;have Du:=zH HX.out;have Gj:(zT a k M j++(R.take l).map (m.r::·)).length=(zT a k M j).length+l:=by simp;omega
 have By:As (zT a k M j++(R.take (l+1)).map (m.r::·)=(zT a k M j++(R.take l).map (m.r::·))++[m.r::R[l]]):=by
  show _=_;rw[Lu aN,LH,Ng];rfl
 have cj:=Po.out _ (Ld aN);have Gk:R[l].length<=6:=by omega
 clear cj;have ir:(0:Int)<=(l:Int):=by omega
 have dK:(l:Int)<(R.length:Int):=by omega
 obtain⟨x,hx⟩:=Kh (R[l]);rw[hx] at r0 rl By Gk;have rV:As (Raw (wr.alloc (Ah m.r.cells 75)) A2 x.length (yf x)):=uU ((rl.out.keep (zt wr _)).more (by simp));have g0:wr.cell? ⟨wo.heap.size,0,Z⟩=J (O U m.r.n):=za G1 0 rfl;have g1:wr.cell? ⟨wo.heap.size,1,Z⟩=J (O U m.r.h0):=za G1 1 rfl;have g2:wr.cell? ⟨wo.heap.size,2,Z⟩=J (O U m.r.h1):=za G1 2 rfl;have g3:wr.cell? ⟨wo.heap.size,3,Z⟩=J (O U m.r.h2):=za G1 3 rfl;have g4:wr.cell? ⟨wo.heap.size,4,Z⟩=J (O U m.r.h3):=za G1 4 rfl;have g5:wr.cell? ⟨wo.heap.size,5,Z⟩=J (O U m.r.h4):=za G1 5 rfl;have g6:wr.cell? ⟨wo.heap.size,6,Z⟩=J (O U m.r.f):=za G1 6 rfl;have Ur:br<wr.heap.size:=fO;have rN:w.heap.size+1<=wr.heap.size:=by have:=HG.out.size;omega
 clear hx Oh EJ pI G1 HX;have rz:=zH (zg wr (Ah m.r.cells 75));obtain⟨N,hN⟩:=Kh ((zT a k M j++(R.take l).map (m.r::·)).length);have hN5:N<=5000:=by omega
 have HN:=zH hN;clear hN Gj
 go_wp2_with (at_builtin;(first
  | ((refine ZL ZC rfl (.tmp 50) (.tmp 54) rfl wr.heap.size (I (J ⟨wr.heap.size, 0, Z⟩) 1 1) 1 m.r.cells.toList rfl (OwnR.of_block rz.out (Nat.le_refl _) rfl (by unfold maxLen; omega)) A2 x.length c2 (yf x) rfl (yZ _) rV.out (jm _) (by omega) (by simp) ?_)
     intro v1 w5 tJ ex _;have BK:OwnR kRd w5 wr.heap.size v1 (m.r::x).length (yf (m.r::x)):=by rw[Lx,Nat.add_comm];exact tJ
     obtain⟨A5,c5,rfl,Uj,_,iq⟩:=jl BK;have dO:Ao wr.heap.size wr w5:=(zt wr _).grown ex (by simp) (fun b hb=>by cases hb;exact Lh _);have iG:=zH (dO.alloc dO.size (Ah #[.slice A5 (m.r::x).length c5] 39));have V9:=zH (zg w5 (Ah #[.slice A5 (m.r::x).length c5] 39));have AN:=zH (iq.keep (KeepB.alloc _ w5 (Ah #[.slice A5 (m.r::x).length c5] 39)));have lK:=zH (Du.out.below xH iG.out (Lh _));have Td:wr.heap.size<=w5.heap.size:=dO.size
     clear tJ BK ex iq dO)
  | (obtain ⟨aD, bk, fb, bj⟩ := lK.out
     rw[HN.out] at fb;refine yg Xy rfl (.tmp 49) (.tmp 56) rfl (w.heap.size+1) u7 N aD.flatten rfl fb w5.heap.size #[.slice A5 (m.r::x).length c5] rfl V9.out rfl (by simp[Value.oneCell']) (by omega) (by simp;omega) _ rfl ?_;intro g' cap w7 dS de cd d9;have hX:cWd.lies (fun b=>(fun b=>w.heap.size<b) b/\Value.ownBlock u7≠J b) _ [.slice A5 (m.r::x).length c5] (m.r::x):=⟨A5,c5,rfl,AN.out.mono fun b _ hb=>⟨by have:wr.heap.size<=b:=hb;show w.heap.size<b;omega,fun e=>by have:=(Du.out.lt b e).2;have:wr.heap.size<=b:=hb;omega⟩,Uj⟩;have fl:=dS;rw[<-HN.out] at fl;have tg:=zH (OwnX.app xH bk bj hX fl de cd);rw[<-By.out,HN.out] at tg
     have tq:As (w3.grownBy w7 Ab.ownBlock):=JH (XI HG.out iG.out) de (fun b hb ac=>by
      rcases HW.out with h | h
      . rw[<-h];exact hb
      . have:=h b hb;omega)
     have Vn:As ((I (J ⟨g',0,Z⟩) (N+1) cap).ownBlock=Ab.ownBlock\/∀b,(I (J ⟨g',0,Z⟩) (N+1) cap).ownBlock=J b->w3.heap.size<=b):=by
      have fj:=HG.out.size;rcases cd with e | e
      . rcases HW.out with h | h
        . exact .inl (by rw[<-h,e];rfl)
        . exact .inr fun b hb=>h b (by rw[e];exact hb)
      . refine .inr fun b hb=>?_
        have h9:g'=b:=by simpa[Value.ownBlock] using hb
        simp at e;omega
     clear dS fl de cd hX bj fb bk)
  ))
 go_roundw
 case rel=>exact⟨l+1,by omega,by go_num,tg,tq,Vn⟩
 simp[Aq];omega
theorem gR(a:Ad)(SV:Bb)(ks:Nat)(hz:zj a a.sts=0)(hf:FewA a):∀k,k<=6->qN a SV ks k
 | 0,_=>XL a SV ks
 | k+1,h=>XP a SV ks k (by omega) hz hf (gR a SV ks hz hf k (by omega))
structure Wrote(R:Nat->Prop)(w w':Ba):Prop where
 os:w'.os=w.os
 tape:w'.tape=w.tape
 output:w'.output=w.output
 size:w.heap.size<=w'.heap.size
 block:∀k,k<w.heap.size->¬R k->w'.heap[k]?=w.heap[k]?
theorem Wrote.refl(R:Nat->Prop)(w:Ba):Wrote R w w:=⟨rfl,rfl,rfl,Lh _,fun _ _ _=>rfl⟩
theorem Wrote.trans{R R':Nat->Prop}{a b c:Ba}(h:Wrote R a b)(k:Wrote R' b c)(hr:∀k,k<a.heap.size->R' k->R k):Wrote R a c:=
 ⟨k.os.trans h.os,k.tape.trans h.tape,k.output.trans h.output,Lz h.size k.size,fun i hi hn=>(k.block i (LF hi h.size) (fun h'=>hn (hr i hi h'))).trans (h.block i hi hn)⟩
theorem Wrote.of_below{R:Nat->Prop}{a b:Ba}(h:Ao a.heap.size a b):Wrote R a b:=⟨h.os,h.tape,h.output,h.size,fun k hk _=>h.block k hk⟩
theorem Wrote.of_grown{R:Nat->Prop}{a b:Ba}{row:Option Nat}(h:a.grownBy b row)(hr:∀k,row=J k->k<a.heap.size->R k):Wrote R a b:=⟨h.os,h.tape,h.output,h.size,fun k hk hn=>h.block k hk (fun e=>hn (hr k e.symm hk))⟩
theorem Wrote.below{R:Nat->Prop}{a b:Ba}{B:Nat}(h:Wrote R a b)(hB:B<=a.heap.size)(hr:∀k,k<B->¬R k):Ao B a b:=⟨h.os,h.tape,h.output,h.size,fun k hk=>h.block k (by omega) (hr k hk)⟩
theorem Wrote.keep{R S:Nat->Prop}{a b:Ba}(h:Wrote R a b)(hr:∀k,k<a.heap.size->S k->¬R k):KeepB S a b:=⟨h.size,fun k hs hk=>h.block k hk (hr k hk hs)⟩
theorem Wrote.more{R R':Nat->Prop}{a b:Ba}(h:Wrote R a b)(hr:∀k,k<a.heap.size->R k->R' k):Wrote R' a b:=⟨h.os,h.tape,h.output,h.size,fun k hk hn=>h.block k hk (fun h'=>hn (hr k hk h'))⟩
def jK(vs:List Vw):Vw->Option Au:=fun v=>if v∈vs then J (O U (qp vs v)) else Z
theorem numF_nil:jK []=fun _=>Z:=by funext v;simp[jK]
theorem numF_put{vs:List Vw}{v:Vw}(h:v∉vs):kO (jK vs) v (O U vs.length)=jK (vs++[v]):=by
 funext x
 unfold kO jK
 by_cases e:x=v
 . subst e
   rw[Ln rfl,Ln (by simp)]
   congr 2
   exact(Yv (k:=vs.length) (by simp) (by simp) (by rw[List.take_left];exact h)).symm
 rw[Lj e]
 by_cases hx:x∈vs
 . rw[Ln hx,Ln (by simp[hx])]
   congr 2
   unfold qp;rw[Ln hx,Ln (by simp[hx]),List.idxOf_append,Ln hx]
 rw[Lj hx,Lj (by simp[hx,e])]
structure BdIn(B bB bM:Nat)(n:Int)(V:Au)(vs:List Vw)(w:Ba):Prop where
 hB:w.heap[bB]?=J (Ah #[O U n,V,.map (J bM)] 111 (0,0))
 num:∃m,MapOf (fun v:Vw=>.agg v.cells) w bM m (jK vs)
 own:OwnV w B V vs
 ne:∀k,V.ownBlock=J k->k≠bB/\k≠bM
 bm:bB≠bM
 lo:B<=bB/\B<=bM
def Bk(bB bM:Nat)(V:Au)(k:Nat):Prop:=k=bB\/k=bM\/V.ownBlock=J k
def BdOn(bB bM:Nat)(V:Au)(w:Ba)(V':Au)(w':Ba):Prop:=Wrote (Bk bB bM V) w w'/\∀k,V'.ownBlock=J k->V.ownBlock=J k\/w.heap.size<=k
theorem BdOn.refl(bB bM:Nat)(V:Au)(w:Ba):BdOn bB bM V w V w:=⟨Wrote.refl _ _,fun _ h=>.inl h⟩
theorem BdOn.trans{bB bM:Nat}{V V1 V2:Au}{w w1 w2:Ba}(h:BdOn bB bM V w V1 w1)(k:BdOn bB bM V1 w1 V2 w2):BdOn bB bM V w V2 w2:=by
 refine⟨h.1.trans k.1 fun j hj hr=>?_,fun j hj=>?_⟩
 . rcases hr with e | e | e
   . exact .inl e
   . exact .inr (.inl e)
   rcases h.2 j e with e | e
   . exact .inr (.inr e)
   omega
 rcases k.2 j hj with e | e
 . exact h.2 j e
 exact .inr (Lz h.1.size e)
theorem BdOn.after{bB bM:Nat}{V V1:Au}{w w1 w2:Ba}(h:BdOn bB bM V w V1 w1)(k:Ao w1.heap.size w1 w2):BdOn bB bM V w V1 w2:=⟨h.1.trans (Wrote.of_below (R:=fun _=>False) k) (fun _ _ h=>h.elim),h.2⟩
theorem BdIn.on{B bB bM:Nat}{n:Int}{V:Au}{vs:List Vw}{w w':Ba}(h:BdIn B bB bM n V vs w)(hb:Ao w.heap.size w w'):BdIn B bB bM n V vs w':=by
 obtain⟨m,hm⟩:=h.num;exact⟨La hb h.hB,⟨m,hm.same (hb.block _ hm.lt)⟩,h.own.below hb (Lh _),h.ne,h.bm,h.lo⟩
theorem BdIn.push{B bB bM m:Nat}{n:Int}{A:Bb}{cap:Nat}{vs:List Vw}{v:Vw}{w w2 W w4:Ba}{g' aF:Nat}(H:BdIn B bB bM n (I A vs.length cap) vs w)(fN:w.grownBy w2 (J bM))
  (ia:MapOf (fun v:Vw=>.agg v.cells) w2 bM m (jK (vs++[v]))) (hW:Ao w2.heap.size w2 W)
  (hr:OwnR kVw w4 B (I (J ⟨g',0,Z⟩) (vs.length+1) aF) (vs.length+1) (ye vs++v.cells.toList)) (hg:W.grownBy w4 (I A vs.length cap).ownBlock)
  (bz:(I A vs.length cap).ownBlock=J g'\/g'=W.heap.size) :
  BdIn B bB bM n (I (J ⟨g',0,Z⟩) (vs.length+1) aF) (vs++[v]) (w4.setCell ⟨bB,1,Z⟩ (I (J ⟨g',0,Z⟩) (vs.length+1) aF)) /\
   BdOn bB bM (I A vs.length cap) w (I (J ⟨g',0,Z⟩) (vs.length+1) aF) (w4.setCell ⟨bB,1,Z⟩ (I (J ⟨g',0,Z⟩) (vs.length+1) aF)):=by
 have nx:=zd H.hB;obtain⟨m0,lR⟩:=H.num;have MC:=lR.lt;have dq:=fN.size;have Eh:=hW.size;have lS:=H.own.lt;have ae:=(fN.block bB nx (fun e=>by cases e;exact H.bm rfl)).trans H.hB;have be:=(hg.block bB (by omega) (fun e=>(H.ne bB e.symm).1 rfl)).trans ((hW.block bB (by omega)).trans ae);have sh:=((ia.same (hW.block bM (by omega))).same (hg.block bM (by omega) (fun e=>(H.ne bM e.symm).2 rfl)));have cy:=hr.lt g' rfl
 have bG:g'≠bB/\g'≠bM:=by
  rcases bz with e | e
  . exact H.ne g' e
  exact⟨by omega,by omega⟩
 refine⟨⟨?_,⟨m,sh.same (Le w4 _ _ bM (fun e=>H.bm e.symm))⟩,?_,?_,H.bm,H.lo⟩,?_,?_⟩
 . rw[Lk w4 bB 1 _ _ _ be];rfl
 . have h5:OwnR kVw (w4.setCell ⟨bB,1,Z⟩ (I (J ⟨g',0,Z⟩) (vs.length+1) aF)) B (I (J ⟨g',0,Z⟩) (vs.length+1) aF) (vs.length+1) (ye vs++v.cells.toList):=hr.kept (yo w4 bB 1 _) (.inr (fun e=>bG.1 (by simpa[Value.ownBlock] using e)))
   unfold OwnV;rw[Lq,kU,show ye [v]=v.cells.toList by simp[ye]];exact h5
 . intro k hk
   have:g'=k:=by simpa[Value.ownBlock] using hk
   subst this;exact bG
 . have h1:Wrote (Bk bB bM (I A vs.length cap)) w w2:=Wrote.of_grown fN (fun k hk _=>by cases hk;exact .inr (.inl rfl))
   have h2:Wrote (Bk bB bM (I A vs.length cap)) w2 W:=Wrote.of_below hW;have h3:Wrote (Bk bB bM (I A vs.length cap)) W w4:=Wrote.of_grown hg (fun k hk _=>.inr (.inr hk));have h4:Wrote (Bk bB bM (I A vs.length cap)) w4 (w4.setCell ⟨bB,1,Z⟩ (I (J ⟨g',0,Z⟩) (vs.length+1) aF)):=Wrote.of_grown (yo w4 bB 1 _) (fun k hk _=>by cases hk;exact .inl rfl);exact((h1.trans h2 (fun _ _ h=>h)).trans h3 (fun _ _ h=>h)).trans h4 (fun _ _ h=>h)
 intro k hk;have:g'=k:=by simpa[Value.ownBlock] using hk
 subst this;rcases bz with e | e
 . exact .inl e
 exact .inr (by omega)
theorem YN(B bB bM:Nat)(n:Int)(V:Au)(vs:List Vw)(v:Vw)(hl:vs.length<=50000)(w:Ba)(H:BdIn B bB bM n V vs w) :
  Ap An 88 #[Ak (J ⟨bB,0,Z⟩),.agg v.cells] w fun e w'=>e=Am (O U (xF vs v).2)/\∃V',BdIn B bB bM n V' (xF vs v).1 w'/\BdOn bB bM V w V' w':=by
 obtain⟨A,cap,rfl⟩:=H.own.lit;obtain⟨w1,ag,d0,ch,aw⟩:=zq w v.cells 100;have H1:=H.on aw;have HI:=zH H1;have al:=zH ag;have dp:=zH aw;have bn:=zH d0;have HV:=zH (show jK vs v=if v∈vs then J (O U (qp vs v)) else Z from rfl);have nx:=zd H.hB;have dy:=zH (fun (k:Nat) (e:(I A vs.length cap).ownBlock=J k)=>(H.own.lt k e).2);have Uu:bM<w.heap.size:=by obtain⟨_,hm⟩:=H.num;exact hm.lt
 have b0:=H1.hB;obtain⟨m,hm⟩:=H1.num;have HM:=zH hm;have hz:∀W:Ba,(zeroValue 3).run An W=.ok (O U 0) W:=fun W=>by kernel_rfl
 have ht:An.underlying 109=J (.map 100 3):=underlying109;have Nx:bB≠w.heap.size:=by omega
 clear ag H1 H;go_enter func88,ntmps88;unfold Vw.cells at al ⊢;go_wp2_with fail;rw[al.out]
 by_cases hv:v∈vs
 case pos=>
  have hf:jK vs v=J (O U (qp vs v)):=Ln hv;have oG:=Yb hv;have IZ:=zH oG;have HF:=zH hf;have hid:=Yu hv;clear oG hf hv HV;refine zE [(0,Av),(1,Av),(2,Av),(3,Av),(4,Av),(5,Av),(6,Av),(7,Av),(8,Av),(9,Av),(10,Av)] (fun W=>W.heap[bB]?=J (Ah #[O U n,I A vs.length cap,.map (J bM)] 111 (0,0))/\MapOf (fun v:Vw=>.agg v.cells) W bM m (jK vs)/\W.heap[w.heap.size]?=J (Ah v.cells 100 (0,0))) (by kernel_rfl) (by kernel_rfl) ⟨b0,hm,d0⟩ ?_
  repeat
   apply zX rfl
   . rintro K' ai W ⟨y0,y1,y2⟩
     have g0:W.cell? ⟨w.heap.size,0,Z⟩=J (O U v.p):=za y2 0 rfl;have g1:W.cell? ⟨w.heap.size,1,Z⟩=J (O U v.r):=za y2 1 rfl;have g2:W.cell? ⟨w.heap.size,2,Z⟩=J (O U v.i):=za y2 2 rfl;have g3:W.cell? ⟨w.heap.size,3,Z⟩=J (O U v.h0):=za y2 3 rfl;have g4:W.cell? ⟨w.heap.size,4,Z⟩=J (O U v.h1):=za y2 4 rfl;have g5:W.cell? ⟨w.heap.size,5,Z⟩=J (O U v.h2):=za y2 5 rfl;have g6:W.cell? ⟨w.heap.size,6,Z⟩=J (O U v.h3):=za y2 6 rfl;have g7:W.cell? ⟨w.heap.size,7,Z⟩=J (O U v.h4):=za y2 7 rfl;have b0:W.cell? ⟨bB,0,Z⟩=J (O U n):=za y0 0 rfl;have b1:W.cell? ⟨bB,1,Z⟩=J (I A vs.length cap):=za y0 1 rfl;have b2:W.cell? ⟨bB,2,Z⟩=J (.map (J bM)):=za y0 2 rfl;have cj:=y1.look2 jA ht (hz W) v;rw[HF.out] at cj;simp only[Option.getD_some,Option.isSome_some,Vw.cells] at cj;clear y0 y1 y2;go_simp;exact ai
  refine yh ?_;clear b0 hm d0;go_wp2_with fail;go_ret;rw[IZ.out];exact⟨rfl,_,HI.out.on (Lp _ _).drew,(BdOn.refl bB bM _ w).after (dp.out.drew)⟩
 have hf:jK vs v=Z:=Lj hv;have oG:=QC hv;have IZ:=zH oG;have HF:=zH hf;have Vo:As (v∉vs):=hv;clear oG hf hv HV;refine zE [(0,Av),(1,Av),(2,Av),(3,Av),(4,Av),(5,Av),(6,Av),(7,Av),(8,Av),(9,Av),(10,Av)] (fun W=>W.heap[bB]?=J (Ah #[O U n,I A vs.length cap,.map (J bM)] 111 (0,0))/\MapOf (fun v:Vw=>.agg v.cells) W bM m (jK vs)/\W.heap[w.heap.size]?=J (Ah v.cells 100 (0,0))) (by kernel_rfl) (by kernel_rfl) ⟨b0,hm,d0⟩ ?_
 repeat
  apply zX rfl
  . rintro K' ai W ⟨y0,y1,y2⟩
    have g0:W.cell? ⟨w.heap.size,0,Z⟩=J (O U v.p):=za y2 0 rfl;have g1:W.cell? ⟨w.heap.size,1,Z⟩=J (O U v.r):=za y2 1 rfl;have g2:W.cell? ⟨w.heap.size,2,Z⟩=J (O U v.i):=za y2 2 rfl;have g3:W.cell? ⟨w.heap.size,3,Z⟩=J (O U v.h0):=za y2 3 rfl;have g4:W.cell? ⟨w.heap.size,4,Z⟩=J (O U v.h1):=za y2 4 rfl;have g5:W.cell? ⟨w.heap.size,5,Z⟩=J (O U v.h2):=za y2 5 rfl;have g6:W.cell? ⟨w.heap.size,6,Z⟩=J (O U v.h3):=za y2 6 rfl;have g7:W.cell? ⟨w.heap.size,7,Z⟩=J (O U v.h4):=za y2 7 rfl;have b0:W.cell? ⟨bB,0,Z⟩=J (O U n):=za y0 0 rfl;have b1:W.cell? ⟨bB,1,Z⟩=J (I A vs.length cap):=za y0 1 rfl;have b2:W.cell? ⟨bB,2,Z⟩=J (.map (J bM)):=za y0 2 rfl;have cj:=y1.look2 jA ht (hz W) v;rw[HF.out] at cj;simp only[Option.getD_none,Option.isSome_none,Vw.cells] at cj;clear y0 y1 y2;go_simp;exact ai
 refine yh ?_;clear hm;have b1:w1.cell? ⟨bB,1,Z⟩=J (I A vs.length cap):=za HI.out.hB 1 rfl;go_wp2_with fail;obtain⟨w2,cV,ia,lq⟩:=MapOf.put (w:=w1.drew.drew) (P:=An) (show MapOf (fun v:Vw=>.agg v.cells) w1.drew.drew bM m (jK vs) from HM.out) jA ht v (O U vs.length);rw[numF_put Vo.out] at ia;have tl:=zH ia;have nP:As (w1.grownBy w2 (J bM)):=⟨lq.os,lq.tape,lq.output,lq.size,lq.block⟩;have MC:=HM.out.lt;have Uv:=HI.out.bm;have GP:w.heap.size≠bM:=by omega
 simp only[Vw.cells] at cV;have d2:=(nP.out.block _ (zd bn.out) (fun e=>by cases e;exact GP rfl)).trans bn.out;have b2:=(nP.out.block _ (zd HI.out.hB) (fun e=>by cases e;exact Uv rfl)).trans HI.out.hB;clear ia lq;refine zE [(0,Av),(1,Av),(2,Av),(3,Av),(4,Av),(5,Av),(6,Ax)] (fun W=>W.heap[bB]?=J (Ah #[O U n,I A vs.length cap,.map (J bM)] 111 (0,0))/\W.heap[w.heap.size]?=J (Ah v.cells 100 (0,0))) (by kernel_rfl) (by kernel_rfl) ⟨HI.out.hB,d0⟩ ?_;clear b0 b1 d0
 repeat
  apply zX rfl
  . rintro K' ai W ⟨y0,y2⟩
    have g0:W.cell? ⟨w.heap.size,0,Z⟩=J (O U v.p):=za y2 0 rfl;have g1:W.cell? ⟨w.heap.size,1,Z⟩=J (O U v.r):=za y2 1 rfl;have g2:W.cell? ⟨w.heap.size,2,Z⟩=J (O U v.i):=za y2 2 rfl;have g3:W.cell? ⟨w.heap.size,3,Z⟩=J (O U v.h0):=za y2 3 rfl;have g4:W.cell? ⟨w.heap.size,4,Z⟩=J (O U v.h1):=za y2 4 rfl;have g5:W.cell? ⟨w.heap.size,5,Z⟩=J (O U v.h2):=za y2 5 rfl;have g6:W.cell? ⟨w.heap.size,6,Z⟩=J (O U v.h3):=za y2 6 rfl;have g7:W.cell? ⟨w.heap.size,7,Z⟩=J (O U v.h4):=za y2 7 rfl;have b2:W.cell? ⟨bB,2,Z⟩=J (.map (J bM)):=za y0 2 rfl;clear y0 y2;go_simp;exact ai
 refine zG rfl ?_;intro K' ai;go_simp;refine ai _ _ ⟨b2,d2⟩ ?_;refine yh ?_;clear ai K' cV;go_wp2_with fail;have dq:=nP.out.size;have Cx:bB<w2.heap.size:=by omega
 have AU:=zH d2;have bJ:=zH b2;refine zE [(0,Av),(1,Av),(2,Av),(3,Av),(4,Av),(5,Av),(6,Ax),(7,Ax),(8,Ax),(9,Ax),(10,Ax)] (fun W=>W.heap[bB]?=J (Ah #[O U n,I A vs.length cap,.map (J bM)] 111 (0,0))/\W.heap[w.heap.size]?=J (Ah v.cells 100 (0,0))) (by kernel_rfl) (by kernel_rfl) ⟨b2,d2⟩ ?_;clear b2 d2
 repeat
  apply zX rfl
  . rintro K' ai W ⟨y0,y2⟩
    have g0:W.cell? ⟨w.heap.size,0,Z⟩=J (O U v.p):=za y2 0 rfl;have g1:W.cell? ⟨w.heap.size,1,Z⟩=J (O U v.r):=za y2 1 rfl;have g2:W.cell? ⟨w.heap.size,2,Z⟩=J (O U v.i):=za y2 2 rfl;have g3:W.cell? ⟨w.heap.size,3,Z⟩=J (O U v.h0):=za y2 3 rfl;have g4:W.cell? ⟨w.heap.size,4,Z⟩=J (O U v.h1):=za y2 4 rfl;have g5:W.cell? ⟨w.heap.size,5,Z⟩=J (O U v.h2):=za y2 5 rfl;have g6:W.cell? ⟨w.heap.size,6,Z⟩=J (O U v.h3):=za y2 6 rfl;have g7:W.cell? ⟨w.heap.size,7,Z⟩=J (O U v.h4):=za y2 7 rfl;have b1:W.cell? ⟨bB,1,Z⟩=J (I A vs.length cap):=za y0 1 rfl;clear y0 y2;go_simp;exact ai
 refine zG rfl ?_;intro K' ai;go_simp;obtain⟨W3,bU,e3,fj,aW⟩:=QF w2 v.cells 100;simp only[Vw.cells] at bU;rw[bU];clear bU;refine ai _ _ ⟨Lb aW Cx bJ.out,Lb aW (by omega) AU.out⟩ ?_;clear ai K';refine zG rfl ?_;intro K' ai;rw[Ln (by rfl)]
 have Ol:OwnR kVw W3 B (I A vs.length cap) vs.length (ye vs):=by
  have h0:OwnR kVw w1 B (I A vs.length cap) vs.length (ye vs):=HI.out.own;refine(h0.kept nP.out ?_).below aW (Lh _);rcases hA:(I A vs.length cap).ownBlock with _ | k
  . exact .inl rfl
  exact .inr fun e=>(HI.out.ne k hA).2 (by simpa using e)
 have lS:=HI.out.lo;refine uq kVw_ok (.tmp 33) (.tmp 35) (by rfl) B (I A vs.length cap) vs.length (ye vs) (by rfl) Ol w2.heap.size v.cells (by rfl) e3 rfl (vt v) (by omega) (by omega) _ rfl ?_;intro g' aF w4 hr hg bz ac;have HP:=zH (BdIn.push HI.out nP.out tl.out aW hr hg bz);have z0:=(hg.block bB (by omega) (fun e=>(HI.out.ne bB e.symm).1 rfl)).trans (Lb aW Cx bJ.out);have z1:=(hg.block w.heap.size (by omega) (fun e=>by have:=dy.out _ e.symm;omega)).trans (Lb aW (by omega) AU.out);refine ai _ _ ⟨z0,z1⟩ ?_;clear ai K' hr hg bz Ol e3 aW;refine zG rfl ?_;intro K' ai;go_simp;refine ai _ _ ⟨z0,z1⟩ ?_;clear ai K';refine zG rfl ?_;intro K' ai;go_simp;refine ai _ _ ⟨z0,z1⟩ ?_;clear ai K';have b1:w4.cell? ⟨bB,1,Z⟩=J (I A vs.length cap):=za z0 1 rfl;have f1:=zb z0 1;clear z0 z1;refine xb rfl (by kernel_rfl) ?_;intro K' ai;go_simp;refine ai (fun _=>True) _ _ trivial ?_;refine yh ?_;clear ai K' b1 f1;go_wp2_with fail;go_ret;rw[IZ.out];exact⟨rfl,_,HP.out.1,(BdOn.refl bB bM _ w).after dp.out |>.trans HP.out.2⟩
def wf(k:Nat):Array Au:=#[O U (if 0<k then -1 else 0),O U (if 1<k then -1 else 0),O U (if 2<k then -1 else 0),O U (if 3<k then -1 else 0),O U (if 4<k then -1 else 0)]
theorem Jy(k:Nat)(hk:k<5):(wf k).setIfInBounds k (O U (-1))=wf (k+1):=by
 match k,hk with
 | 0,_=>rfl
 | 1,_=>rfl
 | 2,_=>rfl
 | 3,_=>rfl
 | 4,_=>rfl
theorem minus_at(k:Nat)(hk:k<5):(wf k)[k]?=J (O U 0):=by
 match k,hk with
 | 0,_=>rfl
 | 1,_=>rfl
 | 2,_=>rfl
 | 3,_=>rfl
 | 4,_=>rfl
theorem vO(w:Ba):Ap An 89 #[] w fun e w'=>e=Am (Aj #[O U (-1),O U (-1),O U (-1),O U (-1),O U (-1)])/\Ao w.heap.size w w':=by
 obtain⟨w1,ag,d0,d1,bq,hB⟩:=zZ w (wf 0) (wf 0) 43 43;have al:=zH ag;go_enter func89,ntmps89;go_wp2_with fail;rw[show((w.alloc (Ah #[O U 0,O U 0,O U 0,O U 0,O U 0] 43)).alloc (Ah #[O U 0,O U 0,O U 0,O U 0,O U 0] 43))=w1 from al.out];have H0:=zH d0;have H1:=zH d1;have HB:=zH hB
 go_loopw [3] (fun i wr=>∃k:Nat,k<=5/\i=O U (k:Int)/\As (wr.heap[w.heap.size]?=J (Ah (wf 0) 43 (0,0)))/\As (wr.heap[w.heap.size+1]?=J (Ah (wf k) 43 (0,0)))/\As (Ao w.heap.size w wr)) (fun i _=>5-(Aq i).toNat)
 case atStart=>exact⟨0,by omega,rfl,H0.out,H1.out,HB.out⟩
 obtain⟨k,hk,rfl,H0,H1,nd⟩:=hrel
 by_cases lT:k<5
 case neg=>
  obtain rfl:k=5:=by omega
  have x0:wr.cell? ⟨w.heap.size+1,0,Z⟩=J (O U (-1)):=za H1.out 0 rfl;have x1:wr.cell? ⟨w.heap.size+1,1,Z⟩=J (O U (-1)):=za H1.out 1 rfl;have x2:wr.cell? ⟨w.heap.size+1,2,Z⟩=J (O U (-1)):=za H1.out 2 rfl;have x3:wr.cell? ⟨w.heap.size+1,3,Z⟩=J (O U (-1)):=za H1.out 3 rfl;have x4:wr.cell? ⟨w.heap.size+1,4,Z⟩=J (O U (-1)):=za H1.out 4 rfl;have y0:wr.cell? ⟨w.heap.size,0,Z⟩=J (O U 0):=za H0.out 0 rfl;have y1:wr.cell? ⟨w.heap.size,1,Z⟩=J (O U 0):=za H0.out 1 rfl;have y2:wr.cell? ⟨w.heap.size,2,Z⟩=J (O U 0):=za H0.out 2 rfl;have y3:wr.cell? ⟨w.heap.size,3,Z⟩=J (O U 0):=za H0.out 3 rfl;have y4:wr.cell? ⟨w.heap.size,4,Z⟩=J (O U 0):=za H0.out 4 rfl;have f0:=zb H0.out 0;have f1:=zb H0.out 1;have f2:=zb H0.out 2;have f3:=zb H0.out 3;have f4:=zb H0.out 4;go_wp2_with fail;refine Nb (v:=Aj #[O U (-1),O U (-1),O U (-1),O U (-1),O U (-1)]) (by simp[results,results89,go_sem,y0,y1,y2,y3,y4]) rfl ⟨rfl,?_⟩;exact((((nd.out.setCell (Lh _) _).setCell (Lh _) _).setCell (Lh _) _).setCell (Lh _) _).setCell (Lh _) _
 have x0:=za H1.out k (minus_at k lT);have f0:=zb H1.out k;have cK:(0:Int)<=(k:Int):=by omega
 have bY:(k:Int)<5:=by omega
 go_wp2_with fail
 go_roundw
 case rel=>exact⟨k+1,by omega,by go_num,(Le wr _ _ w.heap.size (by show w.heap.size≠w.heap.size+1;omega)).trans H0.out,by show _=_;rw[Lk wr _ k _ _ _ H1.out,Jy k lT],nd.out.setCell (by show w.heap.size<=w.heap.size+1;omega) _⟩
 simp[Aq];omega
end
section
open Go.RowKit
theorem vn(n:Nat)(h1:1<=n)(h5:n<=8)(W:Ba):(Instr.makeSlice 49 (O U n) (O U n)).run An W=.ok (I (J ⟨W.heap.size,0,Z⟩) n n) (W.alloc (Ah ((List.replicate n 0).map (O U)).toArray 3)):=by
 obtain rfl | rfl | rfl | rfl | rfl | rfl | rfl | rfl:n=1\/n=2\/n=3\/n=4\/n=5\/n=6\/n=7\/n=8:=by omega
 all_goals kernel_rfl
theorem uJ{cur:List Au}{x:Au}{k m n:Nat}(hl:cur.length=n)(h:cur.take k=List.replicate k x)(hk:k+m<=n):(splice cur k (List.replicate m x)).take (k+m)=List.replicate (k+m) x/\(splice cur k (List.replicate m x)).length=n:=by
 constructor
 . unfold splice
   rw[h,<-Ng,RK (by simp),Pq (by simp)];exact List.replicate_append_replicate
 rw[length_splice _ _ _ (by simp;omega),hl]
theorem one_src{w:Ba}{b o:Nat}{x:Au}(h:w.cell? ⟨b,o,Z⟩=J x):∀j v,[x][j]?=J v->w.cell? ((⟨b,o,Z⟩:Addr).add j)=J v:=by
 intro j v hj;have h0:j=0:=by have:=(Lo.1 hj).1;simp at this;omega
 subst h0;simp at hj;subst hj;rw[N4];exact h
theorem ZT:(An.info? 3).map (·.size)=J 1:=by kernel_rfl
theorem Z5(n b:Nat)(h1:1<=n)(h5:n<=8)(u:Int)(w:Ba)(hb:w.heap[b]?=J (Ah #[O U u] 3 (0,0))) :
  Ap An 54 #[I (J ⟨b,0,Z⟩) 1 1,O U n] w fun e w'=>∃g,e=Am (I (J ⟨g,0,Z⟩) n n)/\w.heap.size<=g/\RowAt w' g (List.replicate n u)/\Ao w.heap.size w w':=by
 have eK:=vn n h1 h5;obtain⟨ar,z'⟩:∃ar:List Au,(List.replicate n 0).map (O U)=ar:=⟨_,rfl⟩;rw[z'] at eK;have GZ:ar.length=n:=by rw[<-z'];simp
 have hc:=za hb 0 rfl;have aB:=zd hb;have hm:=Tryz.bits_Mul 1 n (by omega) (by omega) w;have e1:(1*n / 18446744073709551616:Nat)=0:=by omega
 have e2:(1*n % 18446744073709551616:Nat)=n:=by omega
 rw[e1,e2] at hm;have Mz:¬(n:Int)<0:=by omega
 go_enter func54,ntmps54;go_wp2_with fail;refine hm.mono ?_;rintro e w1 ⟨rfl,ag⟩;obtain rfl:=ag;obtain⟨W0,bD,b0,aZ,bH⟩:=zq w1 ar.toArray 3;have hx:W0.cell? ⟨b,0,Z⟩=J (O U u):=(bH.cell (p:=⟨b,0,Z⟩) aB).trans hc;have BB:=zH bH;have BX:=zH b0;have HX:=zH hx;go_wp2_with ((refine wpList_copy_splice rfl (.tmp 31) (.tmp 32) 49 49 rfl 3 Nw ZT (J ⟨w1.heap.size,0,Z⟩) (J ⟨b,0,Z⟩) n n 1 1 rfl rfl w1.heap.size 0 ar 3 BX.out [O U u] (by simp[Nat.min_def];omega) (fun _=>⟨rfl,_,rfl,one_src HX.out⟩) (by simp;omega) (by simp[Value.oneCell']) w1.heap.size w1 BB.out (Lh _) ?_);intro w2 pI ae);obtain⟨g,hg⟩:=Kh w1.heap.size;have s1:=uJ (cur:=ar) (x:=O U u) (k:=0) (m:=1) (n:=n) GZ (by simp) (by omega);have S1:=zH s1;have Fe:=zH hg;rw[hg] at pI ae ⊢
 go_loopw [8] (fun l wr=>∃(k:Nat) (cur:List Au),1<=k/\k<=n/\l=O U k/\As (cur.length=n)/\As (cur.take k=List.replicate k (O U u))/\As (wr.heap[g]?=J (Ah cur.toArray 3 (0,0)))/\Ao g w1 wr) (fun l _=>n-(Aq l).toNat)
 case atStart=>exact⟨1,splice ar 0 [O U u],by omega,h1,rfl,S1.out.2,S1.out.1,pI,ae⟩
 obtain⟨k,cur,bY,hkn,rfl,bk,sx,aQ,sB⟩:=hrel
 by_cases ac:k<n
 . clear S1 pI ae
   have cK:(0:Int)<=(k:Int):=by omega
   have ib:(k:Int)<=(n:Int):=by omega
   have bG:¬n=k:=by omega
   go_upto_region 9 with fail
   obtain⟨d,hd⟩:=Kh (n-k);obtain⟨m,hm⟩:=Kh (Nat.min k d);have lR:min k d=m:=hm;have Gf:1<=m:=by omega
   have ia:k+m<=n:=by omega
   have Ge:m<=k:=by omega
   have BA:∀j v,(List.replicate m (O U u))[j]?=J v->wr.cell? ((⟨g,0,Z⟩:Addr).add j)=J v:=by
    intro j v hj;have T5:j<m:=by have:=(Lo.1 hj).1;simpa using this
    rw[List.getElem?_replicate,Ln T5] at hj
    cases hj
    rw[N4,LN];refine za aQ.out j ?_;rw[List.getElem?_toArray];have h2:=congrArg (fun l=>l[j]?) sx.out;simp only[List.getElem?_take,List.getElem?_replicate] at h2;rwa[Ln (by omega),Ln (by omega)] at h2
   have SP:=zH (uJ (cur:=cur) (x:=O U u) (k:=k) (m:=m) (n:=n) bk.out sx.out ia);have IJ:=zH BA;have HM:=zH hm;have iR:=zH sB;have bq:IntKind.i64.wrap ((k:Int)+(m:Int))=(k:Int)+(m:Int):=IntWalk.i64_in _ (by omega);have fA:=zH bq;clear BA hm sB bq
   go_region_law ((refine step_copy_splice (by rfl) (.tmp 41) (.tmp 44) 49 49 (by rfl) 3 Nw ZT (J ⟨g,k,Z⟩) (J ⟨g,0,Z⟩) d d k n (by simp[go_sem]) (by simp[go_sem]) g k cur 3 aQ.out (List.replicate m (O U u)) (by rw[N5];exact HM.out.symm) (fun _=>⟨rfl,_,rfl,IJ.out⟩) (by rw[N5,bk.out];exact ia) (by intro v hv;rw[List.eq_of_mem_replicate hv];rfl) g w1 iR.out.drew (Lh _) ?_;intro w3 Ts ap;rw[N5]))
   all_goals
    rw[fA.out];go_wp2_with fail
    go_frame
    go_roundw
    case rel=>
     (repeat apply Exists.intro)
     exact⟨⟨k+m,splice cur k (List.replicate m (O U u)),by omega,by omega,rfl,SP.out.2,SP.out.1,Ts,ap⟩,by first | rfl | (go_frame;rfl) | (simp[Act.put];done)⟩
    case measure=>simp[Aq];omega
 obtain rfl:k=n:=by omega
 go_wp2_with fail;go_ret;refine⟨g,rfl,by have:=Fe.out;omega,?_,by have:=Fe.out;rw[this];exact sB⟩;unfold RowAt;have e:=sx.out;rw[Pq (by have:=bk.out;omega)] at e;rw[aQ.out,e];simp
theorem BdIn.set{B bB bM:Nat}{n:Int}{V:Au}{vs:List Vw}{w:Ba}(h:BdIn B bB bM n V vs w){g:Nat}(h1:g≠bB)(h2:g≠bM)(h3:V.ownBlock≠J g)(o:Nat)(u:Au):BdIn B bB bM n V vs (w.setCell ⟨g,o,Z⟩ u):=by
 obtain⟨m,hm⟩:=h.num;exact⟨(Le w _ _ bB (fun e=>h1 e.symm)).trans h.hB,⟨m,hm.same (Le w _ _ bM (fun e=>h2 e.symm))⟩,h.own.kept (yo w g o _) (.inr h3),h.ne,h.bm,h.lo⟩
theorem BdIn.grown{B bB bM:Nat}{n:Int}{V:Au}{vs:List Vw}{w w':Ba}{row:Option Nat}(h:BdIn B bB bM n V vs w)(hg:w.grownBy w' row)(h1:row≠J bB)(h2:row≠J bM)(h3:∀k,V.ownBlock=J k->row≠J k):BdIn B bB bM n V vs w':=by
 obtain⟨m,hm⟩:=h.num;refine⟨(hg.block _ (zd h.hB) (fun e=>h1 e.symm)).trans h.hB,⟨m,hm.same (hg.block _ hm.lt (fun e=>h2 e.symm))⟩,h.own.kept hg ?_,h.ne,h.bm,h.lo⟩
 cases hv:V.ownBlock with
 | none=>exact .inl rfl
 | some k=>exact .inr fun e=>h3 k hv e.symm
theorem BdIn.lts{B bB bM:Nat}{n:Int}{V:Au}{vs:List Vw}{w:Ba}(h:BdIn B bB bM n V vs w):bB<w.heap.size/\bM<w.heap.size/\∀k,V.ownBlock=J k->B<=k/\k<w.heap.size:=by
 obtain⟨m,hm⟩:=h.num;exact⟨zd h.hB,hm.lt,h.own.lt⟩
theorem BdOn.bel{B bB bM:Nat}{n:Int}{V V':Au}{vs:List Vw}{w w':Ba}(h:BdIn B bB bM n V vs w)(k:BdOn bB bM V w V' w'):Ao B w w':=by
 obtain⟨h1,h2,h3⟩:=h.lts;have h4:=h.lo;refine k.1.below (by omega) fun j hj hr=>?_
 rcases hr with e | e | e
 . omega
 . omega
 have:=(h3 j e).1;omega
theorem BdOn.set{bB bM:Nat}{V V':Au}{w w':Ba}(k:BdOn bB bM V w V' w'){g:Nat}(hg:w.heap.size<=g)(o:Nat)(u:Au):BdOn bB bM V w V' (w'.setCell ⟨g,o,Z⟩ u):=
 ⟨k.1.trans (Wrote.of_grown (R:=fun k=>k=g) (yo w' g o u) (fun k e _=>by cases e;rfl)) (fun k hk e=>by subst e;omega),k.2⟩
theorem BdOn.grown{bB bM:Nat}{V V':Au}{w w' w2:Ba}{row:Option Nat}(k:BdOn bB bM V w V' w')(hg:w'.grownBy w2 row)(hr:∀j,row=J j->w.heap.size<=j):BdOn bB bM V w V' w2:=
 ⟨k.1.trans (Wrote.of_grown (R:=fun k=>row=J k) hg (fun _ e _=>e)) (fun j hj e=>by have:=hr j e;omega),k.2⟩
theorem row_set{xs:List Int}{N p:Nat}(hx:xs.length=p)(hp:p<N)(u:Int):(xs++List.replicate (N-p) 0).set p u=(xs++[u])++List.replicate (N-(p+1)) 0:=by
 subst hx;rw[List.set_append_right _ _ (Lh _),NO,show N-xs.length=(N-(xs.length+1))+1 by omega,List.replicate_succ,List.set_cons_zero];simp
structure RwIn(B bB bM N:Nat)(V0:Au)(w0:Ba)(gN:Nat)(f:Nat->Vw)(vs:List Vw)(p:Nat)(V1:Au)(W:Ba):Prop where
 bd:BdIn B bB bM N V1 (zP f vs p).1 W
 row:RowAt W gN ((zP f vs p).2++List.replicate (N-p) 0)
 on:BdOn bB bM V0 w0 V1 W
 ne:V1.ownBlock≠J gN
 ng:w0.heap.size<=gN
 nb:gN≠bB/\gN≠bM
theorem RwIn.on_{B bB bM N:Nat}{V0:Au}{w0:Ba}{gN:Nat}{f:Nat->Vw}{vs:List Vw}{p:Nat}{V1:Au}{W W':Ba}(H:RwIn B bB bM N V0 w0 gN f vs p V1 W)(hb:Ao W.heap.size W W'):RwIn B bB bM N V0 w0 gN f vs p V1 W':=
 ⟨H.bd.on hb,Lb hb H.row.lt H.row,H.on.after hb,H.ne,H.ng,H.nb⟩
theorem RwIn.mid{B bB bM N:Nat}{V0:Au}{w0:Ba}{gN:Nat}{f:Nat->Vw}{vs:List Vw}{p:Nat}{V1 V':Au}{W W':Ba}(H:RwIn B bB bM N V0 w0 gN f vs p V1 W)(ho:BdOn bB bM V1 W V' W') :
  RowAt W' gN ((zP f vs p).2++List.replicate (N-p) 0)/\V'.ownBlock≠J gN:=by
 refine⟨(ho.1.block gN H.row.lt fun hr=>?_).trans H.row,fun e=>?_⟩
 . rcases hr with e | e | e
   . exact H.nb.1 e
   . exact H.nb.2 e
   exact H.ne e
 rcases ho.2 gN e with e | e
 . exact H.ne e
 have:=H.row.lt;omega
theorem RwIn.step{B bB bM N:Nat}{V0:Au}{w0:Ba}{gN:Nat}{f:Nat->Vw}{vs:List Vw}{p:Nat}{V1 V':Au}{W W':Ba}(H:RwIn B bB bM N V0 w0 gN f vs p V1 W)(hp:p<N)
  (hb:BdIn B bB bM N V' (xF (zP f vs p).1 (f p)).1 W') (ho:BdOn bB bM V1 W V' W') :
  RwIn B bB bM N V0 w0 gN f vs (p+1) V' (W'.setCell ⟨gN,p,Z⟩ (O U (xF (zP f vs p).1 (f p)).2)):=by
 obtain⟨h1,h2⟩:=H.mid ho;refine⟨hb.set H.nb.1 H.nb.2 h2 p _,?_,(H.on.trans ho).set H.ng p _,h2,H.ng,H.nb⟩;have h3:=h1.set p (xF (zP f vs p).1 (f p)).2;rw[row_set (yY f vs p) hp] at h3;exact h3
end
section
open Go.RowKit
attribute [local go_sem] Oper.semAt_some
theorem ints_raw{w:Ba}{A:Bb}{xs:List Int}(h:IAt w w.heap.size A xs):Raw w A xs.length (xs.map (O U)):=fun h0=>by
 obtain⟨b,off,e,ac,hc⟩:=h h0;refine⟨b,off,e,ac,fun j u hj=>?_⟩;obtain⟨x,hx,rfl⟩:∃x,xs[j]?=J x/\O U x=u:=by simpa using hj
 obtain⟨bg,rfl⟩:=Lo.1 hx;exact hc j bg
theorem ints_one(xs:List Int):∀u∈xs.map (O U),u.oneCell'=Av:=fun u hu=>by obtain⟨x,_,rfl⟩:=LG.1 hu;rfl
theorem ints_own{w:Ba}{aa:Nat}{v:Au}{xs:List Int}(h:OwnR kIn w aa v xs.length (xs.map (O U))):∃A cap,v=I A xs.length cap/\xs.length<=cap/\cap<=maxLen/\IAtS (fun k=>aa<=k) w A xs:=by
 have ac:=h.lt;obtain⟨A,cap,rfl,hc,hm,hr⟩:=h.form;refine⟨A,cap,rfl,hc,hm,fun h0=>?_⟩;obtain⟨g,rfl,hg,cy,bk⟩:=hr h0;refine⟨g,0,rfl,(ac g hg).1,cy,fun i hi=>?_⟩;rw[LN];exact bk i _ (by simp[hi])
theorem wH(A:Bb)(cap:Nat)(xs:List Int)(w:Ba)(hA:IAt w w.heap.size A xs)(hl:xs.length<=1000000) :
  Ap An 66 #[I A xs.length cap] w fun e w'=>∃A' c,e=Am (I A' xs.length c)/\IAtS (fun k=>w.heap.size<=k) w' A' xs/\Ao w.heap.size w w':=
 (JY A xs.length cap (xs.map (O U)) w (by simp) (ints_raw hA) (ints_one xs) hl).mono fun e w' ⟨v,h1,h2,h3⟩=>by
  obtain⟨A',c,h4,_,_,h5⟩:=ints_own h2;exact⟨A',c,by rw[h1,h4],h5,h3⟩
theorem vH(A:Bb)(cap:Nat)(xss:List (List Int))(w:Ba)(hA:LAt w w.heap.size A xss)(hl:xss.length<=100000)(aN:∀v∈xss,v.length<=100000) :
  Ap An 84 #[I A xss.length cap] w fun e w'=>∃v,e=Am v/\OwnX cIs (fun k=>w.heap.size<=k) w' w.heap.size v xss/\Ao w.heap.size w w':=by
 have HA:=zH hA;have ff:=zH aN;go_enter func84,ntmps84;go_wp2_with fail
 go_loopw [3,8] (fun o i wr=>∃k:Nat,k<=xss.length/\i=O U (k:Int)/\As (OwnX cIs (fun b=>w.heap.size<=b) wr w.heap.size o (xss.take k))/\As (Ao w.heap.size w wr)) (fun _ i _=>xss.length-(Aq i).toNat)
 case atStart=>exact⟨0,by omega,rfl,by rw[LO];exact OwnX.nil _ _ _ _,Lp _ _⟩
 obtain⟨k,hk,rfl,HO,HB⟩:=hrel
 by_cases dM:k<xss.length
 case neg=>
  obtain rfl:k=xss.length:=by omega
  rw[LJ] at HO;go_wp2_with fail;go_ret;exact⟨_,rfl,HO.out,HB.out⟩
 obtain⟨b,off,A',c',e1,hb,c0,hI⟩:=(HA.out.keep HB.out).at_ k dM;subst e1;have dY:As (xss.take (k+1)=xss.take k++[xss[k]]):=Lu dM;have nv:=ff.out _ (Ld dM);have bC:=HB.out.size;have cK:(0:Int)<=(k:Int):=by omega
 have bY:(k:Int)<(xss.length:Int):=by omega
 have iY:(xss.take k).length=k:=by rw[Ps];omega
 have IE:=zH iY;obtain⟨x,hx⟩:=Kh (xss[k]);rw[hx] at c0 hI dY nv;have HC:=zH (wH A' c' x wr (hI.more bC) (by omega));go_wp2_with fail;refine HC.out.mono ?_;rintro e w2 ⟨A2,c2,rfl,tV,ae⟩;have aU:As (Ao wr.heap.size wr (w2.alloc (Ah #[I A2 x.length c2] 49))):=ae.alloc ae.size _;have po:As (IAtS (fun b=>wr.heap.size<=b) (w2.alloc (Ah #[I A2 x.length c2] 49)) A2 x):=tV.keep (KeepB.alloc _ _ _);have nP:=zH (zg w2 (Ah #[I A2 x.length c2] 49));have pk:=zH (HO.out.below yr aU.out (Lh _));have dX:=ae.size;have Fb:=zH HO.out.lt;go_wp2_with (at_builtin;obtain⟨aD,bk,fb,bj⟩:=pk.out;rw[IE.out] at fb;refine yg Xz rfl (.tmp 12) (.tmp 15) rfl w.heap.size u3 k aD.flatten rfl fb w2.heap.size #[I A2 x.length c2] rfl nP.out rfl (by simp[Value.oneCell']) (by omega) (by simp;omega) _ rfl ?_;intro g' cap w7 dS de cd d9);have hX:cIs.lies (fun b=>(fun b=>w.heap.size<=b) b/\Value.ownBlock u3≠J b) _ [I A2 x.length c2] x:=⟨A2,c2,rfl,po.out.mono fun b _ hb=>⟨by show w.heap.size<=b;omega,fun e=>by have:=(Fb.out b e).2;omega⟩⟩;have fl:=dS;rw[<-IE.out] at fl;have tg:=zH (OwnX.app yr bk bj hX fl de cd);rw[<-dY.out,IE.out] at tg;have me:As (Ao w.heap.size w w7):=(HB.out.trans (aU.out.mono bC)).grown de (by simp;omega) (fun b hb=>(Fb.out b hb).1)
 go_roundw
 case rel=>exact⟨k+1,by omega,by go_num,tg,me⟩
 simp[Aq];omega
end
section
open Go.RowKit
def f0(inp:List Int):Nat->Vw:=fun p=>yq p (inp.getD p 0)
def fk(word:List Rd)(k:Nat)(row:List Int):Nat->Vw:=fun p=>xz (word.getD k default) (k+1) p row
structure PlIn(B bB bM N:Nat)(V0:Au)(w0:Ba)(vs:List Vw)(inp:List Int)(word:List Rd)(k:Nat)(V1 o:Au)(gk:Nat)(W:Ba):Prop where
 bd:BdIn B bB bM N V1 (zk vs N inp word k).1 W
 on:BdOn bB bM V0 w0 V1 W
 out:OwnX cIs (fun b=>w0.heap.size<=b/\V1.ownBlock≠J b) W w0.heap.size o (zk vs N inp word k).2
 no:∀b,V1.ownBlock=J b->o.ownBlock≠J b
 row:RowAt W gk ((zk vs N inp word k).2.getD k [])
 gl:w0.heap.size<=gk
 ng:V1.ownBlock≠J gk
 og:o.ownBlock≠J gk
 lt:bB<w0.heap.size/\bM<w0.heap.size
theorem rowk_len(vs:List Vw)(N:Nat)(inp:List Int)(word:List Rd)(k:Nat):((zk vs N inp word k).2.getD k []).length=N:=by
 have hl:=zW vs N inp word k;rw[Lf,Lg (by omega)];exact qe vs N inp word k _ (Ld _)
section
variable {B bB bM N:Nat} {V0:Au} {w0:Ba} {vs:List Vw} {inp:List Int} {word:List Rd}
theorem PlIn.start{V1:Au}{gN:Nat}{W:Ba}(_hN:N<=5)(h:RwIn B bB bM N V0 w0 gN (f0 inp) vs N V1 W)(hl:bB<w0.heap.size/\bM<w0.heap.size) :
  PlIn B bB bM N V0 w0 vs inp word 0 V1 (I (J ⟨W.heap.size,0,Z⟩) 1 1) gN (W.alloc (Ah #[I (J ⟨gN,0,Z⟩) N N] 49)):=by
 have eG:=yY (f0 inp) vs N;have cy:=h.row.lt;have hb:=zt W (Ah #[I (J ⟨gN,0,Z⟩) N N] 49);have aR:=h.row;rw[NO,List.replicate_zero,Nf] at aR;refine⟨h.bd.on hb,h.on.after hb,⟨[[I (J ⟨gN,0,Z⟩) N N]],rfl,?_,fun i i1 i2=>?_⟩,fun b e e2=>?_,Lb hb cy aR,h.ng,h.ne,fun e=>?_,hl⟩
 . refine OwnR.of_block (K:=kIs) (n:=1) (zg W _) ?_ rfl (by unfold maxLen;omega)
   have:=h.on.1.size;omega
 . obtain rfl:i=0:=by simp at i1;omega
   refine⟨J ⟨gN,0,Z⟩,N,?_,?_⟩
   . show [I (J ⟨gN,0,Z⟩) N N]=[.slice (J ⟨gN,0,Z⟩) (zP (f0 inp) vs N).2.length N]
     rw[eG]
   intro _;refine⟨gN,0,rfl,⟨⟨h.ng,h.ne⟩,fun e=>?_⟩,by simp;omega,fun j hj=>?_⟩
   . have:W.heap.size=gN:=by simpa[Value.ownBlock] using e
     omega
   rw[LN];exact RowAt.cell (Lb hb cy aR) j hj
 . have h1:W.heap.size=b:=by simpa[Value.ownBlock] using e2
   have:=(h.bd.own.lt b e).2;omega
 have h1:W.heap.size=gN:=by simpa[Value.ownBlock] using e
 omega
theorem PlIn.outn{k:Nat}{V1 o:Au}{gk:Nat}{W Wx:Ba}{gX:Nat}{f:Nat->Vw}{V3:Au}{p:Nat}{W3:Ba}(h:PlIn B bB bM N V0 w0 vs inp word k V1 o gk W)(hx:Ao W.heap.size W Wx)
  (r:RwIn B bB bM N V1 Wx gX f (zk vs N inp word k).1 p V3 W3) :
  OwnX cIs (fun b=>w0.heap.size<=b/\V3.ownBlock≠J b) W3 w0.heap.size o (zk vs N inp word k).2/\(∀b,V3.ownBlock=J b->o.ownBlock≠J b):=by
 have Mn:=hx.size;have rZ:=h.out.lt
 have h1:OwnX cIs (fun b=>(w0.heap.size<=b/\V1.ownBlock≠J b)/\V3.ownBlock≠J b) Wx w0.heap.size o (zk vs N inp word k).2:=
  (h.out.below yr hx (Lh _)).mono yr fun b hb hs=>⟨hs,fun e=>by
   rcases r.on.2 b e with e | e
   . exact hs.2 e
   . omega⟩
 refine⟨(h1.keep yr (r.on.1.keep fun b _ hs hr=>?_) fun b hb=>r.on.1.block b (by have:=(rZ b hb).2;omega) fun hr=>?_).mono yr fun b _ hs=>⟨hs.1.1,hs.2⟩,fun b e e2=>?_⟩
 . rcases hr with e | e | e
   . have:=h.lt.1;have:=hs.1.1;omega
   . have:=h.lt.2;have:=hs.1.1;omega
   exact hs.1.2 e
 . have:=(rZ b hb).1
   rcases hr with e | e | e
   . have:=h.lt.1;omega
   . have:=h.lt.2;omega
   exact h.no b e hb
 rcases r.on.2 b e with e | e
 . exact h.no b e e2
 have:=(rZ b e2).2;omega
theorem PlIn.rown{k:Nat}{V1 o:Au}{gk:Nat}{W Wx:Ba}{gX:Nat}{f:Nat->Vw}{V3:Au}{p:Nat}{W3:Ba}(h:PlIn B bB bM N V0 w0 vs inp word k V1 o gk W)(hx:Ao W.heap.size W Wx)
  (r:RwIn B bB bM N V1 Wx gX f (zk vs N inp word k).1 p V3 W3):RowAt W3 gk ((zk vs N inp word k).2.getD k []):=by
 have Mn:=hx.size;have cy:=h.row.lt;refine(r.on.1.block gk (by omega) fun hr=>?_).trans (Lb hx cy h.row);have:=h.gl;rcases hr with e | e | e
 . have:=h.lt.1;omega
 . have:=h.lt.2;omega
 exact h.ng e
theorem PlIn.next{k:Nat}{V1 o:Au}{gk:Nat}{W Wx:Ba}{gX:Nat}{V3:Au}{W3 W4 w5:Ba}{aD:List (List Au)}{g' cap:Nat}(h:PlIn B bB bM N V0 w0 vs inp word k V1 o gk W)(hx:Ao W.heap.size W Wx)
  (r:RwIn B bB bM N V1 Wx gX (fk word k ((zk vs N inp word k).2.getD k [])) (zk vs N inp word k).1 N V3 W3) (h4:Ao W3.heap.size W3 W4)
  (bk:aD.length=(zk vs N inp word k).2.length) (bj:∀(i:Nat) (h1:i<aD.length) (h2:i<(zk vs N inp word k).2.length),cIs.lies (fun b=>(w0.heap.size<=b/\V3.ownBlock≠J b)/\o.ownBlock≠J b) W4 aD[i] (zk vs N inp word k).2[i])
  (hr:OwnR kIs w5 w0.heap.size (I (J ⟨g',0,Z⟩) ((zk vs N inp word k).2.length+1) cap) ((zk vs N inp word k).2.length+1) (aD.flatten++[I (J ⟨gX,0,Z⟩) N N]))
  (hg:W4.grownBy w5 o.ownBlock) (bz:o.ownBlock=J g'\/g'=W4.heap.size) :
  PlIn B bB bM N V0 w0 vs inp word (k+1) V3 (I (J ⟨g',0,Z⟩) ((zk vs N inp word k).2.length+1) cap) gX w5:=by
 obtain⟨lp,eU⟩:=h.outn hx r;have eG:=yY (fk word k ((zk vs N inp word k).2.getD k [])) (zk vs N inp word k).1 N;have cy:=r.row.lt;have fK:=h4.size;have Mn:=hx.size;have rZ:=lp.lt;have hlW:=h.on.1.size;have hxg:=r.ng
 have r9:o.ownBlock≠J gX:=fun e=>by
  have:=(h.out.lt gX e).2;omega
 have aR:=r.row;rw[NO,List.replicate_zero,Nf] at aR;have BG:RowAt w5 gX (zP (fk word k ((zk vs N inp word k).2.getD k [])) (zk vs N inp word k).1 N).2:=(hg.block gX (by omega) (fun e=>r9 e.symm)).trans (Lb h4 cy aR);have e1:(zk vs N inp word (k+1)).2=(zk vs N inp word k).2++[(zP (fk word k ((zk vs N inp word k).2.getD k [])) (zk vs N inp word k).1 N).2]:=rfl;have aC:=zW vs N inp word k
 have CK:V3.ownBlock≠J g':=fun e=>by
  rcases bz with e2 | e2
  . exact eU g' e e2
  . have:=(r.bd.own.lt g' e).2;omega
 have hX:cIs.lies (fun b=>(w0.heap.size<=b/\V3.ownBlock≠J b)/\o.ownBlock≠J b) W4 [I (J ⟨gX,0,Z⟩) N N] (zP (fk word k ((zk vs N inp word k).2.getD k [])) (zk vs N inp word k).1 N).2:=by
  refine⟨J ⟨gX,0,Z⟩,N,by rw[eG],fun _=>⟨gX,0,rfl,⟨⟨by omega,r.ne⟩,r9⟩,by omega,fun j hj=>?_⟩⟩;rw[LN];exact RowAt.cell (Lb h4 cy aR) j hj
 refine⟨?_,?_,?_,?_,?_,by omega,r.ne,?_,h.lt⟩
 . refine(r.bd.on h4).grown hg (fun e=>?_) (fun e=>?_) (fun b hb e=>eU b hb e)
   . have:=(rZ bB e).1;have:=h.lt.1;omega
   have:=(rZ bM e).1;have:=h.lt.2;omega
 . exact((h.on.after hx).trans (r.on.after h4)).grown hg (fun j hj=>(rZ j hj).1)
 . rw[e1]
   exact OwnX.app yr bk bj hX hr hg bz
 . intro b hb e
   have:g'=b:=by simpa[Value.ownBlock] using e
   subst this;exact CK hb
 . rw[e1,Lf,LV (by omega),aC,NO]
   exact BG
 intro e;have:g'=gX:=by simpa[Value.ownBlock] using e
 subst this;rcases bz with e2 | e2
 . exact r9 e2
 omega
end
def xf(r:Rd)(p:Nat)(row:List Int)(q j:Nat):Int:=if j<q then zN r p row j else -1
def qA(r:Rd)(k p:Nat)(row:List Int)(q:Nat):Vw:=⟨p,k,0,xf r p row q 0,xf r p row q 1,xf r p row q 2,xf r p row q 3,xf r p row q 4⟩
theorem XD(r:Rd)(p:Nat)(row:List Int)(j:Nat):xf r p row row.length j=zN r p row j:=by
 unfold xf zN
 split
 . rfl
 rename_i h;rw[Lj (fun h2=>h h2.1)]
theorem Ji(r:Rd)(k p:Nat)(row:List Int):qA r k p row row.length=xz r k p row:=by
 unfold qA xz;simp only[XD]
theorem ub(r:Rd)(p:Nat)(row:List Int)(q j:Nat)(h:j≠q):xf r p row (q+1) j=xf r p row q j:=by
 unfold xf
 by_cases h1:j<q
 . rw[Ln h1,Ln (by omega)]
 rw[Lj h1,Lj (by omega)]
theorem seenQ_no(r:Rd)(k p:Nat)(row:List Int)(q:Nat)(h:(r.h p).toNat.testBit q=Ax):qA r k p row (q+1)=qA r k p row q:=by
 have key:∀j,xf r p row (q+1) j=xf r p row q j:=fun j=>by
  by_cases e:j=q
  . subst e
    have h1:zN r p row j=-1:=by unfold zN;rw[Lj (fun h2=>by rw[h] at h2;cases h2.2)]
    unfold xf;rw[Ln (by omega),Lj (by omega),h1]
  . exact ub r p row q j e
 unfold qA;simp only[key]
theorem Jh(r:Rd)(k p:Nat)(row:List Int)(q:Nat)(hq:q<row.length)(h5:q<5)(h:(r.h p).toNat.testBit q=Av):(qA r k p row q).cells.setIfInBounds (3+q) (O U row[q])=(qA r k p row (q+1)).cells:=by
 have e:xf r p row (q+1) q=row[q]:=by
  unfold xf;rw[Ln (by omega)];unfold zN;rw[Ln ⟨hq,h⟩,Lf,Lg hq];rfl
 have key:=fun j (h:j≠q)=>ub r p row q j h
 unfold qA Vw.cells
 match q,h5 with
 | 0,_=>simp only[key 1 (by decide),key 2 (by decide),key 3 (by decide),key 4 (by decide),e];rfl
 | 1,_=>simp only[key 0 (by decide),key 2 (by decide),key 3 (by decide),key 4 (by decide),e];rfl
 | 2,_=>simp only[key 1 (by decide),key 0 (by decide),key 3 (by decide),key 4 (by decide),e];rfl
 | 3,_=>simp only[key 1 (by decide),key 2 (by decide),key 0 (by decide),key 4 (by decide),e];rfl
 | 4,_=>simp only[key 1 (by decide),key 2 (by decide),key 3 (by decide),key 0 (by decide),e];rfl
theorem Rd.cells_h(r:Rd)(p:Nat)(hp:p<5):r.cells[1+p]?=J (O U (r.h p)):=by
 match p,hp with
 | 0,_=>rfl
 | 1,_=>rfl
 | 2,_=>rfl
 | 3,_=>rfl
 | 4,_=>rfl
theorem wQ{h j:Nat}(hh:h<32)(hj:j<5):(bits BinOp.and U ((h:Int) / 2^j) 1==1)=h.testBit j:=by
 match j,hj with
 | 0,_=>exact LI (jJ (p:=fun h=>decide ((bits BinOp.and U ((h:Int) / 2^0) 1==1)=h.testBit 0)) (by decide +kernel) hh)
 | 1,_=>exact LI (jJ (p:=fun h=>decide ((bits BinOp.and U ((h:Int) / 2^1) 1==1)=h.testBit 1)) (by decide +kernel) hh)
 | 2,_=>exact LI (jJ (p:=fun h=>decide ((bits BinOp.and U ((h:Int) / 2^2) 1==1)=h.testBit 2)) (by decide +kernel) hh)
 | 3,_=>exact LI (jJ (p:=fun h=>decide ((bits BinOp.and U ((h:Int) / 2^3) 1==1)=h.testBit 3)) (by decide +kernel) hh)
 | 4,_=>exact LI (jJ (p:=fun h=>decide ((bits BinOp.and U ((h:Int) / 2^4) 1==1)=h.testBit 4)) (by decide +kernel) hh)
theorem vZ{r:Rd}(h:yp r=0)(p:Nat)(hp:p<5):0<=r.h p/\r.h p<32:=by
 unfold yp at h
 split at h
 . cases h
 rename_i hn
 have key:∀k,k<=5->yi r (5-k) k=0->∀q,k<=q->q<5->xn r.n q (r.h q)=0:=by
  intro k hk
  induction hm:5-k generalizing k with
  | zero=>intro _ q h1 h2;omega
  | succ m ih=>
   intro hz q h1 h2;unfold yi at hz
   split at hz
   . rename_i bG;exact absurd hz bG
   . rename_i bG
     by_cases e:q=k
     . subst e;simpa using bG
     . exact ih (k+1) (by omega) (by omega) hz q (by omega) h2
 have h1:=key 0 (by omega) h p (by omega) hp;unfold xn at h1
 split at h1
 . split at h1
   . cases h1
   rename_i h2;have:r.h p=0:=by simpa using h2
   omega
 split at h1
 . cases h1
 rename_i h2
 have h3:(2^r.n.toNat-1:Nat)<32:=by
  have:2^r.n.toNat<=2^5:=N7 (by omega) (by omega);omega
 omega
end
section
open Go.RowKit
attribute [local go_sem] Oper.semAt_some
theorem play_any(B bB bM N:Nat)(h1:1<=N)(h5:N<=5)(V:Au)(vs:List Vw)(iX:vs.length<=40000)(inp:List Int)(bV:inp.length=N)(word:List Rd)(mA:word.length<=6)(lM:∀r∈word,zO r=0/\r.n=N)
  (A AW:Bb) (ci cw:Nat) (w:Ba) (hBw:B<=w.heap.size) (H:BdIn B bB bM N V vs w) (hI:IAt w B A inp) (hW:RAt w B AW word) :
  Ap An 53 #[Ak (J ⟨bB,0,Z⟩),I A inp.length ci,I AW word.length cw] w fun e w'=>∃v V',e=Am v/\BdIn B bB bM N V' (zk vs N inp word word.length).1 w'/\BdOn bB bM V w V' w' /\
   OwnX cIs (fun b=>w.heap.size<=b/\V'.ownBlock≠J b) w' w.heap.size v (zk vs N inp word word.length).2/\∀b,V'.ownBlock=J b->v.ownBlock≠J b:=by
 have HI:=zH hI;have HW:=zH hW;have rg:=zH lM;have HH:=zH H;have eK:=vn N h1 (by omega);have HM:=zH eK;obtain⟨ar,z'⟩:=Kh (((List.replicate N 0).map (O U)).toArray);rw[z'] at eK;have Si:=zH z';have b0:=za H.hB 0 rfl;have Ks:=zH bV;rw[bV];obtain⟨l1,l2,l3⟩:=H.lts;clear z' hI hW lM H bV l3;go_enter func53,ntmps53;go_wp2_with fail;obtain⟨w1,ag,d0,bq,aw⟩:=zq w ar 3;rw[ag]
 have R1:As (RwIn B bB bM N V w w.heap.size (f0 inp) vs 0 V w1):=
  ⟨HH.out.on aw,by show w1.heap[w.heap.size]?=_;rw[d0,<-Si.out];rfl,(BdOn.refl _ _ _ _).after aw,fun e=>by have:=(HH.out.own.lt _ e).2;omega,Lh _,by omega,by omega⟩
 go_loopw [24] (fun i wr=>∃(p:Nat) (V1:Au),p<=N/\i=O U (p:Int)/\As (RwIn B bB bM N V w w.heap.size (f0 inp) vs p V1 wr)) (fun i _=>N-(Aq i).toNat)
 case atStart=>exact⟨0,V,by omega,rfl,R1.out⟩
 obtain⟨p,V1,hp,rfl,HR⟩:=hrel
 by_cases Ty:p<N
 case neg=>
  obtain rfl:N=p:=by omega
  go_wp2_with fail;have P0:=zH (PlIn.start (word:=word) h5 HR.out ⟨l1,l2⟩);obtain⟨W1,cG⟩:=Kh (wr.alloc (Ah #[I (J ⟨w.heap.size,0,Z⟩) N N] 49));rw[cG] at P0 ⊢;obtain⟨g0,Ex⟩:=Kh wr.heap.size;rw[Ex] at P0 ⊢;obtain⟨gn,MR⟩:=Kh w.heap.size;rw[MR];have P0:As (PlIn B bB bM N V w vs inp word 0 V1 (I (J ⟨g0,0,Z⟩) 1 1) gn W1):=by rw[<-MR];exact P0.out
  go_loopw [7,9,44] (fun nw o i wr=>∃(k:Nat) (V1:Au) (gk:Nat),k<=word.length/\nw=I (J ⟨gk,0,Z⟩) N N/\i=O U (k:Int)/\As (PlIn B bB bM N V w vs inp word k V1 o gk wr)) (fun _ _ i _=>word.length-(Aq i).toNat)
  case atStart=>exact⟨0,V1,gn,by omega,rfl,rfl,P0.out⟩
  obtain⟨k,V2,gk,hk,rfl,rfl,HP⟩:=hrel
  by_cases dM:k<word.length
  case neg=>
   obtain rfl:k=word.length:=by omega
   go_wp2_with fail;go_ret;exact⟨_,V2,rfl,HP.out.bd,HP.out.on,HP.out.out,HP.out.no⟩
  obtain⟨bw,ow,e1,b9,c0,c1,c2,c3,c4,c5,c6⟩:=(HW.out.keep (HP.out.on.bel HH.out)).row k dM;subst e1;have oF:=rg.out _ (Ld dM);have dU:word.getD k default=word[k]:=by rw[Lf,Lg dM];rfl
  obtain⟨r,hr⟩:=Kh (word[k]);rw[hr] at c0 c1 c2 c3 c4 c5 c6 oF dU;have AQ:=zH dU;have Vz:=zH (qQ oF.1).2.2.1;have cK:(0:Int)<=(k:Int):=by omega
  have bY:(k:Int)<(word.length:Int):=by omega
  have B7:IntKind.i64.wrap ((k:Int)+1)=(k:Int)+1:=by rw[Ly];omega
  have b0:wr.cell? ⟨bB,0,Z⟩=J (O U (N:Int)):=za HP.out.bd.hB 0 rfl;have Uw:bB<wr.heap.size:=HP.out.bd.lts.1;have Un:bw<wr.heap.size:=by have:=HP.out.on.1.size;omega
  clear hr oF dU;go_wp2_with fail;clear c0 c1 c2 c3 c4 c5 c6;obtain⟨W1,cG,g0,ch,EQ⟩:=zq wr r.cells 75;unfold Rd.cells at cG;rw[cG];obtain⟨W2,dx,x0,dX,Oy⟩:=zq W1 ar 3;rw[dx];rw[ch] at x0;have rz:=zH g0;have dA:=zH EQ;obtain⟨row,aR⟩:=Kh ((zk vs N inp word k).2.getD k []);have fT:=zH aR;have AG:As (row.length=N):=by rw[<-aR];exact rowk_len vs N inp word k
  have rN:=HP.out.on.1.size
  have R0:As (RwIn B bB bM N V2 W1 (wr.heap.size+1) (fk word k row) (zk vs N inp word k).1 0 V2 W2):=
   ⟨(HP.out.bd.on EQ).on Oy,by show W2.heap[_]?=_;rw[x0,<-Si.out];rfl,(BdOn.refl _ _ _ _).after Oy,fun e=>by have:=(HP.out.bd.own.lt _ e).2;omega,by omega,by omega,by omega⟩
  have VD:=zH (qC vs N inp word k)
  have hNk:(k+1)*N<=35:=by
   have:=NZ (show k+1<=7 by omega) h5;omega
  obtain⟨wo,rfl⟩:∃x,x=wr:=⟨_,rfl⟩
  go_loopw [56] (fun i wx=>∃(q:Nat) (V3:Au),q<=N/\i=O U (q:Int)/\As (RwIn B bB bM N V2 W1 (wo.heap.size+1) (fk word k row) (zk vs N inp word k).1 q V3 wx)) (fun i _=>N-(Aq i).toNat)
  case atStart=>exact⟨0,V2,by omega,rfl,R0.out⟩
  obtain⟨q,V3,hq,rfl,HR⟩:=hrel
  by_cases tK:q<N
  case neg=>
   obtain rfl:N=q:=by omega
   have lp:=HP.out.outn dA.out HR.out;have aC:=zW vs N inp word k;have su:=HR.out.row.lt;have nO:=zH (zg wr (Ah #[I (J ⟨wo.heap.size+1,0,Z⟩) N N] 49));have pi:=zH (lp.1.below yr (zt wr (Ah #[I (J ⟨wo.heap.size+1,0,Z⟩) N N] 49)) (Lh _));have HL:=zH aC;have SW:w.heap.size<=wr.heap.size:=by have:=HR.out.on.1.size;omega
   go_wp2_with (at_builtin;obtain⟨aD,bk,fb,bj⟩:=pi.out;rw[HL.out] at fb;refine yg Xz rfl (.tmp 92) (.tmp 94) rfl w.heap.size u9 (k+1) aD.flatten rfl fb wr.heap.size #[I (J ⟨wo.heap.size+1,0,Z⟩) N N] rfl nO.out rfl (by simp[Value.oneCell']) (by omega) (by simp;omega) _ rfl ?_;intro g' cap w7 dS de cd d9);have rl:=HR.out;rw[<-fT.out] at rl;have fl:=dS;rw[<-HL.out] at fl;have AH:=zH (PlIn.next HP.out dA.out rl (zt wr _) bk bj fl de cd);rw[HL.out] at AH
   go_roundw
   case rel=>exact⟨k+1,V3,wo.heap.size+1,by omega,rfl,by go_num,AH⟩
   simp[Aq];omega
  go_wp2_with fail;refine(vO wr).mono ?_;rintro e w3 ⟨rfl,ap⟩;have R3:=zH (HR.out.on_ ap);go_wp2_with fail;obtain⟨W4,lD,v0,lg,cD⟩:=zq w3 (qA r (k+1) q row 0).cells 100;have Hb:w3.alloc (Ah #[O U (q:Int),O U ((k:Int)+1),O U 0,O U (-1),O U (-1),O U (-1),O U (-1),O U (-1)] 100)=W4:=by rw[<-lD];rfl
  rw[Hb];have fj:=ap.size;have GG:wo.heap.size<w3.heap.size:=by have:=HR.out.on.1.size;omega
  have DH:As (w3.heap[wo.heap.size]?=J (Ah r.cells 75 (0,0))):=by
   refine(R3.out.on.1.block wo.heap.size (by omega) fun hr=>?_).trans rz.out;have:=HP.out.bd.lts;rcases hr with e | e | e
   . omega
   . omega
   have:=(this.2.2 _ e).2;omega
  have rm:As (RowAt w3 gk row):=by have:=HP.out.rown dA.out R3.out;rw[fT.out] at this;exact this
  obtain⟨wp,rfl⟩:∃x,x=wr:=⟨_,rfl⟩
  go_loopw [66] (fun i wy=>∃j:Nat,j<=N/\i=O U (j:Int)/\As (wy.heap[w3.heap.size]?=J (Ah (qA r (k+1) q row j).cells 100 (0,0)))/\As (Ao w3.heap.size w3 wy)) (fun i _=>N-(Aq i).toNat)
  case atStart=>exact⟨0,by omega,rfl,v0,cD⟩
  clear v0 cD lg;obtain⟨j,hj,rfl,HV,DO⟩:=hrel
  by_cases hjN:j<N
  case neg=>
   obtain rfl:N=j:=by omega
   have M5:fk word k row q=qA r (k+1) q row N:=by
    have:=Ji r (k+1) q row;rw[AG.out] at this;rw[this];show xz (word.getD k default) (k+1) q row=_;rw[AQ.out]
   obtain⟨vw,Ec⟩:=Kh (qA r (k+1) q row N);rw[Ec] at HV M5;have x0:wr.cell? ⟨w3.heap.size,0,Z⟩=J (O U vw.p):=za HV.out 0 rfl;have x1:wr.cell? ⟨w3.heap.size,1,Z⟩=J (O U vw.r):=za HV.out 1 rfl;have x2:wr.cell? ⟨w3.heap.size,2,Z⟩=J (O U vw.i):=za HV.out 2 rfl;have x3:wr.cell? ⟨w3.heap.size,3,Z⟩=J (O U vw.h0):=za HV.out 3 rfl;have x4:wr.cell? ⟨w3.heap.size,4,Z⟩=J (O U vw.h1):=za HV.out 4 rfl;have x5:wr.cell? ⟨w3.heap.size,5,Z⟩=J (O U vw.h2):=za HV.out 5 rfl;have x6:wr.cell? ⟨w3.heap.size,6,Z⟩=J (O U vw.h3):=za HV.out 6 rfl;have x7:wr.cell? ⟨w3.heap.size,7,Z⟩=J (O U vw.h4):=za HV.out 7 rfl;have R4:=R3.out.on_ DO.out;have hsq:=qB (fk word k row) (zk vs N inp word k).1 q;have Wt:=zH (YN B bB bM N V3 (zP (fk word k row) (zk vs N inp word k).1 q).1 vw (by have:=VD.out;omega) wr R4.bd);have Px:=zH R4;have AT:=zH M5;have lQ:(0:Int)<=(q:Int):=by omega
   have tM:(q:Int)<(N:Int):=by omega
   go_wp2_with fail;refine Wt.out.mono ?_;rintro e w5 ⟨rfl,V5,EB,mx⟩;have tQ:=Px.out.mid mx;rw[<-AT.out] at EB;have AF:=zH (Px.out.step tK EB mx);rw[AT.out] at AF;obtain⟨u5,c5⟩:∃u:Int,w5.cell? ⟨wo.heap.size+1,q,Z⟩=J (O U u):=⟨_,tQ.1.cell q (by rw[Lq,yY,N5];omega)⟩;have y5:=tQ.1.froz q;go_wp2_with fail
   go_roundw
   case rel=>exact⟨q+1,V5,by omega,by go_num,AF⟩
   simp[Aq];omega
  have GD:=rm.out.lt;have MJ:j<row.length:=by have:=AG.out;omega
  have n0:=(DO.out.cell (p:=⟨gk,j,Z⟩) GD).trans (rm.out.cell j MJ);have m0:wr.cell? ⟨wo.heap.size,1+q,Z⟩=J (O U (r.h q)):=(DO.out.cell (p:=⟨wo.heap.size,1+q,Z⟩) GG).trans (za DH.out (1+q) (Rd.cells_h r q (by omega)));obtain⟨y,hy⟩:=Kh (row[j]);rw[hy] at n0;have lj:=vZ Vz.out q (by omega);obtain⟨h,hh⟩:=Lr lj.1;have GB:h<32:=by omega
  rw[hh] at m0;have Cb:(0:Int)<=(j:Int):=by omega
  have tR:(j:Int)<(N:Int):=by omega
  have hj5:(j:Int)<5:=by omega
  have lQ:(0:Int)<=(q:Int):=by omega
  have tL:(q:Int)<5:=by omega
  have iy:=wQ GB (show j<5 by omega);have Mq:(r.h q).toNat=h:=by rw[hh];rfl
  have PM:=zH (seenQ_no r (k+1) q row j);have De:=zH (Jh r (k+1) q row j MJ (by omega));rw[Mq,hy] at De;rw[Mq] at PM;have z0:wr.cell? ⟨w3.heap.size,3+j,Z⟩=J (O U ((qA r (k+1) q row j).h j)):=za HV.out (3+j) (Vw.cells_h _ j (by omega));have zf:=zb HV.out (3+j)
  by_cases hb:h.testBit j=Av
  case pos=>
   rw[hb] at iy;have HS:=zH (De.out hb);go_wp2_with fail
   go_roundw
   case rel=>exact⟨j+1,by omega,by go_num,by show _=_;rw[Lk wr _ (3+j) _ _ _ HV.out,HS.out],DO.out.setCell (Lh _) _⟩
   simp[Aq];omega
  have ae:h.testBit j=Ax:=by simpa using hb
  rw[ae] at iy;have HS:=zH (PM.out ae);go_wp2_with fail
  go_roundw
  case rel=>exact⟨j+1,by omega,by go_num,by show _=_;rw[HS.out];exact HV.out,DO.out⟩
  simp[Aq];omega
 have bV:=Ks.out;obtain⟨bi,oi,e1,oS,i0⟩:=(HI.out.keep (HR.out.on.bel HH.out)).at_ p (by omega);subst e1;have Gs:As ((f0 inp) p=yq p inp[p]):=by show yq p (inp.getD p 0)=_;rw[Lf,Lg (by omega)];rfl
 obtain⟨x,hx⟩:=Kh (inp[p]);rw[hx] at i0 Gs;have oH:(0:Int)<=(p:Int):=by omega
 have Ek:(p:Int)<(N:Int):=by omega
 have aB:bi<wr.heap.size:=by have:=HR.out.row.lt;omega
 go_wp2_with fail;have lZ:=zH (qB (f0 inp) vs p)
 refine zE [(0,Av),(1,Av),(2,Av),(3,Av),(4,Av),(5,Av),(6,Av),(7,Av),(8,Ax),(9,Ax),(10,Ax),(11,Ax),(12,Ax)]
  (fun W=>W.cell? ⟨bi,oi+p,Z⟩=J (O U x)) (by kernel_rfl) (by kernel_rfl) (by exact i0) ?_
 repeat
  apply zX rfl
  . rintro K' ai W y0
    go_simp;exact ai
 refine zG rfl ?_;intro K' ai;go_simp;refine(vO wr.drew).mono ?_;rintro e w3 ⟨rfl,ap⟩;have ap:Ao wr.heap.size wr w3:=vx ap;have R3:=HR.out.on_ ap;have i3:=(ap.cell (p:=⟨bi,oi+p,Z⟩) aB).trans i0;refine ai _ _ i3 ?_;refine zG rfl ?_;intro K' ai;go_simp;refine ai _ _ i3 ?_;refine zG rfl ?_;intro K' ai;go_simp;refine(YN B bB bM N V1 (zP (f0 inp) vs p).1 (yq p x) (by have:=lZ.out;omega) w3 R3.bd).mono ?_;rintro e w4 ⟨rfl,V4,M9,F7⟩;have sh:=R3.mid F7;rw[<-Gs.out] at M9;have l8:=zH (R3.step Ty M9 F7);rw[Gs.out] at l8
 have i4:w4.cell? ⟨bi,oi+p,Z⟩=J (O U x):=by
  refine(L6 (F7.1.block bi (by have:=ap.size;omega) fun hr=>?_)).trans i3;have lS:=HR.out.bd.lo;rcases hr with e | e | e
  . omega
  . omega
  have:=(R3.bd.own.lt bi e).1;omega
 refine ai _ _ i4 ?_;obtain⟨u4,c4⟩:∃u:Int,w4.cell? ⟨w.heap.size,p,Z⟩=J (O U u):=⟨_,sh.1.cell p (by rw[Lq,yY,N5];omega)⟩;have y4:=sh.1.froz p;refine zG rfl ?_;intro K' ai;go_simp;refine ai _ _ i4 ?_;refine xb rfl (by kernel_rfl) ?_;intro K' ai;go_simp;refine ai (fun _=>True) _ _ trivial ?_;refine yh ?_;go_wp2_with fail
 go_roundw
 case rel=>exact⟨p+1,V4,by omega,by go_num,l8⟩
 simp[Aq];omega
end
section
open Go.RowKit Go.Shelf
attribute [local go_sem] Oper.semAt_some
def zx(n:Nat):Nat->Nat->List (Nat×Nat)
 | _,0=>[]
 | i,m+1=>(List.range n).map (fun j=>(i,j))++zx n (i+1) m
def xk(n i j:Nat):List (Nat×Nat):=((List.range n).drop j).map fun j=>(i,j)
theorem Zl{n i j:Nat}(h:j<n):xk n i j=(i,j)::xk n i (j+1):=by
 unfold xk;rw[Lw (by simpa using h)];simp
theorem Z1(n i:Nat):xk n i n=[]:=by unfold xk;simp
theorem kg{n:Nat}:∀(m i:Nat) (x:Nat×Nat),x∈zx n i m->i<=x.1/\x.1<i+m/\x.2<n
 | 0,_,_,h=>by cases h
 | m+1,i,x,h=>by
  rcases LR.1 h with h | h
  . obtain⟨j,hj,rfl⟩:=LG.1 h
    exact⟨Lh _,by show i<_;omega,by simpa using hj⟩
  . obtain⟨a,b,c⟩:=kg m (i+1) x h
    exact⟨by omega,by omega,c⟩
theorem JQ(p:Pb)(A:Bb)(kc:Nat)(SV:Bb)(ks:Nat)(V:Bb)(nw cw:Nat)(w:Ba):Ap An 51 #[.agg (p.vs A kc SV ks),I V nw cw] w fun e w'=>
  e=Am (.func (.func 87) #[] #[Ak (J ⟨w.heap.size,0,Z⟩),Ak (J ⟨w.heap.size+1,0,Z⟩)])/\(w.alloc (Ah (p.vs A kc SV ks) 29)).alloc (Ah #[I V nw cw] 104)=w':=by
 unfold Pb.vs;go_enter func51,ntmps51;go_wp2;go_ret;exact⟨rfl,rfl⟩
def SlAt(w:Ba)(B:Nat)(AW:Bb)(nw:Nat)(sl:Nat->Au):Prop:=∀j,j<nw->∃b off,AW=J ⟨b,off,Z⟩/\b<B/\w.cell? ⟨b,off+j,Z⟩=J (sl j)
theorem SlAt.same{w w':Ba}{B:Nat}{AW:Bb}{nw:Nat}{sl:Nat->Au}(h:SlAt w B AW nw sl)(hk:∀k,k<B->w'.heap[k]?=w.heap[k]?):SlAt w' B AW nw sl:=fun j hj=>by
 obtain⟨b,off,e,hb,hc⟩:=h j hj;exact⟨b,off,e,hb,(L6 (hk b hb)).trans hc⟩
theorem YC(C:Array Au)(M:Nat)(hf:M<=30)(A:Bb)(kc:Nat)(hC:C[3]?=J (I A M kc))(AW:Bb)(nw cw:Nat)(hnw:nw<=5000)(sl:Nat->Au)(B bp bw:Nat)(w:Ba)(hp:w.heap[bp]?=J (Ah C 29))(hw:w.heap[bw]?=J (Ah #[I AW nw cw] 104))
  (hS:SlAt w B AW nw sl) (hB:B<=w.heap.size) :
  Iter An 87 #[Ak (J ⟨bp,0,Z⟩),Ak (J ⟨bw,0,Z⟩)] (fun x:Nat×Nat=>#[O U x.1,sl x.2]) (fun k=>k<B\/k=bp\/k=bw) (zx nw 0 M) w:=fun n hn l Ag Jx W hW hJ Oq hY h0=>by
 have EC:bp<w.heap.size:=(Li.1 hp).1;have b9:bw<w.heap.size:=(Li.1 hw).1;have oH:=(hW.block bp EC).trans hp;have rN:=(hW.block bw b9).trans hw;have lc:=zH (hS.same (w':=W) fun k hk=>hW.block k (by omega));have HY:=zH hY;have c3:=za oH 3 hC;have H0:=zH h0;have Ds:=zH oH;have rh:=zH rN;have US:B<=W.heap.size:=Lz hB hW.size;have hpW:bp<W.heap.size:=LF EC hW.size;have hwW:bw<W.heap.size:=LF b9 hW.size;refine callsIn_of_wp func87 rfl trivial ?_ rfl;simp only[ntmps87,List.size_toArray,List.length_cons,List.length_nil,Nat.reduceAdd,Nat.reduceSub,Array.replicate_succ,Array.replicate_zero,List.push_toArray,List.append_toArray,List.nil_append,List.cons_append];gi_wp2
 gi_loopw [11] (fun q wr=>∃s:Nat,s<=M/\q=O U (s:Int)/\∃pre:List { x:Nat×Nat // x∈zx nw 0 M },As (pre.map (·.1)++zx nw s (M-s)=zx nw 0 M)/\As (Ag pre wr)/\As (SlAt wr B AW nw sl)/\As (wr.heap[bp]?=J (Ah C 29))/\As (wr.heap[bw]?=J (Ah #[I AW nw cw] 104))/\W.heap.size<=wr.heap.size) (fun q _=>M-(Aq q).toNat)
 case atStart=>exact⟨0,by omega,rfl,[],by simp[As],H0,lc,Ds,rh,Lh _⟩
 case round=>
  obtain⟨s,hs,rfl,pre,lm,ic,mK,EP,CG,aZ⟩:=hrel
  by_cases ac:s<M
  · have Ez : zx nw s (M - s) = xk nw s 0 ++ zx nw (s + 1) (M - (s + 1)) := by
     rw[show M-s=(M-(s+1))+1 by omega,zx];unfold xk;rw[LS]
    have HP:As (pre.map (·.1)++(xk nw s 0++zx nw (s+1) (M-(s+1)))=zx nw 0 M):=by rw[<-Ez];exact lm.out
    have q0:=za CG.out 0 rfl;gi_wp2_with fail
    gi_loopw [16] (fun q wr=>∃j:Nat,j<=nw/\q=O U (j:Int)/\∃pre:List { x:Nat×Nat // x∈zx nw 0 M },As (pre.map (·.1)++(xk nw s j++zx nw (s+1) (M-(s+1)))=zx nw 0 M)/\As (Ag pre wr)/\As (SlAt wr B AW nw sl)/\As (wr.heap[bp]?=J (Ah C 29))/\As (wr.heap[bw]?=J (Ah #[I AW nw cw] 104))/\W.heap.size<=wr.heap.size) (fun q _=>nw-(Aq q).toNat)
    case atStart=>exact⟨0,by omega,rfl,pre,HP,ic,mK,EP,CG,aZ⟩
    case round=>
     obtain⟨j,hj,rfl,pre,lm,ic,mK,EP,CG,aZ⟩:=hrel
     by_cases bg:j<nw
     . obtain⟨b2,o2,rfl,ae,m0⟩:=mK.out j bg
       have rX:pre.map (·.1)++((s,j)::(xk nw s (j+1)++zx nw (s+1) (M-(s+1))))=zx nw 0 M:=by
        have:=lm.out;rw[Zl bg,L5] at this;exact this
       have cW:(s,j)∈zx nw 0 M:=by rw[<-rX];simp
       have aC:pre.length<(zx nw 0 M).length:=by
        have:=congrArg List.length rX;simp only[List.length_append,List.length_map,List.length_cons] at this;omega
       obtain⟨fn,tmps,assign,body,hy,hR⟩:=HY.out pre ⟨(s,j),cW⟩ _ ic.out aC;dsimp only at hy
       have Dr:As ((pre++[(⟨(s,j),cW⟩:{ x:Nat×Nat // x∈zx nw 0 M })]).map (·.1)++(xk nw s (j+1)++zx nw (s+1) (M-(s+1)))=zx nw 0 M):=by
        rw[LH,Ng];exact rX
       have HR:=zH hR;gi_wp2_with fail;refine HR.out.mono ?_;rintro e W3 (⟨rfl,CS,eM⟩ | ⟨rfl,mN⟩)
       . have bq:wr.heap.size<=W3.heap.size:=eM.size
         have S3:=zH (mK.out.same (fun k hk=>eM.same k (.inl hk) (by omega)));have P3:=zH ((eM.same bp (.inr (.inl rfl)) (by omega)).trans EP.out);have B3:=zH ((eM.same bw (.inr (.inr rfl)) (by omega)).trans CG.out);have J3:=zH CS;have mo:W.heap.size<=W3.heap.size:=by omega
         gi_wp2_with fail
         go_roundw
         case rel=>exact⟨j+1,by omega,by go_num,_,Dr,J3,S3,P3,B3,mo⟩
         case measure=>simp[Aq];omega
       . gi_wp2_with fail
         refine Nb (Rq rfl _ _ _) rfl ?_;refine⟨⟨_,rfl⟩,.inr ⟨_,?_,mN⟩⟩;exact⟨_,Dr.out⟩
     . obtain rfl:nw=j:=by omega
       have HP:As (pre.map (·.1)++zx nw (s+1) (M-(s+1))=zx nw 0 M):=by have:=lm.out;rwa[Z1,L4] at this
       gi_wp2_with fail
       go_roundw
       case rel=>exact⟨s+1,by omega,by go_num,pre,HP,ic,mK,EP,CG,aZ⟩
       case measure=>simp[Aq];omega
  . obtain rfl:M=s:=by omega
    have HP:As (pre.map (·.1)=zx nw 0 M):=by have:=lm.out;rwa[NO,zx,Nf] at this
    gi_wp2_with fail
    go_end0
    exact⟨⟨_,rfl⟩,.inl ⟨pre,HP.out,ic.out⟩⟩
end
section
open Go.RowKit
theorem jq:∀(j:Nat) (xss:List (List Mv)) (x:Int×Mv),x∈zp j xss->∃s,j<=s/\s<j+xss.length/\x.1=(s:Int)
 | _,[],x,h=>by cases h
 | j,l::r,x,h=>by
  rw[zp] at h;rcases LR.1 h with h | h
  . obtain⟨m,_,rfl⟩:=LG.1 h
    exact⟨j,Lh _,by simp,rfl⟩
  . obtain⟨s,h1,h2,h3⟩:=jq (j+1) r x h
    exact⟨s,by omega,by simp;omega,h3⟩
def qv(a:Ad)(k s:Nat)(xs:List (Int×Mv)):Nat:=(xs.map fun x=>if x.1=(s:Int) then zI a k x.2.to else 0).sum
theorem Jc(a:Ad)(k s:Nat)(xs:List (Int×Mv))(x:Int×Mv):qv a k s (xs++[x])=qv a k s xs+if x.1=(s:Int) then zI a k x.2.to else 0:=by
 unfold qv;rw[LH,RM];simp
theorem uG(a:Ad)(k s j:Nat)(h:s≠j):∀l:List Mv,qv a k s (l.map fun m=>((j:Int),m))=0
 | []=>rfl
 | m::l=>by
  have:=uG a k s j h l;unfold qv at this ⊢;rw[LZ,LZ,Rn,this,Lj (by intro e;apply h;omega)]
theorem gx(a:Ad)(k s:Nat):∀l:List Mv,qv a k s (l.map fun m=>((s:Int),m))=(l.map fun m=>zI a k m.to).sum
 | []=>rfl
 | m::l=>by
  have:=gx a k s l;unfold qv at this ⊢;rw[LZ,LZ,Rn,this,Ln rfl,LZ,Rn]
theorem sumF_app(a:Ad)(k s:Nat)(xs ys:List (Int×Mv)):qv a k s (xs++ys)=qv a k s xs+qv a k s ys:=by
 unfold qv;rw[LH,RM]
theorem gz(a:Ad)(k s:Nat):∀(j:Nat) (xss:List (List Mv)),qv a k s (zp j xss)=if j<=s then ((xss.getD (s-j) []).map fun m=>zI a k m.to).sum else 0
 | j,[]=>by simp[zp,qv]
 | j,l::r=>by
  rw[zp,sumF_app,gz a k s (j+1) r]
  by_cases e:s=j
  . subst e
    rw[gx,Lj (by omega),Ln (Lh _),NO];rfl
  . rw[uG a k s j e,LN]
    by_cases h:j<=s
    . rw[Ln (by omega),Ln h,show s-j=(s-(j+1))+1 by omega,Ri]
    . rw[Lj (by omega),Lj h]
theorem sumF_all(a:Ad)(k s:Nat):qv a k s (zp 0 a.sts)=zI a (k+1) (s:Int):=by
 rw[gz,Ln (Nl _),Pa,zI];unfold Ad.at_;rw[Lv]
def xN(a:Ad)(L k sl:Nat)(pre:List (Int×Mv)):List Int:=(List.range sl).map fun (j:Nat)=>((yw L (qv a k j pre):Nat):Int)
theorem Ju(a:Ad)(L k sl:Nat)(pre:List (Int×Mv)):(xN a L k sl pre).length=sl:=by unfold xN;simp
theorem Jt(a:Ad)(L k sl:Nat):xN a L k sl []=List.replicate sl 0:=by
 refine Pt (by simp[xN]) fun j h1 h2=>?_
 simp[xN,qv,ZY]
theorem vj(a:Ad)(L k sl:Nat)(pre:List (Int×Mv))(j:Nat)(h:j<(xN a L k sl pre).length):(xN a L k sl pre)[j]=((yw L (qv a k j pre):Nat):Int):=by simp[xN]
theorem Xl(a:Ad)(L k sl:Nat)(pre:List (Int×Mv))(x:Int×Mv)(s:Nat)(hx:x.1=(s:Int)):xN a L k sl (pre++[x])=(xN a L k sl pre).set s ((yw L (qv a k s pre+zI a k x.2.to):Nat):Int):=by
 refine Pt (by simp[xN]) fun j h1 h2=>?_
 rw[PW,vj,Jc,hx]
 by_cases e:s=j
 . subst e;rw[Ln rfl,Ln rfl]
 rw[Lj (by omega),Lj e,Pp,vj]
theorem Jv(a:Ad)(L k sl:Nat):xN a L k sl (zp 0 a.sts)=cl a L (k+1) sl:=by
 unfold xN cl;refine Pf fun j _=>?_
 rw[sumF_all]
theorem cl_first(a:Ad)(L sl:Nat):cl a L 0 sl=List.replicate sl 1:=by
 refine Pt (by simp[cl]) fun j h1 h2=>?_
 rw[wI];simp[zI,Qt]
end
section
open Go.RowKit Go.Shelf
attribute [local go_sem] Oper.semAt_some
theorem wh{B:Nat}{ds:List Deferred}{w w':Ba}(h:Marks B ds w)(hs:∀k:Nat,w.heap[k]?=J (Obj.deferred (J []))->w'.heap[k]?=J (Obj.deferred (J []))):Marks B ds w':=by
 obtain⟨rs,e,hn,hk⟩:=h;exact⟨rs,e,hn,fun r hr=>⟨(hk r hr).1,hs r (hk r hr).2⟩⟩
structure NmIn(B:Nat)(C:Array Au)(L:Int)(g7 g:Nat)(cs:List Int)(w W:Ba):Prop where
 below:Ao B w W
 b0:W.heap[B]?=J (Ah C 27 (0,0))
 b1:W.heap[B+1]?=J (Ah #[O U L] 3 (0,0))
 b7:W.heap[g7]?=J (Ah #[I (J ⟨g,0,Z⟩) cs.length cs.length] 49 (0,0))
 row:RowAt W g cs
 h7:B+2<=g7
 hg:B+2<=g
theorem NmIn.on{B:Nat}{C:Array Au}{L:Int}{g7 g:Nat}{cs:List Int}{w W W':Ba}(h:NmIn B C L g7 g cs w W)(hb:Ao W.heap.size W W'):NmIn B C L g7 g cs w W':=
 ⟨h.below.trans (hb.mono (by have:=zd h.b0;omega)),La hb h.b0,La hb h.b1,La hb h.b7,Lb hb h.row.lt h.row,h.h7,h.hg⟩
theorem NmIn.turn{B:Nat}{C:Array Au}{L:Int}{g7 g:Nat}{cs:List Int}{w W W':Ba}{row:Option Nat}(h:NmIn B C L g7 g cs w W)(hg:W.grownBy W' row)(hr:∀r,row=J r->B<=r/\∃o:Obj,W.heap[r]?=J o/\o.isCells=Ax):NmIn B C L g7 g cs w W':=
 ⟨h.below.grown hg (by have:=zd h.b0;omega) (fun k hk=>(hr k hk).1),(LP hg (fun r e=>(hr r e).2) h.b0 rfl).trans h.b0,(LP hg (fun r e=>(hr r e).2) h.b1 rfl).trans h.b1,
  (LP hg (fun r e=>(hr r e).2) h.b7 rfl).trans h.b7,(LP hg (fun r e=>(hr r e).2) h.row rfl).trans h.row,h.h7,h.hg⟩
theorem NmIn.setk{B:Nat}{C:Array Au}{L:Int}{g7 g:Nat}{cs:List Int}{w W:Ba}(h:NmIn B C L g7 g cs w W)(n j:Nat)(v:Au)(h7:g7<n)(hg:g<n):NmIn B C L g7 g cs w (W.setCell ⟨n,j,Z⟩ v):=by
 have h1:=h.h7
 exact⟨h.below.setCell (by show B<=n;omega) _,(Le W ⟨n,j,Z⟩ v B (by show B≠n;omega)).trans h.b0,(Le W ⟨n,j,Z⟩ v (B+1) (by show B+1≠n;omega)).trans h.b1,
  (Le W ⟨n,j,Z⟩ v g7 (by show g7≠n;omega)).trans h.b7,(Le W ⟨n,j,Z⟩ v g (by show g≠n;omega)).trans h.row,h.h7,h.hg⟩
theorem NmIn.swap{B:Nat}{C:Array Au}{L:Int}{g7 g n:Nat}{cs lF:List Int}{w W:Ba}(h:NmIn B C L g7 g cs w W)(hr:RowAt W n lF)(hn:B+2<=n)(bG:n≠g7):NmIn B C L g7 n lF w (W.setCell ⟨g7,0,Z⟩ (I (J ⟨n,0,Z⟩) lF.length lF.length)):=by
 have h1:=h.h7;obtain⟨x1,x2,x3⟩:=j6 h.b7 (I (J ⟨n,0,Z⟩) lF.length lF.length);exact⟨h.below.setCell (by show B<=g7;omega) _,(x3 B (by omega)).trans h.b0,(x3 (B+1) (by omega)).trans h.b1,x1,(x3 n bG).trans hr,h.h7,hn⟩
theorem Xx{D:Nat}{W:Ba}{n:Nat}{xs:List Int}(h:RowAt W n xs)(j:Nat)(v:Au):KeepsFrom D W (W.setCell ⟨n,j,Z⟩ v):=
 ⟨(yo W n j v).size,fun k o _ hk ho=>(Le W ⟨n,j,Z⟩ v k (by rintro rfl;rw[h] at hk;cases hk;cases ho)).trans hk⟩
theorem rep_arr(n:Nat):((List.replicate n (0:Int)).map (O U)).toArray=Array.replicate n (O U 0):=by simp
theorem Xj(a:Ad)(hf:FewA a)(hz:zj a a.sts=0)(h1:1<=a.sts.length)(K L:Nat)(hK:K<=6)(hL:L<=1048576)(SV:Bb)(ks:Nat)(w:Ba)(hS:SAt w w.heap.size SV a.sts) :
  Ap An 79 #[Aj #[O U a.n,I SV a.sts.length ks],O U K,O U L] w fun e w'=>e=Am (O U ((yw L (zI a K 0):Nat):Int))/\Ao w.heap.size w w':=by
 have df:=hf.1;have HI:=zH (fun (bx:Nat) (w':Ba) (hb:w'.heap[bx]?=J (Ah #[O U a.n,I SV a.sts.length ks] 27)) (h:SAt w' w.heap.size SV a.sts) (hB:w.heap.size<=w'.heap.size)=>qr a hf SV ks w.heap.size bx w' hb h hB);have HZ:=zH (@xa a hz);have HS:=zH hS;clear hS hz hf;refine zV func79 rfl ?_;simp only[ntmps79,List.size_toArray,List.length_cons,List.length_nil,Nat.reduceAdd,Nat.reduceSub,Array.replicate_succ,Array.replicate_zero,List.push_toArray,List.append_toArray,List.nil_append,List.cons_append];go_wp2_with fail;obtain⟨w2,cx,b0,b1,aZ,hB⟩:=zZ w #[O U a.n,I SV a.sts.length ks] #[O U (L:Int)] 27 3;have cf:w2.heap.size=w.heap.size+2:=by rw[<-cx];simp
 rw[cx];obtain⟨w3,oq,b2,rJ,aW⟩:=zq w2 #[O U 1] 3;rw[oq];clear cx oq;rw[show w2.heap.size=w.heap.size+1+1 by omega] at b2;refine(Z5 a.sts.length (w.heap.size+1+1) h1 df 1 w3 b2).mono ?_;rintro e w4 ⟨g,rfl,tW,aR,cD⟩
 have H4:As (NmIn w.heap.size #[O U a.n,I SV a.sts.length ks] L w4.heap.size g (cl a L 0 a.sts.length) w (w4.alloc (Ah #[I (J ⟨g,0,Z⟩) a.sts.length a.sts.length] 49))):=by
  have c0:=Lb cD (by omega) (Lb aW (by omega) b0);have c1:=Lb cD (by omega) (Lb aW (by omega) b1);have fK:=cD.size;refine⟨(hB.trans (aW.mono (by omega))).trans ((cD.mono (by omega)).trans ((Lp _ _).alloc (by omega) _)),zw c0 _,zw c1 _,?_,?_,by omega,by omega⟩
  . rw[qT];exact zg _ _
  rw[cl_first];exact zw aR _
 go_wp2_with fail;obtain⟨w5,nr⟩:=Kh (w4.alloc (Ah #[I (J ⟨g,0,Z⟩) a.sts.length a.sts.length] 49));rw[nr] at H4 ⊢;obtain⟨g7,de⟩:=Kh w4.heap.size;rw[de] at H4 ⊢;obtain⟨g0,Ex⟩:∃g0,g0=g:=⟨_,rfl⟩;have H5:As (NmIn w.heap.size #[O U a.n,I SV a.sts.length ks] L g7 g (cl a L 0 a.sts.length) w w5):=H4.out;refine wp_loop_ghost (fun (m:Nat) (a':Act) (w':Ba)=>∃(ds:List Deferred) (k h:Nat) (u8 Bn Bm Bl Bj Bi Bh Bg Bf:Au),(m=K-k/\k<=K/\As (NmIn w.heap.size #[O U a.n,I SV a.sts.length ks] L g7 h (cl a L k a.sts.length) w w')/\As (Marks w.heap.size ds w'))/\a'={ tmps:=#[Aj #[O U a.n,I SV a.sts.length ks],O U (K:Int),O U (L:Int),Ak (J ⟨w.heap.size,0,Z⟩),undef,Ak (J ⟨w.heap.size+1,0,Z⟩),O U 0,Ak (J ⟨g7,0,Z⟩),u8,undef,undef,I (J ⟨w.heap.size+1+1,0,Z⟩) 1 1,Ak (J ⟨w.heap.size,1,Z⟩),I SV a.sts.length ks,O U (a.sts.length:Int),I (J ⟨g0,0,Z⟩) a.sts.length a.sts.length,O U (K:Int),O U (k:Int),Bn,Bm,Bl,Bj,Bi,Bh,undef,undef,undef,undef,undef,undef,undef,undef,undef,undef,undef,undef,undef,undef,undef,undef,undef,undef,Bg,Bf,undef,undef,undef],defers:=ds }) K ?_ ?_
 . exact⟨[],0,g,_,_,_,_,_,_,_,_,_,⟨by omega,by omega,H5.out,Marks.nil _ _⟩,by rw[Ex];rfl⟩
 clear H5 Ex;rintro m a' wr ⟨ds,k,h,u8,Bn,Bm,Bl,Bj,Bi,Bh,Bg,Bf,⟨hm,hk,HN,MK⟩,rfl⟩;have nv:=qT a L k a.sts.length;have q7:=za HN.out.b7 0 rfl;rw[nv] at q7
 by_cases MF:k<K
 case neg=>
  obtain rfl:k=K:=by omega
  have c0:=HN.out.row.cell 0 (by omega);rw[wI] at c0;clear HI HZ;go_wp2_with fail;refine zS MK.out (v:=O U ((yw L (zI a k 0):Nat):Int)) (fun W=>by kernel_rfl) ?_;intro W hX;exact⟨rfl,HN.out.below.trans hX.below⟩
 case pos=>
 have eK:=vn a.sts.length h1 df;obtain⟨q0,q1,_⟩:=Ka HN.out.b0;go_upto_region 5 with fail
 obtain⟨W1,cG,d0,d1,bq,aw⟩:=zZ wr (Array.replicate a.sts.length (O U 0)) #[I (J ⟨wr.heap.size,0,Z⟩) a.sts.length a.sts.length] 3 49;rw[cG];have aR:RowAt W1 wr.heap.size (xN a L k a.sts.length []):=by rw[Jt];unfold RowAt;rw[rep_arr];exact d0
 have ti:=HN.out.on aw;obtain⟨hn,Cd⟩:=Kh wr.heap.size;have Ub:g7<hn:=by rw[<-Cd];exact zd HN.out.b7
 have hhg:h<hn:=by rw[<-Cd];exact HN.out.row.lt
 have hBn:w.heap.size+1<hn:=by rw[<-Cd];exact zd HN.out.b1
 have OR:As (Marks w.heap.size ds W1):=wh (w:=wr) MK.out fun x hx=>(aw.block x (Li.1 hx).1).trans hx
 rw[Cd] at aR d1 bq ⊢;obtain⟨q0,q1,_⟩:=Ka ti.b0;have fd:=zH ti;have nJ:=zH aR;have bN:=zH d1;clear cG d0 d1 aw aR ti eK Cd q7;go_wp2_with fail;refine(kH a.n (I SV a.sts.length ks) W1).mono ?_;rintro e W2 ⟨rfl,dx⟩;have bb:=zg W1 (Ah #[O U a.n,I SV a.sts.length ks] 27);have aO:Ao W1.heap.size W1 W2:=by rw[<-dx];exact zt _ _
 have dq:W2.heap.size=W1.heap.size+1:=by rw[<-dx];simp
 rw[dx] at bb;obtain⟨bx,aL⟩:=Kh W1.heap.size;have rr:=zH (fd.out.on aO);have ce:As (RowAt W2 hn (xN a L k a.sts.length [])):=Lb aO nJ.out.lt nJ.out;have ij:=zH (La aO bN.out);have OQ:As (Marks w.heap.size ds W2):=wh (w:=W1) OR.out fun x hx=>(aO.block x (Li.1 hx).1).trans hx
 rw[aL] at bb dq bq ⊢;have fX:=zH (HI.out bx W2 bb (HS.out.keep rr.out.below) (by omega));clear dx bb aO aL fd nJ bN OR q0 q1;go_wp2_with fail
 refine jW rfl (PD P1 (by kernel_rfl) rfl) fX.out (by rintro x (h | rfl)<;>omega) (fun _=>rfl)
  (fun (pre:List { x:Int×Mv // x∈zp 0 a.sts }) (X:Ba)=>NmIn w.heap.size #[O U a.n,I SV a.sts.length ks] L g7 h (cl a L k a.sts.length) w X/\X.heap[hn+1]?=J (Ah #[I (J ⟨hn,0,Z⟩) a.sts.length a.sts.length] 49 (0,0))/\RowAt X hn (xN a L k a.sts.length (pre.map (·.1)))/\W2.heap.size<=X.heap.size/\(∀y:Nat,W2.heap[y]?=J (Obj.deferred (J []))->X.heap[y]?=J (Obj.deferred (J []))))
  (fun _ _ _=>False)
  ?hI (fun _ _ _ _ _ h _ _=>h)
  ⟨rr.out,ij.out,ce.out,Lh _,fun _ h=>h⟩ (fun x=>x.2.cells) 121 ?a1 ?assign ?body ?done ?stop (fun _ _ h=>h.2.2.2.1)
 case hI=>
  intro s X X' row hX hg hr;refine⟨hX.1.turn hg (fun r e=>⟨by have:=(hr r e).1;omega,(hr r e).2⟩),(LP hg (fun r e=>(hr r e).2) hX.2.1 rfl).trans hX.2.1,(LP hg (fun r e=>(hr r e).2) hX.2.2.1 rfl).trans hX.2.2.1,Lz hX.2.2.2.1 hg.size,fun y hy=>?_⟩;have FG:=hX.2.2.2.2 y hy;have cu:=(Li.1 hy).1;exact(hg.block y (by have:=hX.2.2.2.1;omega) (fun e=>by have:=(hr y e.symm).1;omega)).trans FG
 case assign=>
  intro l pre x X K' hI hK;obtain⟨g',lr⟩:∃g',g'=X.heap.size:=⟨_,rfl⟩;have HK:=zH (hK g' lr ⟨hI.1.on (zt X _),zw hI.2.1 _,zw hI.2.2.1 _,by have:=hI.2.2.2.1;simp;omega,fun y hy=>(NR X _ y (Li.1 (hI.2.2.2.2 y hy)).1).trans (hI.2.2.2.2 y hy)⟩);have HG:=zH lr;unfold Mv.cells at HK ⊢;dsimp only at HK ⊢;clear hK lr hI;gi_wp2;rw[<-HG.out];exact HK.out
 case body=>
  intro l pre x g W3 hg dl hI ac;obtain⟨cH,iE,fF,Ox,CU⟩:=hI;obtain⟨s,_,fD,iU⟩:=jq 0 a.sts x.1 x.2;obtain⟨_,_,z3,z4⟩:=HZ.out x.1.2 (Zx x.2);have dh:=Xl a L k a.sts.length (pre.map (·.1)) x.1 s iU;obtain⟨t,et⟩:=Lr z3;have iY:t<a.sts.length:=by omega
  have fD:s<a.sts.length:=by omega
  have c8:=za iE 0 rfl;have rS:=fF.cell s (by rw[Ju];omega);rw[vj] at rS;have fS:=fF.froz s;have q7:=za cH.b7 0 rfl;rw[qT] at q7;have cT:=cH.row.cell t (by rw[qT];omega);rw[wI] at cT;have u7:=za dl 7 (u:=O U x.1.2.to) rfl;rw[et] at u7;have q1:=za cH.b1 0 rfl;rw[et] at dh;have oC:=Qv L (qv a k s (pre.map (·.1))) (zI a k (t:Int));have y1:=j7 L (qv a k s (pre.map (·.1)));have y2:=j7 L (zI a k (t:Int));rw[<-oC] at dh;obtain⟨n1,fE⟩:=Kh (yw L (qv a k s (pre.map (·.1))));obtain⟨n2,se⟩:=Kh (yw L (zI a k (t:Int)));rw[fE] at rS dh y1;rw[se] at cT dh y2;have Er:=fF.lt;have ii:=zH cH;have po:=zH iE;have DF:=zH fF;have tn:=zH CU;have dm:=zH dh;clear cH iE fF CU dh z3 z4 et fE se oC dl ac MK OQ ij ce rr fX HI HS
  try dsimp only
  rw[iU];clear iU HZ;gi_wp2_with fail;refine qc 16 (by kernel_rfl) (by kernel_rfl) (by kernel_rfl) (by rintro⟨_,_,h⟩;exact h) ?_;simp only[List.take_succ_cons,List.take_zero,List.drop_succ_cons,List.drop_zero]
  repeat still_step
  try refine RH ?_
  change wpList _ _ _ _ _ W3.drew;go_wp2_with fail;have hv:min ((n1:Int)+(n2:Int)) ((L:Int)+1)=((min (n1+n2) (L+1):Nat):Int):=by omega
  rw[hv];have dj:=DF.out.set s ((min (n1+n2) (L+1):Nat):Int);rw[<-dm.out] at dj;obtain⟨V,hV⟩:∃V:Au,O U ((min (n1+n2) (L+1):Nat):Int)=V:=⟨_,rfl⟩;rw[hV] at dj ⊢;have TD:¬(hn<w.heap.size\/hn=bx):=by omega
  refine⟨(Xx DF.out s V).trans (qs (Lp _ _).drew),?_,(ii.out.setk hn s V (by omega) (by omega)).on (Lp _ _).drew,?_,?_,?_,?_⟩
  . have bY:=KeepB.setCell (W:=W3) (K:=fun k=>k<w.heap.size\/k=bx) (a:=⟨hn,s,Z⟩) TD V
    exact bY.trans (KeepB.drew _ _)
  . exact(Le W3 ⟨hn,s,Z⟩ V (hn+1) (by show hn+1≠hn;omega)).trans po.out
  . show RowAt (W3.setCell ⟨hn,s,Z⟩ V) hn (xN a L k a.sts.length ((pre++[x]).map (·.1)))
    rw[LH];exact dj
  . show W2.heap.size<=(W3.setCell ⟨hn,s,Z⟩ V).heap.size
    exact Lz Ox (yo W3 hn s V).size
  intro y hy;exact(Le W3 ⟨hn,s,Z⟩ V y (by rintro rfl;have h5:=tn.out _ hy;rw[DF.out] at h5;cases h5)).trans (tn.out y hy)
 case done=>
  intro D ys W3 hD eo hI dI;obtain⟨cH,iE,fF,Ox,CU⟩:=hI;rw[eo,Jv] at fF;have c8:=za iE 0 rfl;have q7:=za cH.b7 0 rfl;have f7:=zb cH.b7 0;have MD:=zd cH.b7;have ii:=zH cH;have DF:=zH fF;have tn:=zH CU;have Fg:=zH dI;clear cH iE fF CU dI eo HI fX ij ce rr HZ HS
  try dsimp only
  go_wp2_with fail;have Ef:=NmIn.swap ii.out DF.out (by omega) (by omega);rw[qT] at Ef;refine⟨K-(k+1),by omega,_,k+1,hn,_,_,_,_,_,_,_,_,_,⟨rfl,by omega,Ef,?_⟩,rfl⟩;refine Marks.cons OQ.out (fun y hy=>?_) (by omega) hD ?_
  . exact(Le W3 ⟨g7,0,Z⟩ _ y (by rintro rfl;have:=tn.out _ hy;rw[ii.out.b7] at this;cases this)).trans (tn.out y hy)
  exact(Le W3 ⟨g7,0,Z⟩ _ D (by rintro rfl;have:=Fg.out;rw[ii.out.b7] at this;cases this)).trans Fg.out
 intro D c pre W _ _ h;exact h.elim
end
section
open Go.RowKit
attribute [local go_sem] Oper.semAt_some
theorem yj{a:Ad}(hf:FewA a)(h:xy a=0):zj a a.sts=0/\1<=a.sts.length/\yX a=Av/\1<=a.n/\a.n<=5:=by
 by_cases h1:a.n<1\/5<a.n
 . rw[jw h1] at h;cases h
 by_cases h2:a.sts.length<1
 . rw[vz h1 h2] at h;cases h
 by_cases h3:zj a a.sts=0
 . rw[jx h1 (by omega) hf h3] at h
   by_cases h4:yX a=Av
   . exact⟨h3,by omega,h4,by omega,by omega⟩
   rw[Lj h4] at h;cases h
 rw[jv h1 (by omega) hf h3] at h;exact absurd h h3
def qY(L T:Nat):Int×Int:=if L<T then (0,17) else ((T:Int),0)
theorem jP(a:Ad)(hf:FewA a)(h:xy a=0)(K L:Nat)(hK:K<=6)(hL:L<=1048576)(SV:Bb)(ks:Nat)(w:Ba)(hS:SAt w w.heap.size SV a.sts) :
  Ap An 44 #[Aj #[O U a.n,I SV a.sts.length ks],O U K,O U L] w fun e w'=>e=Am (.tuple #[O U (qY L (zI a K 0)).1,O U (qY L (zI a K 0)).2])/\Ao w.heap.size w w':=by
 obtain⟨z1,z2,_⟩:=yj hf h;have HC:=zH (fun (w':Ba) (h':SAt w' w'.heap.size SV a.sts)=>jy a hf SV ks w' h');rw[h] at HC;have HN:=zH (fun (w':Ba) (h':SAt w' w'.heap.size SV a.sts)=>Xj a hf z1 z2 K L hK hL SV ks w' h');have Cg:=sat_gt L (zI a K 0);have rC:=zH (@sat_eq L (zI a K 0));have dr:=j7 L (zI a K 0);obtain⟨T,hT⟩:=Kh (zI a K 0);rw[hT] at HN rC Cg dr ⊢;obtain⟨r,hr⟩:=Kh (yw L T);rw[hr] at HN rC Cg dr;obtain⟨w1,ag⟩:=Kh (w.alloc (Ah #[O U a.n,I SV a.sts.length ks] 27));have aI:=zg w (Ah #[O U a.n,I SV a.sts.length ks] 27);have an:Ao w.heap.size w w1:=by rw[<-ag];exact zt w _
 have ch:w1.heap.size=w.heap.size+1:=by rw[<-ag];simp
 rw[ag] at aI;have bJ:=zH aI;have aY:=zH an;have HS:=zH ((hS.keep an).more (by omega:w.heap.size<=w1.heap.size));have al:=zH ag;clear hS ag an aI;go_enter func44,ntmps44;go_wp2_with fail;rw[al.out];go_wp2_with fail;refine(HC.out w1 HS.out).mono ?_;rintro e w2 ⟨rfl,ae⟩;have aU:=zH (aY.out.trans (ae.mono (by omega)));have dc:=zH ((HS.out.keep ae).more ae.size);have aP:=La ae bJ.out;obtain⟨q0,q1,_⟩:=Ka aP;have dq:=ae.size;clear ae aP HC al;go_wp2_with fail
 all_goals first | (exfalso;omega) | skip
 refine(HN.out w2 dc.out).mono ?_;rintro e w3 ⟨rfl,ap⟩;have bE:=zH (aU.out.trans (ap.mono (by omega)))
 by_cases hg:L<T
 . have fN:L<r:=Cg.2 hg
   have hR:As (qY L T=(0,17)):=Ln hg;go_wp2_with fail
   all_goals first | (exfalso;omega) | skip
   go_ret2
   rw[hR.out];exact⟨rfl,bE.out⟩
 have fN:¬L<r:=fun h=>hg (Cg.1 h)
 have hr:r=T:=(rC.out (by omega)).symm▸rfl;have hR:As (qY L T=((T:Int),0)):=Lj hg;subst hr;go_wp2_with fail
 all_goals first | (exfalso;omega) | skip
 go_ret2
 rw[hR.out];exact⟨rfl,bE.out⟩
theorem ui(a:Ad)(hf:FewA a)(h:xy a=0)(K:Nat)(hK:K<=6)(SV:Bb)(ks:Nat)(w:Ba)(hS:SAt w w.heap.size SV a.sts) :
  Ap An 16 #[Aj #[O U a.n,I SV a.sts.length ks],O U K] w fun e w'=>e=Am (.tuple #[O U (qY 1048576 (zI a K 0)).1,O U (qY 1048576 (zI a K 0)).2])/\Ao w.heap.size w w':=by
 have HN:=zH (fun (w':Ba) (h':SAt w' w'.heap.size SV a.sts)=>jP a hf h K 1048576 hK (Lh _) SV ks w' h');obtain⟨r,hr⟩:=Kh (qY 1048576 (zI a K 0));rw[hr] at HN ⊢;have an:=zt w (Ah #[O U a.n,I SV a.sts.length ks] 27);have aY:=zH an;have HS:=zH ((hS.keep an).more an.size);go_enter func16,ntmps16;go_wp2_with fail;refine(HN.out _ HS.out).mono ?_;rintro e w2 ⟨rfl,ae⟩;have aU:=zH (aY.out.trans (ae.mono (by simp)));go_wp2_with fail
 go_ret2
 exact⟨rfl,aU.out⟩
theorem Q2(a:Ad)(hf:FewA a)(h:xy a=0)(K:Nat)(hK:K<=6)(hT:zI a K 0<=4096)(SV:Bb)(ks:Nat)(w:Ba)(hS:SAt w w.heap.size SV a.sts) :
  Ap An 49 #[Aj #[O U a.n,I SV a.sts.length ks],O U K] w fun e w'=>∃A c,e=Am (.tuple #[.slice A (zo a K 0).length c,O U 0])/\WAt w' w'.heap.size A (zo a K 0)/\Ao w.heap.size w w':=by
 obtain⟨z1,z2,_⟩:=yj hf h;have HC:=zH (fun (w':Ba) (h':SAt w' w'.heap.size SV a.sts)=>jP a hf h K 4096 hK (by omega) SV ks w' h');have hcut:qY 4096 (zI a K 0)=(((zI a K 0:Nat):Int),0):=Lj (by omega);rw[hcut] at HC;have HL:=zH (yc a K 0);obtain⟨T,pZ⟩:=Kh (zI a K 0);rw[pZ] at HC HL hT;have HF:=zH (Yy a K hK SV ks z1 hf K);obtain⟨w1,ag,d0,d1,bq,hBw⟩:=zZ w #[O U a.n,I SV a.sts.length ks] #[O U (K:Int)] 27 3;have HS:=zH ((hS.keep hBw).more hBw.size);have lc:=zH hS;have bh:=zH hBw;have bn:=zH d0;have bN:=zH d1;have al:=zH ag;clear ag d0 d1 hBw hS;go_enter func49,ntmps49;go_wp2_with fail;rw[al.out];go_wp2_with fail;refine(HC.out w1 HS.out).mono ?_;rintro e w2 ⟨rfl,ae⟩;have aU:=zH ae;have D0:=zH (La ae bn.out);have D1:=zH (La ae bN.out);have dX:=ae.size;obtain⟨i0,hi,cq,bK,cf⟩:=yx Xy;obtain⟨w3,eK,r1,r2⟩:=run_make_own (P:=An) w2 w2.heap.size 104 39 i0 kWd.z 1 underlying104 hi cq bK U U T (by rw[cf];show 24*T<=_;omega) (by unfold maxLen;omega) (Lh _);have R1:=zH r1;have R2:=zH r2;go_wp2_with fail;have mD:=R2.out;have cM:=R2.out.size;obtain⟨w4,tG,e0,e1,fK,cD⟩:=zZ w3 #[I (J ⟨w2.heap.size,0,Z⟩) 0 T] #[.func (.func 82) #[] #[Ak (J ⟨w.heap.size+1,0,Z⟩),Ak (J ⟨w3.heap.size,0,Z⟩),Ak (J ⟨w.heap.size,0,Z⟩),Ak (J ⟨w3.heap.size+1,0,Z⟩)]] 104 160;rw[tG]
 have B3:Ao w2.heap.size w2 w3:=⟨mD.os,mD.tape,mD.output,mD.size,fun k hk=>mD.block k hk (by simp)⟩;have B4:Ao w2.heap.size w2 w4:=B3.trans (cD.mono cM);have nf:=La B4 D0.out;have Fq:=La B4 D1.out;have dK:=zd D1.out;obtain⟨i1,hi,cq,bK,cf⟩:=yx ZC;obtain⟨w5,eK,r1,r2⟩:=run_make_own (P:=An) w4.drew w4.drew.heap.size 39 75 i1 kRd.z 7 PN hi cq bK U U K (by rw[cf];show 56*K<=_;omega) (by unfold maxLen;omega) (Lh _);have B5:Ao w4.heap.size w4 w5:=vx ⟨r2.os,r2.tape,r2.output,r2.size,fun k hk=>r2.block k hk (by simp)⟩;have Sz:OwnR kRd w5 w4.heap.size (I (J ⟨w4.heap.size,0,Z⟩) 0 K) 0 []:=r1;have hl4:w3.heap.size+1<w4.heap.size:=by omega
 have eC:As (Ao w.heap.size w w5):=(bh.out.trans ((aU.out.trans (B4.mono dX)).mono bh.out.size)).trans (B5.mono (by omega))
 have Ff:As (FromIn a K SV ks w.heap.size (w.heap.size+1) w3.heap.size w.heap.size (w3.heap.size+1) w4.heap.size (I (J ⟨w2.heap.size,0,Z⟩) 0 T) [] [] w w5):=by
  refine⟨Lb B5 (by omega) Fq,Lb B5 (by omega) e0,Lb B5 (by omega) nf,Lb B5 (by omega) e1,?_,?_,?_,eC.out⟩
  . refine⟨[],rfl,?_,fun i h1 _=>absurd h1 (by simp)⟩
    have h3:OwnR kWd w3 w2.heap.size (I (J ⟨w2.heap.size,0,Z⟩) 0 T) 0 []:=R1.out;exact((h3.below cD (Lh _)).below B5 (Lh _)).low (by omega)
  . intro k hk
    have:w2.heap.size=k:=by simpa[Value.ownBlock] using hk
    have Gh:w2.heap.size<w3.heap.size:=(R1.out.lt w2.heap.size rfl).2;exact⟨by omega,by omega,by omega,by omega,by omega⟩
  exact Sz.low (by omega)
 have f4:w4.cell? ⟨w3.heap.size+1,0,Z⟩=J (.func (.func 82) #[] #[Ak (J ⟨w.heap.size+1,0,Z⟩),Ak (J ⟨w3.heap.size,0,Z⟩),Ak (J ⟨w.heap.size,0,Z⟩),Ak (J ⟨w3.heap.size+1,0,Z⟩)]):=za e1 0 rfl;have k4:w4.cell? ⟨w.heap.size+1,0,Z⟩=J (O U K):=za Fq 0 rfl;have f5:=(B5.cell (p:=⟨w3.heap.size+1,0,Z⟩) (by show w3.heap.size+1<_;omega)).trans f4;have k5:=(B5.cell (p:=⟨w.heap.size+1,0,Z⟩) (by show w.heap.size+1<_;omega)).trans k4
 have DR:As (FromB w.heap.size (w.heap.size+1) w3.heap.size w.heap.size (w3.heap.size+1) w4.heap.size):=
  ⟨by omega,by omega,by omega,by omega,by omega,by omega,by omega,by omega,by omega,by omega,by omega,by omega⟩
 refine zE [(0,Av),(1,Av),(2,Ax),(3,Ax)]
  (fun W=>W.cell? ⟨w3.heap.size+1,0,Z⟩=J (.func (.func 82) #[] #[Ak (J ⟨w.heap.size+1,0,Z⟩),Ak (J ⟨w3.heap.size,0,Z⟩),Ak (J ⟨w.heap.size,0,Z⟩),Ak (J ⟨w3.heap.size+1,0,Z⟩)])/\W.cell? ⟨w.heap.size+1,0,Z⟩=J (O U K))
  (by kernel_rfl) (by kernel_rfl) ⟨f4,k4⟩ ?_
 repeat
  apply zX rfl
  . rintro K' ai W ⟨y0,y1⟩
    go_simp;exact ai
 refine zG rfl ?_;intro K' ai;go_simp;refine ai _ _ ⟨f5,k5⟩ ?_;refine xb rfl (by kernel_rfl) ?_;intro K' ai;go_simp;have pt:=HF.out 0 [] [] (I (J ⟨w2.heap.size,0,Z⟩) 0 T) w.heap.size (w.heap.size+1) w3.heap.size w.heap.size (w3.heap.size+1) w4.heap.size w w5 (by simp) (.inr ⟨by omega,by omega⟩) (by have:=HL.out;simp;omega) DR.out lc.out Ff.out;refine pt.mono ?_;rintro e w6 ⟨⟨v6,rfl⟩,V6,H6⟩;rw[L4,show yz [] (zo a K 0)=zo a K 0 by simp[yz]] at H6;refine ai (fun _=>True) _ _ trivial ?_;refine yh ?_;obtain⟨A6,c6,rfl,_,_,mJ⟩:=wN H6.out;have o6:=za H6.hO 0 rfl;have dQ:=zH H6.bel;have nI:=zH mJ;go_wp2_with fail
 go_ret2
 exact⟨A6,c6,rfl,nI.out,dQ.out⟩
end
section
open Go.RowKit
def RawL(B:Nat)(w:Ba)(A:Bb)(n:Nat)(cs:List Au):Prop:=0<n->∃b off,A=J ⟨b,off,Z⟩/\b<B/\∀(j:Nat) (u:Au),cs[j]?=J u->w.cell? ⟨b,off+j,Z⟩=J u
theorem RawL.raw{B:Nat}{w:Ba}{A:Bb}{n:Nat}{cs:List Au}(h:RawL B w A n cs)(hB:B<=w.heap.size):Raw w A n cs:=fun h0=>by
 obtain⟨b,off,e,hb,hc⟩:=h h0;exact⟨b,off,e,by omega,hc⟩
theorem RawL.keep{B:Nat}{w w':Ba}{A:Bb}{n:Nat}{cs:List Au}(h:RawL B w A n cs)(hb:Ao B w w'):RawL B w' A n cs:=fun h0=>by
 obtain⟨b,off,e,ac,hc⟩:=h h0;exact⟨b,off,e,ac,fun j u hu=>(hb.cell (p:=⟨b,_,Z⟩) ac).trans (hc j u hu)⟩
def CAtL(L0 B0:Nat)(w:Ba)(A:Bb)(xs:List Cs):Prop:=∃cs:List Au,cs.length=xs.length*3/\RawL B0 w A xs.length cs/\(∀u∈cs,u.oneCell'=Av) /\
  ∀(i:Nat) (hi:i<xs.length),∃d,cCs.lies (fun k=>L0<=k/\k<B0) w d xs[i]/\∀j u,d[j]?=J u->cs[i*3+j]?=J u
def SAtL(L0 B0:Nat)(w:Ba)(A:Bb)(xs:List (List Mv)):Prop:=∃cs:List Au,cs.length=xs.length*1/\RawL B0 w A xs.length cs/\(∀u∈cs,u.oneCell'=Av) /\
  ∀(i:Nat) (hi:i<xs.length),∃d,cMl.lies (fun k=>L0<=k/\k<B0) w d xs[i]/\∀j u,d[j]?=J u->cs[i*1+j]?=J u
section
variable {L0 B0:Nat} {w w':Ba} {A:Bb}
theorem CAtL.keep{xs:List Cs}(h:CAtL L0 B0 w A xs)(hb:Ao B0 w w'):CAtL L0 B0 w' A xs:=by
 obtain⟨cs,h1,h2,h3,h4⟩:=h;refine⟨cs,h1,h2.keep hb,h3,fun i hi=>?_⟩;obtain⟨d,h5,h6⟩:=h4 i hi;exact⟨d,xu.keep h5 ⟨hb.size,fun k hk _=>hb.block k hk.2⟩,h6⟩
theorem SAtL.keep{xs:List (List Mv)}(h:SAtL L0 B0 w A xs)(hb:Ao B0 w w'):SAtL L0 B0 w' A xs:=by
 obtain⟨cs,h1,h2,h3,h4⟩:=h;refine⟨cs,h1,h2.keep hb,h3,fun i hi=>?_⟩;obtain⟨d,h5,h6⟩:=h4 i hi;exact⟨d,ql.keep h5 ⟨hb.size,fun k hk _=>hb.block k hk.2⟩,h6⟩
theorem CAtL.raw{xs:List Cs}(h:CAtL L0 B0 w A xs)(hB:B0<=w.heap.size):∃cs:List Au,cs.length=xs.length*3/\Raw w A xs.length cs/\(∀u∈cs,u.oneCell'=Av) /\
  ∀(i:Nat) (hi:i<xs.length),∃d,cCs.lies (fun k=>L0<=k/\k<B0) w d xs[i]/\∀j u,d[j]?=J u->cs[i*3+j]?=J u:=by
 obtain⟨cs,h1,h2,h3,h4⟩:=h;exact⟨cs,h1,h2.raw hB,h3,h4⟩
theorem SAtL.raw{xs:List (List Mv)}(h:SAtL L0 B0 w A xs)(hB:B0<=w.heap.size):∃cs:List Au,cs.length=xs.length*1/\Raw w A xs.length cs/\(∀u∈cs,u.oneCell'=Av) /\
  ∀(i:Nat) (hi:i<xs.length),∃d,cMl.lies (fun k=>L0<=k/\k<B0) w d xs[i]/\∀j u,d[j]?=J u->cs[i*1+j]?=J u:=by
 obtain⟨cs,h1,h2,h3,h4⟩:=h;exact⟨cs,h1,h2.raw hB,h3,h4⟩
theorem CAtL.of{xs:List Cs}(h:CAt w B0 A xs)(hB:B0<=w.heap.size):CAtL 0 B0 w A xs:=by
 obtain⟨cs,h1,h2,h3,h4⟩:=h.raw hB;refine⟨cs,h1,fun h0=>?_,h3,fun i hi=>?_⟩
 . obtain⟨b,off,e,_,hc⟩:=h2 h0
   obtain⟨b',eF,e',cA,_⟩:=h h0;rw[e] at e';simp only[Option.some.injEq,Addr.mk.injEq,and_true] at e';exact⟨b,off,e,by omega,hc⟩
 obtain⟨d,h5,h6⟩:=h4 i hi;exact⟨d,xu.mono h5 fun k _ hk=>⟨Nl _,hk⟩,h6⟩
theorem SAtL.of{xs:List (List Mv)}(h:SAt w B0 A xs)(hB:B0<=w.heap.size):SAtL 0 B0 w A xs:=by
 obtain⟨cs,h1,h2,h3,h4⟩:=h.raw hB;refine⟨cs,h1,fun h0=>?_,h3,fun i hi=>?_⟩
 . obtain⟨b,off,e,_,hc⟩:=h2 h0
   obtain⟨b',eF,e',cA,_⟩:=h h0;rw[e] at e';simp only[Option.some.injEq,Addr.mk.injEq,and_true] at e';exact⟨b,off,e,by omega,hc⟩
 obtain⟨d,h5,h6⟩:=h4 i hi;exact⟨d,ql.mono h5 fun k _ hk=>⟨Nl _,hk⟩,h6⟩
end
end
section
open Go.RowKit
attribute [local go_sem] Oper.semAt_some
structure CpIn(B:Nat)(p:Pb)(A:Bb)(kc:Nat)(SV:Bb)(ks:Nat)(Af:Array Au)(w W:Ba):Prop where
 bel:Ao B w W
 b0:W.heap[B]?=J (Ah (p.vs A kc SV ks) 29 (0,0))
 b1:W.heap[B+1]?=J (Ah Af 29 (0,0))
def Nbx(L0 B0 B k:Nat):Prop:=k≠B/\k≠B+1/\((L0<=k/\k<B0)\/B<=k)
theorem CpIn.on{B:Nat}{p:Pb}{A:Bb}{kc:Nat}{SV:Bb}{ks:Nat}{Af:Array Au}{w W W':Ba}(h:CpIn B p A kc SV ks Af w W)(hb:Ao W.heap.size W W'):CpIn B p A kc SV ks Af w W':=by
 have:=zd h.b1;exact⟨h.bel.trans (hb.mono (by omega)),Lb hb (by omega) h.b0,Lb hb (by omega) h.b1⟩
theorem CpIn.set{B:Nat}{p:Pb}{A:Bb}{kc:Nat}{SV:Bb}{ks:Nat}{Af:Array Au}{w W:Ba}(h:CpIn B p A kc SV ks Af w W){g:Nat}(hg:B+1<g)(o:Nat)(v:Au):CpIn B p A kc SV ks Af w (W.setCell ⟨g,o,Z⟩ v):=
 ⟨h.bel.setCell (by show B<=g;omega) _,(Le W _ v B (by show B≠g;omega)).trans h.b0,(Le W _ v (B+1) (by show B+1≠g;omega)).trans h.b1⟩
theorem X3(p:Pb)(hf:ZI p)(hc1:1<=p.t.cases.length)(bq:1<=p.a.sts.length)(A:Bb)(kc:Nat)(SV:Bb)(ks:Nat)(w:Ba)(L0 B0:Nat)(bH:B0<=w.heap.size)(hA:CAtL L0 B0 w A p.t.cases)(hS:SAtL L0 B0 w SV p.a.sts) :
  Ap An 50 #[.agg (p.vs A kc SV ks)] w fun e w'=>∃g SI gm SH,e=Am (.agg (p.vs (J ⟨g,0,Z⟩) SI (J ⟨gm,0,Z⟩) SH))/\RowX cCs (fun b=>(L0<=b/\b<B0)\/w.heap.size<=b) w' g p.t.cases/\RowX cMl (fun b=>(L0<=b/\b<B0)\/w.heap.size<=b) w' gm p.a.sts/\w.heap.size<=g/\w.heap.size<=gm/\Ao w.heap.size w w':=by
 have hfc:=hf.1.1;have Ey:=hf.2.1;obtain⟨w1,ag,d0,d1,aZ,hBw⟩:=zZ w (p.vs A kc SV ks) #[O U 0,O U 0,O U 0,I Z 0 0,O U 0,I Z 0 0,O U 0] 29 29;have sT:=hBw.mono bH;have HS:=zH (hS.keep sT);have FL:B0<=w1.heap.size:=by have:=hBw.size;omega
 obtain⟨H8,H',H9,Ib,Ia⟩:=(hA.keep sT).raw FL;have HC:=zH (JZ A p.t.cases.length kc H8 w1 H' H9 Ib (by omega));have bh:=zH hBw;have bn:=zH d0;have bN:=zH d1;have Fh:=zH Ia;have Wa:=zH hf.1;have Wb:=zH hf.2;unfold Pb.vs at ag d0;have p3:=za d0 3 rfl;have f3:=zb d0 3;have al:=zH ag;clear ag d0 d1 hBw sT;unfold Pb.vs;go_enter func50,ntmps50;go_wp2_with fail;rw[al.out];refine HC.out.mono ?_;rintro e w2 ⟨v2,rfl,cC,ae⟩;obtain⟨A2,c2,rfl,hc2,ia,fN⟩:=cC.form;obtain⟨g,rfl,_,cy,_⟩:=fN (by omega);have Ch:w1.heap.size<=g:=(cC.lt g rfl).1;have dX:=ae.size;have dl:w.heap.size+1<g:=by omega
 have R2:RowX cCs (Nbx L0 B0 w.heap.size) w2 g p.t.cases:=RowX.of_own xu cC rfl rfl (fun i hi=>by
  obtain⟨d,h1,h2⟩:=Fh.out i hi
  refine⟨d,xu.mono (xu.keep h1 ⟨ae.size,fun k hk _=>ae.block k (by omega)⟩) fun k _ hk=>⟨⟨by omega,by omega⟩,by omega⟩,h2⟩)
 have D0:=La ae bn.out;have D1:=La ae bN.out;have p3:=za D0 3 rfl;have f3:=zb D0 3;obtain⟨W3,bU⟩:=Kh (w2.setCell ⟨w.heap.size,3,Z⟩ (I (J ⟨g,0,Z⟩) p.t.cases.length c2))
 have H3:As (CpIn w.heap.size p (J ⟨g,0,Z⟩) c2 SV ks #[O U 0,O U 0,O U 0,I Z 0 0,O U 0,I Z 0 0,O U 0] w W3):=by
  rw[<-bU];refine⟨(bh.out.trans (ae.mono (by omega))).setCell (Lh _) _,?_,(Le w2 _ _ (w.heap.size+1) (by show w.heap.size+1≠w.heap.size;omega)).trans D1⟩;rw[Lk w2 w.heap.size 3 _ _ _ D0]
  rfl
 have R3:As (RowX cCs (Nbx L0 B0 w.heap.size) W3 g p.t.cases):=by rw[<-bU];exact R2.other xu 3 _ (by omega) (fun h=>h.1 rfl)
 have dz:As (SAtL L0 B0 W3 SV p.a.sts):=HS.out.keep (by
  rw[<-bU]
  exact((Below.mono ae (show w.heap.size<=w1.heap.size by omega)).setCell (Lh _) _).mono bH)
 have q3:W3.cell? ⟨w.heap.size,3,Z⟩=J (I (J ⟨g,0,Z⟩) p.t.cases.length c2):=za H3.out.b0 3 rfl;clear R2 D0 D1 cC ae hc2 ia HC Fh;go_wp2_with fail;clear p3 f3 bU q3
 go_loopw [17] (fun i wr=>∃k:Nat,k<=p.t.cases.length/\i=O U (k:Int)/\As (CpIn w.heap.size p (J ⟨g,0,Z⟩) c2 SV ks #[O U 0,O U 0,O U 0,I Z 0 0,O U 0,I Z 0 0,O U 0] w wr)/\As (RowX cCs (Nbx L0 B0 w.heap.size) wr g p.t.cases)/\As (SAtL L0 B0 wr SV p.a.sts)) (fun i _=>p.t.cases.length-(Aq i).toNat)
 case atStart=>exact⟨0,by omega,rfl,H3.out,R3.out,dz.out⟩
 obtain⟨k,hk,rfl,HI,HR,O7⟩:=hrel
 by_cases dM:k<p.t.cases.length
 case neg=>
  obtain rfl:k=p.t.cases.length:=by omega
  have b0:=HI.out.b0;have q5:wr.cell? ⟨w.heap.size,5,Z⟩=J (I SV p.a.sts.length ks):=za b0 5 rfl;have pE:=HI.out.bel.size;obtain⟨H8,H',H9,Ib,Ia⟩:=O7.out.raw (by omega);have HC:=zH (JX SV p.a.sts.length ks H8 wr H' H9 Ib (by omega));have Fh:=zH Ia;have aL:=zd HI.out.b1;go_wp2_with fail;refine HC.out.mono ?_;rintro e tB ⟨v2,rfl,cC,ae⟩;obtain⟨A2,c3,rfl,_,_,fN⟩:=cC.form;obtain⟨gm,rfl,_,T7,_⟩:=fN (by omega);have Ua:wr.heap.size<=gm:=(cC.lt gm rfl).1;have tW:g<wr.heap.size:=HR.out.lt
  have R2:RowX cMl (fun b=>Nbx L0 B0 w.heap.size b/\b≠g) tB gm p.a.sts:=RowX.of_own ql cC rfl rfl (fun i hi=>by
   obtain⟨d,h1,h2⟩:=Fh.out i hi
   exact⟨d,ql.mono (ql.keep h1 ⟨ae.size,fun k hk _=>ae.block k (by omega)⟩) fun k _ hk=>⟨⟨⟨by omega,by omega⟩,by omega⟩,by omega⟩,h2⟩)
  have I2:=HI.out.on ae;have Fu:tB.cell? ⟨w.heap.size,5,Z⟩=J (I SV p.a.sts.length ks):=za I2.b0 5 rfl;have f5':=zb I2.b0 5;have RC:RowX cCs (fun b=>Nbx L0 B0 w.heap.size b/\b≠gm) tB g p.t.cases:=(HR.out.mono xu fun b hb hs=>⟨hs,by omega⟩).below xu ae (Lh _);obtain⟨W3,bU⟩:=Kh (tB.setCell ⟨w.heap.size,5,Z⟩ (I (J ⟨gm,0,Z⟩) p.a.sts.length c3))
  have H3:As (CpIn w.heap.size p (J ⟨g,0,Z⟩) c2 (J ⟨gm,0,Z⟩) c3 #[O U 0,O U 0,O U 0,I Z 0 0,O U 0,I Z 0 0,O U 0] w W3):=by
   rw[<-bU];refine⟨I2.bel.setCell (Lh _) _,?_,(Le tB _ _ (w.heap.size+1) (by show w.heap.size+1≠w.heap.size;omega)).trans I2.b1⟩;rw[Lk tB w.heap.size 5 _ _ _ I2.b0]
   rfl
  have R3:As (RowX cMl (fun b=>Nbx L0 B0 w.heap.size b/\b≠g) W3 gm p.a.sts):=by rw[<-bU];exact R2.other ql 5 _ (by omega) (fun h=>h.1.1 rfl)
  have Vd:As (RowX cCs (fun b=>Nbx L0 B0 w.heap.size b/\b≠gm) W3 g p.t.cases):=by rw[<-bU];exact RC.other xu 5 _ (by omega) (fun h=>h.1.1 rfl)
  have q6:W3.cell? ⟨w.heap.size,5,Z⟩=J (I (J ⟨gm,0,Z⟩) p.a.sts.length c3):=za H3.out.b0 5 rfl;go_wp2_with fail
  go_loopw [48] (fun i wx=>∃k:Nat,k<=p.a.sts.length/\i=O U (k:Int)/\As (CpIn w.heap.size p (J ⟨g,0,Z⟩) c2 (J ⟨gm,0,Z⟩) c3 #[O U 0,O U 0,O U 0,I Z 0 0,O U 0,I Z 0 0,O U 0] w wx)/\As (RowX cMl (fun b=>Nbx L0 B0 w.heap.size b/\b≠g) wx gm p.a.sts)/\As (RowX cCs (fun b=>Nbx L0 B0 w.heap.size b/\b≠gm) wx g p.t.cases)) (fun i _=>p.a.sts.length-(Aq i).toNat)
  case atStart=>exact⟨0,by omega,rfl,H3.out,R3.out,Vd.out⟩
  obtain⟨k,hk,rfl,HI,HR,te⟩:=hrel
  by_cases dM:k<p.a.sts.length
  case neg=>
   obtain rfl:k=p.a.sts.length:=by omega
   have b0:=HI.out.b0;have b1:=HI.out.b1;have c0:wr.cell? ⟨w.heap.size,0,Z⟩=J (O U p.t.n):=za b0 0 rfl;have c1:wr.cell? ⟨w.heap.size,1,Z⟩=J (O U p.t.ins):=za b0 1 rfl;have Ic:wr.cell? ⟨w.heap.size,2,Z⟩=J (O U p.t.outs):=za b0 2 rfl;have C2:wr.cell? ⟨w.heap.size,3,Z⟩=J (I (J ⟨g,0,Z⟩) p.t.cases.length c2):=za b0 3 rfl;have c4:wr.cell? ⟨w.heap.size,4,Z⟩=J (O U p.a.n):=za b0 4 rfl;have c5:wr.cell? ⟨w.heap.size,5,Z⟩=J (I (J ⟨gm,0,Z⟩) p.a.sts.length c3):=za b0 5 rfl;have c6:wr.cell? ⟨w.heap.size,6,Z⟩=J (O U p.k):=za b0 6 rfl;obtain⟨e0,e1,e2,e3,e4,e5,e6,_⟩:=Kf b1;have z0:=zb b1 0;have z1:=zb b1 1;have z2:=zb b1 2;have z3:=zb b1 3;have z4:=zb b1 4;have z5:=zb b1 5;have z6:=zb b1 6;clear b0 b1;have KE:=zH HI.out.bel;have nS:=zH te.out;have dm:=zH HR.out;have T':=te.out.lt;have oO:=HR.out.lt;have T9:w.heap.size+1<gm:=by omega
   have th:=zH (fun (o:Nat) (v:Au) (W:Ba) (h:RowX cCs (fun b=>Nbx L0 B0 w.heap.size b/\b≠gm) W g p.t.cases)=>h.other xu o v (show w.heap.size+1≠g by omega) (fun h=>h.1.2.1 rfl));have pk:=zH (fun (o:Nat) (v:Au) (W:Ba) (h:RowX cMl (fun b=>Nbx L0 B0 w.heap.size b/\b≠g) W gm p.a.sts)=>h.other ql o v (show w.heap.size+1≠gm by omega) (fun h=>h.1.2.1 rfl));clear HI HR te;go_wp2_with fail;refine Nb (v:=.agg (p.vs (J ⟨g,0,Z⟩) c2 (J ⟨gm,0,Z⟩) c3)) (by simp[results,results50,go_sem,e0,e1,e2,e3,e4,e5,e6,Pb.vs]) rfl ?_;refine⟨g,c2,gm,c3,rfl,?_,?_,by omega,by omega,?_⟩
   . refine RowX.mono (S:=fun b=>Nbx L0 B0 w.heap.size b/\b≠gm) xu ?_ (fun b _ hs=>hs.1.2.2)
     exact th.out _ _ _ (th.out _ _ _ (th.out _ _ _ (th.out _ _ _ (th.out _ _ _ (th.out _ _ _ (th.out _ _ _ (nS.out)))))))
   . refine RowX.mono (S:=fun b=>Nbx L0 B0 w.heap.size b/\b≠g) ql ?_ (fun b _ hs=>hs.1.2.2)
     exact pk.out _ _ _ (pk.out _ _ _ (pk.out _ _ _ (pk.out _ _ _ (pk.out _ _ _ (pk.out _ _ _ (pk.out _ _ _ (dm.out)))))))
   have sk:w.heap.size<=w.heap.size+1:=by omega
   exact(((((((KE.out).setCell sk _).setCell sk _).setCell sk _).setCell sk _).setCell sk _).setCell sk _).setCell sk _
  obtain⟨dn,dN,fu⟩:=HR.out;obtain⟨cs,⟨A0,k0,rfl,i0⟩,bj⟩:=fu k dM
  have x0:wr.cell? ⟨gm,k,Z⟩=J (I A0 p.a.sts[k].length k0):=by
   have:=bj 0 _ rfl;change dn[k*1+0]?=_ at this;exact za dN _ (by rw[<-this];congr 1;omega)
  have cK:(0:Int)<=(k:Int):=by omega
  have bY:(k:Int)<(p.a.sts.length:Int):=by omega
  have oN:gm<wr.heap.size:=zd dN;have EQ:=zd HI.out.b1;have my:=Wb.out.each (Ld dM);obtain⟨x,hx⟩:=Kh (p.a.sts[k]);have pf:=zH hx;rw[hx] at x0 i0 my;have HC:=zH (JW A0 x.length k0 (qw x) wr.drew (jd x) (Xp (w:=wr.drew) i0.mat) (Xr x) (by omega));have q5:wr.cell? ⟨w.heap.size,5,Z⟩=J (I (J ⟨gm,0,Z⟩) p.a.sts.length c3):=za HI.out.b0 5 rfl;go_wp2_with fail
  refine zE [(0,Av),(1,Av),(2,Av),(3,Av),(4,Av),(5,Ax),(6,Ax),(7,Ax)]
   (fun W=>W.cell? ⟨w.heap.size,5,Z⟩=J (I (J ⟨gm,0,Z⟩) p.a.sts.length c3)) (by kernel_rfl) (by kernel_rfl) (by exact q5) ?_
  repeat
   apply zX rfl
   . rintro K' ai W y0
     go_simp;exact ai
  refine zG rfl ?_;intro K' ai;go_simp;refine HC.out.mono ?_;rintro e w5 ⟨v5,rfl,mx,bZ⟩;have bZ:Ao wr.heap.size wr w5:=vx bZ;have mx:OwnR kMv w5 wr.heap.size v5 x.length (qw x):=mx;obtain⟨A5,c5,rfl,_,_,iq⟩:=Xq mx;have I5:=HI.out.on bZ;have Fu:w5.cell? ⟨w.heap.size,5,Z⟩=J (I (J ⟨gm,0,Z⟩) p.a.sts.length c3):=za I5.b0 5 rfl;refine ai _ _ Fu ?_;refine zG rfl ?_;intro K' ai;go_simp;refine ai _ _ Fu ?_;clear ai K';have VA:=HR.out.below ql bZ (Lh _);obtain⟨dn,dN,fu⟩:=VA;obtain⟨cs,⟨Q0,n0,rfl,_⟩,bj⟩:=fu k dM
  have x1:w5.cell? ⟨gm,k,Z⟩=J (I Q0 p.a.sts[k].length n0):=by
   have:=bj 0 _ rfl;change dn[k*1+0]?=_ at this;exact za dN _ (by rw[<-this];congr 1;omega)
  have y1:=zb dN k
  have hX:cMl.lies (fun b=>(fun b=>Nbx L0 B0 w.heap.size b/\b≠g) b/\b≠gm) w5 [I A5 x.length c5] p.a.sts[k]:=by
   rw[pf.out];have cy:=te.out.lt;exact⟨A5,c5,rfl,iq.mono fun b _ hb=>⟨⟨⟨by omega,by omega⟩,by omega⟩,by omega⟩⟩
  have IP:=zH (RowX.set1 ql rfl (HR.out.below ql bZ (Lh _)) dM hX);have CP:w.heap.size+1<gm:=by omega
  have Ko:=zH (I5.set CP k (I A5 x.length c5));have GC:gm≠g:=by omega
  have IV:=zH ((te.out.below xu bZ (Lh _)).other xu k (I A5 x.length c5) GC (fun h=>h.2 rfl));refine xb rfl (by kernel_rfl) ?_;intro K' ai;go_simp;refine ai (fun _=>True) _ _ trivial ?_;refine yh ?_;go_wp2_with fail
  go_roundw
  case rel=>exact⟨k+1,by omega,by go_num,Ko,IP,IV⟩
  simp[Aq];omega
 obtain⟨dn,dN,fu⟩:=HR.out;obtain⟨cs,⟨A0,k0,A1,k1,A2,k2,rfl,i0,l1,l2⟩,bj⟩:=fu k dM;have x0:wr.cell? ⟨g,k*3,Z⟩=J (I A0 p.t.cases[k].inp.length k0):=za dN _ (bj 0 _ rfl);have x1:wr.cell? ⟨g,k*3+1,Z⟩=J (I A1 p.t.cases[k].out.length k1):=za dN _ (bj 1 _ rfl);have x2:wr.cell? ⟨g,k*3+2,Z⟩=J (I A2 p.t.cases[k].calm.length k2):=za dN _ (bj 2 _ rfl);have cK:(0:Int)<=(k:Int):=by omega
 have bY:(k:Int)<(p.t.cases.length:Int):=by omega
 have oN:g<wr.heap.size:=zd dN;have EQ:=zd HI.out.b1;have AM:=Wa.out.2 p.t.cases[k] (Ld dM);obtain⟨x,hx⟩:=Kh (p.t.cases[k]);have pf:=zH hx;rw[hx] at x0 x1 x2 i0 l1 l2 AM;go_wp2_with fail;obtain⟨W4,lD,g0,lg,cD⟩:=zq wr #[I A0 x.inp.length k0,I A1 x.out.length k1,I A2 x.calm.length k2] 118;rw[lD];have H4:=HI.out.on cD;have p4:W4.cell? ⟨w.heap.size,3,Z⟩=J (I (J ⟨g,0,Z⟩) p.t.cases.length c2):=za H4.b0 3 rfl;have Kv:=zH i0.iat;have DD:=zH l1.lat;have AP:=zH l2.lat;have fB:=zH cD;have nO:=zH g0;have hN0:w.heap.size<W4.heap.size:=by omega
 clear i0 l1 l2 cD H4
 refine zE [(0,Av),(1,Av),(2,Av),(3,Av),(4,Av),(5,Av),(7,Av),(8,Av),(10,Av),(11,Av),(6,Ax),(9,Ax),(12,Ax),(13,Ax),(14,Ax),(15,Ax)]
  (fun W=>W.cell? ⟨w.heap.size,3,Z⟩=J (I (J ⟨g,0,Z⟩) p.t.cases.length c2)/\W.heap[wr.heap.size]?=J (Ah #[I A0 x.inp.length k0,I A1 x.out.length k1,I A2 x.calm.length k2] 118 (0,0)))
  (by kernel_rfl) (by kernel_rfl) ⟨p4,g0⟩ ?_
 repeat
  apply zX rfl
  . rintro K' ai W ⟨y0,y1⟩
    have z0:W.cell? ⟨wr.heap.size,0,Z⟩=J (I A0 x.inp.length k0):=za y1 0 rfl;have z1:W.cell? ⟨wr.heap.size,1,Z⟩=J (I A1 x.out.length k1):=za y1 1 rfl;have z2:W.cell? ⟨wr.heap.size,2,Z⟩=J (I A2 x.calm.length k2):=za y1 2 rfl;clear y1;go_simp;exact ai
 clear p4 g0;have FK:=fB.out.size
 -- the inputs
 refine zG rfl ?_;intro K' ai;go_simp;refine(wH A0 k0 x.inp W4.drew (((Kv.out.keep fB.out).more FK)) (by have:=AM.1;omega)).mono ?_;rintro e w5 ⟨A5,c5,rfl,Gx,bZ⟩;have bZ:Ao W4.heap.size W4 w5:=vx bZ;have eC:=zH bZ;have Gx:IAtS (fun b=>W4.heap.size<=b) w5 A5 x.inp:=Gx;have tn:=zH Gx;have SU:=bZ.size;have E5:Ao wr.heap.size wr w5:=fB.out.trans (bZ.mono (by omega));refine ai _ _ ⟨za (HI.out.on E5).b0 3 rfl,Lb bZ (by omega) nO.out⟩ ?_
 -- the outputs
 refine zG rfl ?_;intro K' ai;go_simp;refine(vH A1 k1 x.out w5 ((DD.out.keep E5).more E5.size) (by have:=AM.2.1.1;omega) (fun v hv=>by have:=AM.2.1.2 v hv;omega)).mono ?_;rintro e w6 ⟨v6,rfl,sc,cS⟩;obtain⟨A6,c6,rfl,_,_,Eq⟩:=YI sc;have dQ:=zH cS;have AN:=zH Eq;have FJ:=cS.size;have E6:Ao wr.heap.size wr w6:=Lc E5 cS;refine ai _ _ ⟨za (HI.out.on E6).b0 3 rfl,Lb cS (by omega) (Lb eC.out (by omega) nO.out)⟩ ?_
 -- the calm ones
 refine zG rfl ?_;intro K' ai;go_simp;refine(vH A2 k2 x.calm w6 ((AP.out.keep E6).more E6.size) (by have:=AM.2.2.1;omega) (fun v hv=>by have:=AM.2.2.2 v hv;omega)).mono ?_;rintro e w7 ⟨v7,rfl,tO,dv⟩;obtain⟨A7,c7,rfl,_,_,MD⟩:=YI tO;have me:=zH dv;have VQ:=zH MD;have E7:Ao wr.heap.size wr w7:=Lc E6 dv;have Sb:=zH E7;refine ai _ _ ⟨za (HI.out.on E7).b0 3 rfl,Lb dv (by omega) (Lb dQ.out (by omega) (Lb eC.out (by omega) nO.out))⟩ ?_;have rp:=zH (HR.out.below xu E7 (Lh _));obtain⟨dn,dN,fu⟩:=rp.out;obtain⟨cs,⟨Q0,n0,B1,n1,B2,n2,rfl,_,_,_⟩,bj⟩:=fu k dM;have x0:w7.cell? ⟨g,k*3,Z⟩=J (I Q0 p.t.cases[k].inp.length n0):=za dN _ (bj 0 _ rfl);have x1:w7.cell? ⟨g,k*3+1,Z⟩=J (I B1 p.t.cases[k].out.length n1):=za dN _ (bj 1 _ rfl);have x2:w7.cell? ⟨g,k*3+2,Z⟩=J (I B2 p.t.cases[k].calm.length n2):=za dN _ (bj 2 _ rfl);have y0:=zb dN (k*3);have y1:=zb dN (k*3+1);have y2:=zb dN (k*3+2);have q3:w7.cell? ⟨w.heap.size,3,Z⟩=J (I (J ⟨g,0,Z⟩) p.t.cases.length c2):=za (HI.out.on E7).b0 3 rfl;have Ry:=zH ((dv.block wr.heap.size (by omega)).trans (Lb dQ.out (by omega) (Lb eC.out (by omega) nO.out)));refine zG rfl ?_;intro K' ai;go_simp;refine ai _ _ ⟨q3,Ry.out⟩ ?_;refine zG rfl ?_;intro K' ai;go_simp;refine ai _ _ ⟨q3,Ry.out⟩ ?_;refine xb rfl (by kernel_rfl) ?_;intro K' ai;go_simp
 refine ai (fun _=>True) _ _ trivial ?_;refine yh ?_
 have hX:cCs.lies (fun b=>Nbx L0 B0 w.heap.size b/\b≠g) w7 [I A5 x.inp.length c5,I A6 x.out.length c6,I A7 x.calm.length c7] p.t.cases[k]:=by
  rw[pf.out];refine⟨A5,c5,A6,c6,A7,c7,rfl,?_,?_,?_⟩
  . exact(tn.out.on (dQ.out.trans (me.out.mono FJ))).mono fun b _ hb=>⟨⟨by omega,by omega⟩,by omega⟩
  . exact(AN.out.on me.out).mono fun b _ hb=>⟨⟨by omega,by omega⟩,by omega⟩
  exact VQ.out.mono fun b _ hb=>⟨⟨by omega,by omega⟩,by omega⟩
 have IP:=zH (rp.out.set3 dM hX);have CP:w.heap.size+1<g:=dl;have Ko:=zH ((((HI.out.on Sb.out).set CP (k*3) (I A5 x.inp.length c5)).set CP (k*3+1) (I A6 x.out.length c6)).set CP (k*3+2) (I A7 x.calm.length c7))
 have Vr:As (SAtL L0 B0 (((w7.setCell ⟨g,k*3,Z⟩ (I A5 x.inp.length c5)).setCell ⟨g,k*3+1,Z⟩ (I A6 x.out.length c6)).setCell ⟨g,k*3+2,Z⟩ (I A7 x.calm.length c7)) SV p.a.sts):=
  O7.out.keep (((((Sb.out.mono (by omega:w.heap.size<=wr.heap.size)).setCell (by show w.heap.size<=g;omega) _).setCell (by show w.heap.size<=g;omega) _).setCell (by show w.heap.size<=g;omega) _).mono bH)
 go_wp2_with fail
 go_roundw
 case rel=>exact⟨k+1,by omega,by go_num,Ko,IP,Vr⟩
 simp[Aq];omega
theorem zK{p:Pb}(h:zz p=0):yE p.t=0/\xy p.a=0/\p.t.n=p.a.n/\0<=p.k/\p.k<=6:=by
 by_cases h1:yE p.t=0
 case neg=>rw[jn h1] at h;exact absurd h h1
 by_cases h2:xy p.a=0
 case neg=>rw[ve h1 h2] at h;exact absurd h h2
 by_cases h3:p.t.n=p.a.n
 case neg=>rw[Zp h1 h2 h3] at h;cases h
 by_cases h4:p.k<0\/6<p.k
 . rw[Zq h1 h2 h3 h4] at h;cases h
 exact⟨h1,h2,h3,by omega,by omega⟩
theorem yn{t:Tk}(h:yE t=0):1<=t.cases.length/\1<=t.n/\t.n<=5:=by
 unfold yE at h
 split at h
 . cases h
 split at h
 . cases h
 omega
def zA(p:Pb):Nat:=zI p.a p.k.toNat 0*p.t.cases.length
def qS(p:Pb):Int×Int:=if zz p≠0 then (0,zz p) else qY 1048576 (zA p)
theorem wF(p:Pb)(hf:ZI p)(A:Bb)(kc:Nat)(SV:Bb)(ks:Nat)(w:Ba)(hA:CAt w w.heap.size A p.t.cases)(hS:SAt w w.heap.size SV p.a.sts) :
  Ap An 15 #[.agg (p.vs A kc SV ks)] w fun e w'=>e=Am (.tuple #[O U (qS p).1,O U (qS p).2])/\Ao w.heap.size w w':=by
 have HP:=zH (fun (w':Ba) (h:CAt w' w'.heap.size A p.t.cases) (h2:SAt w' w'.heap.size SV p.a.sts)=>Xi p hf A kc SV ks w' h h2);have HF:=zH (@zK p);have lB:=hf.1.1;have nT:=zH (fun (h:xy p.a=0) (K:Nat) (hK:K<=6) (w':Ba) (h':SAt w' w'.heap.size SV p.a.sts)=>ui p.a hf.2 h K hK SV ks w' h');have ay:As (zz p≠0->qS p=(0,zz p)):=fun h=>Ln h
 have am:As (zz p=0->qS p=qY 1048576 (zA p)):=fun h=>Lj (by simpa using h)
 obtain⟨E,hE⟩:=Kh (qS p);rw[hE] at ay am ⊢;obtain⟨pe,fq⟩:=Kh (zz p);rw[fq] at ay am HF HP;obtain⟨w1,ag⟩:=Kh (w.alloc (Ah (p.vs A kc SV ks) 29));have aI:=zg w (Ah (p.vs A kc SV ks) 29);have an:Ao w.heap.size w w1:=by rw[<-ag];exact zt w _
 have ch:w1.heap.size=w.heap.size+1:=by rw[<-ag];simp
 rw[ag] at aI;unfold Pb.vs at ag aI HP ⊢;have bJ:=zH aI;have aY:=zH an;have HA:=zH ((hA.keep an).more (by omega:w.heap.size<=w1.heap.size));have HS:=zH ((hS.keep an).more (by omega:w.heap.size<=w1.heap.size));have al:=zH ag;have q3:=za aI 3 rfl;have q5:=za aI 5 rfl;have q6:=za aI 6 rfl;clear hA hS ag an aI;go_enter func15,ntmps15;go_wp2_with fail;rw[al.out];go_wp2_with fail;refine(HP.out w1 HA.out HS.out).mono ?_;rintro e w2 ⟨rfl,ae⟩;have B2:=zH (aY.out.trans (ae.mono (by omega)));have dc:=zH ((HS.out.keep ae).more ae.size);have aP:=La ae bJ.out;have aU:=zH aP;have dq:=ae.size;clear ae HP al q3 q5 q6;have q4:=za aP 4 rfl;have q5:=za aP 5 rfl;have q6:=za aP 6 rfl;clear aP
 by_cases h1:pe=0
 case neg=>
  have hR:=zH (ay.out h1);have e0:(pe != 0)=Av:=by simpa using h1
  clear ay am h1 HF nT;go_wp2_with fail
  go_ret2
  rw[hR.out];exact⟨rfl,B2.out⟩
 case pos=>
 have hR:=zH (am.out h1);obtain⟨f1,f2,f3,f4,f5⟩:=HF.out h1;obtain⟨K,hk⟩:=Lr f4;have HN:=zH (nT.out f2 K (by omega));obtain⟨c1,_⟩:=yn f1;rw[hk] at q6;have hx:zA p=zI p.a K 0*p.t.cases.length:=by unfold zA;rw[hk];rfl
 rw[hx] at hR;subst h1;obtain⟨T,hT⟩:=Kh (zI p.a K 0);rw[hT] at HN hR;clear ay am HF nT f1 f2 f3 f4 hx hT;go_wp2_with fail;refine(HN.out w2 dc.out).mono ?_;rintro e w3 ⟨rfl,ap⟩;have B3:=zH (B2.out.trans (ap.mono (by omega)));have aP:=La ap aU.out;have q3:=za aP 3 rfl;obtain⟨cn,nC⟩:=Kh p.t.cases.length;rw[nC] at q3 c1 lB hR
 by_cases hg:1048576<T
 . have hm:1048576<T*cn:=LF hg (Pk T c1)
   have fw:As (E=(0,17)):=hR.out.trans (Ln hm);have hC:qY 1048576 T=(0,17):=Ln hg;rw[hC];go_wp2_with fail
   go_ret2
   rw[fw.out];exact⟨rfl,B3.out⟩
 have hC:qY 1048576 T=((T:Int),0):=Lj hg;rw[hC];have sf:T*cn<=1048576*30:=NZ (by omega) lB;have hw:IntKind.i64.wrap ((T:Int)*(cn:Int))=((T*cn:Nat):Int):=by rw[Ly,<-Int.natCast_mul];omega
 obtain⟨m,hm⟩:=Kh (T*cn);rw[hm] at hR sf hw
 by_cases hg:1048576<m
 . have fw:As (E=(0,17)):=hR.out.trans (Ln hg)
   go_wp2_with fail
   all_goals first | (exfalso;omega) | skip
   go_ret2
   rw[fw.out];exact⟨rfl,B3.out⟩
 have fw:As (E=((m:Int),0)):=hR.out.trans (Lj hg);go_wp2_with fail
 all_goals first | (exfalso;omega) | skip
 go_ret2
 rw[fw.out];exact⟨by first | rfl | rw[hw],B3.out⟩
end
section
open Go.RowKit Go.Shelf
def qn(p:Pb):Prop:=ZI p/\(zz p=0->zA p<=60\/4096<zA p)
def zD(p:Pb):Sy×Int:=if zz p≠0 then (xS,zz p) else if 4096<zA p then (xS,17) else (zL p,0)
theorem xg{p:Pb}(h:zz p≠0):zD p=(xS,zz p):=Ln h
theorem yP{p:Pb}(h:zz p=0)(h2:4096<zA p):zD p=(xS,17):=by unfold zD;rw[Lj (by simpa using h),Ln h2]
theorem xI{p:Pb}(h:zz p=0)(h2:zA p<=4096):zD p=(zL p,0):=by unfold zD;rw[Lj (by simpa using h),Lj (by omega)]
def kP(zi:List (List Rd))(l:List (Nat×Nat)):List (Nat×List Rd):=l.map fun x=>(x.1,zi.getD x.2 [])
theorem Jp(zi:List (List Rd))(l:List (Nat×Nat))(x:Nat×Nat):kP zi (l++[x])=kP zi l++[(x.1,zi.getD x.2 [])]:=by simp[kP]
theorem prsW_row(zi:List (List Rd))(i:Nat):kP zi ((List.range zi.length).map fun j=>(i,j))=zi.map fun w=>(i,w):=by
 unfold kP;rw[Pc];refine Pt (by simp) fun j h1 h2=>?_
 simp at h1;simp[h1]
theorem Yd(zi:List (List Rd)):∀(m i:Nat),kP zi (zx zi.length i m)=(List.range m).flatMap fun d=>zi.map fun w=>(i+d,w)
 | 0,_=>rfl
 | m+1,i=>by
  rw[zx,kP,LH];have h1:=prsW_row zi i;have h2:=Yd zi m (i+1);unfold kP at h1 h2;rw[h1,h2,List.range_succ_eq_map,Ny,List.flatMap_map]
  have e:(fun d=>zi.map fun w=>(i+1+d,w))=(fun d=>zi.map fun w=>(i+(d+1),w)):=by
   funext d;rw[show i+1+d=i+(d+1) by omega]
  rw[e];rfl
theorem gF(p:Pb)(K:Nat)(hK:p.k=(K:Int)):kP (zo p.a K 0) (zx (zo p.a K 0).length 0 p.t.cases.length)=zl p:=by
 rw[Yd];unfold zl;rw[hK]
 have e:(fun d=>(zo p.a K 0).map fun w=>(0+d,w))=(fun d=>(zo p.a ((K:Int).toNat) 0).map fun w=>(d,w)):=by
  funext d;rw[LN];rfl
 rw[e]
theorem kf(n:Nat):∀(m i:Nat),(zx n i m).length=m*n
 | 0,_=>by simp[zx]
 | m+1,i=>by rw[zx,Lq,kf n m (i+1)];simp;rw[Py];omega
theorem xL(p:Pb)(l:List (Nat×List Rd)):(zn p l).2.length=l.length:=by
 have key:∀n,n<=l.length->(zn p (l.take n)).2.length=n:=by
  intro n
  induction n with
  | zero=>intro _;rfl
  | succ n ih=>
   intro hl;rw[Lu (by omega),xY,Lq,ih (by omega)];rfl
 have:=key l.length (Lh _);rwa[LJ] at this
theorem uL(p:Pb)(hn:p.t.n.toNat<=5)(l:List (Nat×List Rd))(h:∀x∈l,x.2.length<=6):(zn p l).1.length<=l.length*35:=by
 have key:∀n,n<=l.length->(zn p (l.take n)).1.length<=n*35:=by
  intro n
  induction n with
  | zero=>intro _;simp[jF]
  | succ n ih=>
   intro hl;rw[Lu (by omega),xY];have h1:=ih (by omega);obtain⟨x,hx⟩:=Kh (l[n]);have h3:=h l[n] (Ld _);rw[hx] at h3 ⊢;have h2:=qC (zn p (l.take n)).1 p.t.n.toNat (yA p x.1) x.2 x.2.length;have h4:(x.2.length+1)*p.t.n.toNat<=7*5:=NZ (by omega) hn;dsimp only;omega
 have:=key l.length (Lh _);rwa[LJ] at this
end
section
open Go.RowKit Go.Shelf
structure BlIn(p:Pb)(D B bB bM b7:Nat)(SC:Au->Array Au)(WR:Ba)(l:List (Nat×List Rd))(V E:Au)(X:Ba):Prop where
 wr:Wrote (fun k=>k=bB\/k=bM\/k=b7) WR X
 bd:BdIn B bB bM p.t.n V (zn p l).1 X
 sys:X.heap[b7]?=J (Ah (SC E) 36 (0,0))
 out:OwnX ZG (fun k=>D<=k/\V.ownBlock≠J k) X D E (zn p l).2
 no:∀k,V.ownBlock=J k->D<=k/\E.ownBlock≠J k
structure BlB(D B bB bM b7:Nat)(WR:Ba):Prop where
 d:WR.heap.size=D
 b:bB<D
 m:bM<D
 s:b7<D
 lo:B<=bB/\B<=bM/\B<=b7
 bs:bB≠b7
 ms:bM≠b7
section
variable {p:Pb} {D B bB bM b7:Nat} {SC:Au->Array Au} {WR X:Ba} {l:List (Nat×List Rd)} {V E:Au}
theorem BlIn.big(h:BlIn p D B bB bM b7 SC WR l V E X)(hb:BlB D B bB bM b7 WR):D<=X.heap.size:=by have:=h.wr.size;have:=hb.d;omega
theorem BlIn.bel(h:BlIn p D B bB bM b7 SC WR l V E X)(hb:BlB D B bB bM b7 WR):Ao B WR X:=h.wr.below (by have:=hb.d;have:=hb.lo;have:=hb.b;omega) fun k hk hr=>by
 have:=hb.lo;rcases hr with e | e | e<;>omega
theorem BlIn.same(h:BlIn p D B bB bM b7 SC WR l V E X)(hb:BlB D B bB bM b7 WR){k:Nat}(hk:k<D)(h1:k≠bB)(h2:k≠bM)(h3:k≠b7):X.heap[k]?=WR.heap[k]?:=
 h.wr.block k (by have:=hb.d;omega) fun hr=>by rcases hr with e | e | e<;>contradiction
theorem BlIn.turn(h:BlIn p D B bB bM b7 SC WR l V E X)(hb:BlB D B bB bM b7 WR){X':Ba}{row:Option Nat}(hg:X.grownBy X' row)(hr:∀r,row=J r->D<=r/\∃o:Obj,X.heap[r]?=J o/\o.isCells=Ax):BlIn p D B bB bM b7 SC WR l V E X':=by
 have hc:∀(k:Nat) (o:Obj),X.heap[k]?=J o->o.isCells=Av->X'.heap[k]?=J o:=fun k o hk ho=>(LP hg (fun r e=>(hr r e).2) hk ho).trans hk
 obtain⟨m,hm⟩:=h.bd.num;refine⟨h.wr.trans (Wrote.of_grown (R:=fun k=>D<=k) hg (fun k e _=>(hr k e).1)) (fun k hk e=>by have:=hb.d;omega),⟨hc _ _ h.bd.hB rfl,⟨m,hm.same (hg.block bM hm.lt fun e=>by have:=(hr bM e.symm).1;have:=hb.m;omega)⟩,?_,h.bd.ne,h.bd.bm,h.bd.lo⟩,hc _ _ h.sys rfl,h.out.turn zy hg.size hc,h.no⟩;refine⟨h.bd.own.1,?_⟩;rcases h.bd.own.2 with hn | ⟨g,cap,cur,ns,cA,lr,rest⟩
 . exact .inl hn
 exact .inr ⟨g,cap,cur,ns,cA,hc g _ lr rfl,rest⟩
theorem BlIn.outn(h:BlIn p D B bB bM b7 SC WR l V E X)(hb:BlB D B bB bM b7 WR){w2 w3:Ba}{V':Au}(h2:Ao X.heap.size X w2)(ho:BdOn bB bM V w2 V' w3) :
  OwnX ZG (fun k=>D<=k/\V'.ownBlock≠J k) w3 D E (zn p l).2/\∀k,V'.ownBlock=J k->D<=k/\E.ownBlock≠J k:=by
 have hs:=h2.size;have hD:=h.big hb;have j':=h.out.lt
 have h1:OwnX ZG (fun k=>(D<=k/\V.ownBlock≠J k)/\V'.ownBlock≠J k) w2 D E (zn p l).2:=
  (h.out.mono (S':=fun k=>(D<=k/\V.ownBlock≠J k)/\V'.ownBlock≠J k) zy fun k hk hs=>⟨hs,fun e=>by
   rcases ho.2 k e with e | e
   . exact hs.2 e
   . omega⟩).below zy h2 (Lh _)
 refine⟨(h1.keep zy (ho.1.keep fun k _ hs hr=>?_) fun k hk=>ho.1.block k (by have:=(j' k hk).2;omega) fun hr=>?_).mono zy fun k _ hs=>⟨hs.1.1,hs.2⟩,fun k hk=>?_⟩
 . rcases hr with e | e | e
   . have:=hb.b;have:=hs.1.1;omega
   . have:=hb.m;have:=hs.1.1;omega
   exact hs.1.2 e
 . have:=(j' k hk).1
   rcases hr with e | e | e
   . have:=hb.b;omega
   . have:=hb.m;omega
   exact(h.no k e).2 hk
 rcases ho.2 k hk with e | e
 . exact h.no k e
 exact⟨by omega,fun e2=>by have:=(j' k e2).2;omega⟩
theorem BlIn.lies(h:BlIn p D B bB bM b7 SC WR l V E X)(hb:BlB D B bB bM b7 WR){w2 w3 W4:Ba}{V' v:Au}{i:Nat}{word:List Rd}{views:List (List Int)}{A2 A3:Bb}{c2 c3:Nat}(h2:Ao X.heap.size X w2)(ho:BdOn bB bM V w2 V' w3)(h4:Ao w3.heap.size w3 W4)
  (hw:RAtS (fun k=>X.heap.size<=k) w2 A2 word) (hv:LAtS (fun k=>(w2.heap.size<=k/\V'.ownBlock≠J k)\/v.ownBlock=J k) w3 A3 views) (cp:∀k,v.ownBlock=J k->w2.heap.size<=k) (S0:∀k,V'.ownBlock=J k->v.ownBlock≠J k) (Cn:word.length<=c2) :
  ZG.lies (fun k=>(D<=k/\V'.ownBlock≠J k)/\E.ownBlock≠J k) W4 [O U i,I A2 word.length c2,I A3 views.length c3] ⟨i,word,views⟩:=by
 have hs:=h2.size;have hD:=h.big hb;have j':=h.out.lt;have FM:=h.bd.own.lt;refine⟨A2,c2,A3,c3,rfl,?_,?_,Cn⟩
 . have h5:RAtS (fun k=>X.heap.size<=k/\k<w2.heap.size) w2 A2 word:=hw.mono fun k hk hs=>⟨hs,hk⟩
   have h6:=h5.keep (ho.1.keep fun k _ hs hr=>by
    rcases hr with e | e | e
    . have:=hb.b;omega
    . have:=hb.m;omega
    . have:=(FM k e).2;omega)
   have h7:RAtS (fun k=>(D<=k/\V'.ownBlock≠J k)/\E.ownBlock≠J k) w3 A2 word:=h6.mono fun k _ hs=>⟨⟨by omega,fun e=>by
    rcases ho.2 k e with e | e
    . have:=(FM k e).2;omega
    . omega⟩,fun e=>by have:=(j' k e).2;omega⟩
   exact h7.on h4
 have h7 : LAtS (fun k => (D <= k /\ V'.ownBlock ≠ J k) /\ E.ownBlock ≠ J k) w3 A3 views := hv.mono fun k _ hs => by
  rcases hs with hs | hs
  . exact⟨⟨by omega,hs.2⟩,fun e=>by have:=(j' k e).2;omega⟩
  . have:=cp k hs
    exact⟨⟨by omega,fun e=>S0 k e hs⟩,fun e=>by have:=(j' k e).2;omega⟩
 exact h7.on h4
theorem BlIn.next(h:BlIn p D B bB bM b7 SC WR l V E X)(hb:BlB D B bB bM b7 WR){w2 w3 W4 w5:Ba}{V':Au}{x:Nat×List Rd}{cs:List Au}{aD:List (List Au)}{g' cap:Nat}(h2:Ao X.heap.size X w2)(ho:BdOn bB bM V w2 V' w3)(h4:Ao w3.heap.size w3 W4)
  (hd:BdIn B bB bM p.t.n V' (zk (zn p l).1 p.t.n.toNat (yA p x.1) x.2 x.2.length).1 w3)
  (Tj:∀E':Au,(SC E).setIfInBounds 9 E'=SC E')
  (bk:aD.length=(zn p l).2.length) (bj:∀(i:Nat) (h1:i<aD.length) (h2:i<(zn p l).2.length),ZG.lies (fun k=>(D<=k/\V'.ownBlock≠J k)/\E.ownBlock≠J k) W4 aD[i] (zn p l).2[i])
  (hX:ZG.lies (fun k=>(D<=k/\V'.ownBlock≠J k)/\E.ownBlock≠J k) W4 cs ⟨x.1,x.2,(zk (zn p l).1 p.t.n.toNat (yA p x.1) x.2 x.2.length).2⟩)
  (hr:OwnR kXn w5 D (I (J ⟨g',0,Z⟩) ((zn p l).2.length+1) cap) ((zn p l).2.length+1) (aD.flatten++cs)) (hg:W4.grownBy w5 E.ownBlock) (bz:E.ownBlock=J g'\/g'=W4.heap.size) :
  BlIn p D B bB bM b7 SC WR (l++[x]) V' (I (J ⟨g',0,Z⟩) ((zn p l).2.length+1) cap) (w5.setCell ⟨b7,9,Z⟩ (I (J ⟨g',0,Z⟩) ((zn p l).2.length+1) cap)) /\
   KeepsFrom D X (w5.setCell ⟨b7,9,Z⟩ (I (J ⟨g',0,Z⟩) ((zn p l).2.length+1) cap)) /\
   Wrote (fun k=>k=bB\/k=bM\/k=b7\/D<=k) X (w5.setCell ⟨b7,9,Z⟩ (I (J ⟨g',0,Z⟩) ((zn p l).2.length+1) cap)):=by
 have hs:=h2.size;have hD:=h.big hb;have fj:=ho.1.size;have fK:=h4.size;have j':=h.out.lt;have FM:=h.bd.own.lt;obtain⟨_,eU⟩:=h.outn hb h2 ho;have cy:=hr.lt g' rfl;have aB:=hb.lo;obtain⟨e1,e2,e3⟩:bB<D/\bM<D/\b7<D:=⟨hb.b,hb.m,hb.s⟩;have Hq:∀k,k<D->E.ownBlock≠J k:=fun k hk e=>by have:=(j' k e).1;omega
 have Oc:∀k,V'.ownBlock=J k->D<=k:=fun k e=>(eU k e).1
 have hW:Wrote (fun k=>k=bB\/k=bM\/k=b7\/V.ownBlock=J k\/E.ownBlock=J k) X (w5.setCell ⟨b7,9,Z⟩ (I (J ⟨g',0,Z⟩) ((zn p l).2.length+1) cap)):=by
  refine((((Wrote.of_below (R:=fun k=>k=bB\/k=bM\/k=b7\/V.ownBlock=J k\/E.ownBlock=J k) h2).trans ho.1 fun k _ hr=>?_).trans (Wrote.of_below (R:=fun _=>False) h4) fun _ _ h=>h.elim).trans (Wrote.of_grown (R:=fun k=>E.ownBlock=J k) hg fun _ e _=>e) fun k _ e=>?_).trans (Wrote.of_grown (R:=fun k=>k=b7) (yo w5 b7 9 _) fun k e _=>by cases e;rfl) fun k _ e=>?_
  . rcases hr with e | e | e
    . exact .inl e
    . exact .inr (.inl e)
    exact .inr (.inr (.inr (.inl e)))
  . exact .inr (.inr (.inr (.inr e)))
  exact .inr (.inr (.inl e))
 have aM:w5.heap[b7]?=J (Ah (SC E) 36 (0,0)):=by
  refine(hg.block b7 (by omega) fun e=>Hq b7 e3 e.symm).trans ((h4.block b7 (by omega)).trans ((ho.1.block b7 (by omega) fun hr=>?_).trans ((h2.block b7 (by omega)).trans h.sys)));rcases hr with e | e | e
  . exact hb.bs e.symm
  . exact hb.ms e.symm
  have:=(h.no b7 e).1;omega
 have EB:=((hd.on h4).grown hg (fun e=>Hq bB e1 e) (fun e=>Hq bM e2 e) (fun k hk e=>(eU k hk).2 e)).set (g:=b7) (fun e=>hb.bs e.symm) (fun e=>hb.ms e.symm) (fun e=>by have:=Oc b7 e;omega) 9 (I (J ⟨g',0,Z⟩) ((zn p l).2.length+1) cap);have cV:=xY p l x;refine⟨⟨?_,?_,?_,?_,?_⟩,?_,hW.more fun k _ hr=>?_⟩
 . refine h.wr.trans hW fun k hk hr=>?_
   have:=hb.d;rcases hr with e | e | e | e | e
   . exact .inl e
   . exact .inr (.inl e)
   . exact .inr (.inr e)
   . have:=(h.no k e).1;omega
   have:=(j' k e).1;omega
 . rw[cV];exact EB
 . rw[Lk w5 b7 9 _ _ _ aM,Tj]
 . rw[cV]
   have h8:=OwnX.app zy bk bj hX hr hg bz;refine h8.kept zy (yo w5 b7 9 _) (.inr (fun e=>?_)) (fun k e=>.inl fun hs=>?_)
   . have:g'=b7:=by simpa[Value.ownBlock] using e
     omega
   cases e;have:=hs.1;omega
 . intro k hk
   refine⟨Oc k hk,fun e=>?_⟩;have:g'=k:=by simpa[Value.ownBlock] using e
   subst this;rcases bz with e | e
   . exact(eU g' hk).2 e
   have:=(hd.own.lt g' hk).2;omega
 . refine⟨hW.size,fun k o hk cC Nj=>(hW.block k (zd cC) fun hr=>?_).trans cC⟩
   rcases hr with e | e | e | e | e
   . omega
   . omega
   . omega
   . rcases h.bd.own.2 with ⟨hn,_⟩ | ⟨g,aF,cur,ns,_,lr,_⟩
     . rw[hn] at e;cases e
     rw[ns] at e;cases e;rw[lr] at cC;cases cC;cases Nj
   obtain⟨Vb,_,pI,_⟩:=h.out;rcases pI.2 with ⟨hn,_⟩ | ⟨g,aF,cur,ns,_,lr,_⟩
   . rw[hn] at e;cases e
   rw[ns] at e;cases e;rw[lr] at cC;cases cC;cases Nj
 rcases hr with e | e | e | e | e
 . exact .inl e
 . exact .inr (.inl e)
 . exact .inr (.inr (.inl e))
 . exact .inr (.inr (.inr (h.no k e).1))
 exact .inr (.inr (.inr (j' k e).1))
end
end
end Go.Proofs.YtkledihebeidlaaGreatDoor
