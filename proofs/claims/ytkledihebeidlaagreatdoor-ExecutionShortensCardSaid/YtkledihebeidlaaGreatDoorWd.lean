/- Merged. -/
import Derived.Test.YtkledihebeidlaaGreatDoorWc
import Derived.Laws.Pointers
import Derived.Laws.CopyOwn
import Derived.Deep.RegionLaw
import Derived.IntWalk
import Derived.Maps.RangeWalk
import Derived.Deep.LoopGhost
import Derived.Laws.EntriesVeiled
open Go.Proofs.Tryz
open Go.Value renaming int->O,slice->I,agg->Aj,pointer->Ak
open Go.IntKind renaming i64->U
open Option renaming none->Z,some->J
open Go.Obj renaming cells->Ah
open Go.Ending renaming returned->Am
open Go.Proofs.Tryz renaming prog->An,func142->Rw
open Go.RowKit renaming Below->Ao,intOf->Aq,Hid->As
open Go renaming Calls->Ap,Value->Au
open Bool renaming true->Av,false->Ax
open Nat renaming sub_zero->Pc
open List renaming flatMap_cons->Ny,sum_cons->PU,length_replicate->N8,getD_cons_succ->Rk
namespace Go.Proofs.YtkledihebeidlaaGreatDoor
abbrev Rl:=@List.flatMap_append
abbrev Px:=@Go.World.cell?_alloc_lt
abbrev Pt:=@List.ext_getElem
abbrev Pm:=@Nat.le_mul_of_pos_right
set_option maxRecDepth 100000
set_option maxHeartbeats 4000000
section
open Go.RowKit
attribute [local go_sem] Oper.semAt_some
theorem QW(w:Ba)(c1:Array Au)(t1:TypeId):∃W0,(w.alloc (Ah c1 t1)).drew=W0/\W0.heap[w.heap.size]?=J (Ah c1 t1 (0,0))/\W0.heap.size=w.heap.size+1/\Ao w.heap.size w W0:=
 ⟨_,rfl,zh w _,by show(w.alloc _).heap.size=_;simp,(zw w _).drew⟩
def yB(pre:List Rd)(l:List (List Rd)):List (List Rd):=l.map (pre++·)
theorem Qz(pre:List Rd):yB pre [[]]=[pre]:=by simp[yB]
theorem Y4(pre:List Rd)(r:Rd)(l:List (List Rd)):yB pre (l.map (r::·))=yB (pre++[r]) l:=by simp[yB]
def zV(a:Ad)(k:Nat)(M:List Mv)(j:Nat):List (List Rd):=(M.take j).flatMap fun m=>(zn a k m.to).map (m.r::·)
theorem jN(a:Ad)(k:Nat)(M:List Mv):zV a k M 0=[]:=by simp[zV]
theorem xZ(a:Ad)(k:Nat)(M:List Mv){j:Nat}(h:j<M.length):zV a k M (j+1)=zV a k M j++(zn a k M[j].to).map (M[j].r::·):=by
 unfold zV;rw[Lu h,Rl];simp
theorem vT(a:Ad)(k:Nat){s:Nat}(h:s<a.sts.length):zV a k a.sts[s] a.sts[s].length=zn a (k+1) (s:Int):=by
 unfold zV;rw[zn,LD,show a.at_ (s:Int)=a.sts[s] by unfold Ad.at_;rw[Lv,Le,Lg h];rfl]
theorem vS(a:Ad)(k:Nat)(M:List Mv)(j:Nat):(zV a k M j).length<=(zV a k M M.length).length:=by
 unfold zV;rw[LD]
 conv=>rhs;rw[<-Rc j M,Rl,Lq]
 omega
def Fx(bR bO bA bF g k:Nat):Prop:=k≠bR/\k≠bO/\k≠bA/\k≠bF/\k≠g
structure FromIn(a:Ad)(K:Nat)(SV:Bb)(ks B bR bO bA bF g:Nat)(V:Au)(pre:List Rd)(outs:List (List Rd))(w0 w:Ba):Prop where
 hR:w.heap[bR]?=J (Ah #[O U K] 3 (0,0))
 hO:w.heap[bO]?=J (Ah #[V] 104 (0,0))
 hA:w.heap[bA]?=J (Ah #[O U a.n,I SV a.sts.length ks] 27 (0,0))
 hF:w.heap[bF]?=J (Ah #[.func (.func 82) #[] #[Ak (J ⟨bR,0,Z⟩),Ak (J ⟨bO,0,Z⟩),Ak (J ⟨bA,0,Z⟩),Ak (J ⟨bF,0,Z⟩)]] 160 (0,0))
 out:OwnX cWd (Fx bR bO bA bF g) w B V outs
 ne:∀k,V.ownBlock=J k->Fx bR bO bA bF g k
 buf:OwnR kRd w B (I (J ⟨g,0,Z⟩) pre.length K) pre.length (yj pre)
 bel:Ao B w0 w
theorem FromIn.fresh{a:Ad}{K:Nat}{SV:Bb}{ks B bR bO bA bF g:Nat}{V:Au}{pre:List Rd}{outs:List (List Rd)}{w0 w:Ba}(H:FromIn a K SV ks B bR bO bA bF g V pre outs w0 w){k:Nat}(hk:w.heap.size<=k):Fx bR bO bA bF g k:=by
 have h1:=zd H.hR;have h2:=zd H.hO;have h3:=zd H.hA;have h4:=zd H.hF;have h5:=(H.buf.lt g rfl).2;exact⟨by omega,by omega,by omega,by omega,by omega⟩
structure FromB(B bR bO bA bF g:Nat):Prop where
 r:B<=bR
 o:B<=bO
 a:B<=bA
 f:B<=bF
 ro:bR≠bO
 ao:bA≠bO
 fo:bF≠bO
 gr:g≠bR
 go:g≠bO
 ga:g≠bA
 gf:g≠bF
 g:B<=g
def ve(a:Ad)(K:Nat)(SV:Bb)(ks k:Nat):Prop:=∀(s:Int) (pre:List Rd) (outs:List (List Rd)) (V:Au) (B bR bO bA bF g:Nat) (w0 w:Ba),
 pre.length+k=K->(k=0\/(0<=s/\s<a.sts.length))->outs.length+(zn a k s).length<=5000->FromB B bR bO bA bF g->SAt w0 B SV a.sts->FromIn a K SV ks B bR bO bA bF g V pre outs w0 w ->
 Ap An 82 #[O U s,I (J ⟨g,0,Z⟩) pre.length K,Ak (J ⟨bR,0,Z⟩),Ak (J ⟨bO,0,Z⟩),Ak (J ⟨bA,0,Z⟩),Ak (J ⟨bF,0,Z⟩)] w
  fun e w'=>(∃v,e=Am v)/\∃V',FromIn a K SV ks B bR bO bA bF g V' pre (outs++yB pre (zn a k s)) w0 w'
theorem FromIn.push{a:Ad}{K:Nat}{SV:Bb}{ks B bR bO bA bF g:Nat}{V:Au}{pre:List Rd}{outs:List (List Rd)}{w0 w W w3:Ba}{x:List Rd}{aD:List (List Au)}{A2:Bb}{c2 g' cap:Nat}
  (H:FromIn a K SV ks B bR bO bA bF g V pre outs w0 w) (hB:FromB B bR bO bA bF g) (hw:Ao w.heap.size w W) (hl:aD.length=outs.length)
  (h3:∀(i:Nat) (h1:i<aD.length) (h2:i<outs.length),cWd.lies (fun k=>Fx bR bO bA bF g k/\V.ownBlock≠J k) W aD[i] outs[i])
  (hx:RAtS (fun k=>w.heap.size<=k) W A2 x) (UJ:x.length<=c2) (hr:OwnR kWd w3 B (I (J ⟨g',0,Z⟩) (outs.length+1) cap) (outs.length+1) (aD.flatten++[I A2 x.length c2]))
  (hg:W.grownBy w3 V.ownBlock) (bz:V.ownBlock=J g'\/g'=W.heap.size) :
  FromIn a K SV ks B bR bO bA bF g (I (J ⟨g',0,Z⟩) (outs.length+1) cap) pre (outs++[x]) w0 (w3.setCell ⟨bO,0,Z⟩ (I (J ⟨g',0,Z⟩) (outs.length+1) cap)):=by
 have ac:=H.out.lt;have pf:g<w.heap.size:=(H.buf.lt g rfl).2;have mL:=hw.size;have k1:=zd H.hR;have k2:=zd H.hO;have k3:=zd H.hA;have k4:=zd H.hF
 have hk:∀b,b<w.heap.size->V.ownBlock≠J b->b≠bO->(w3.setCell ⟨bO,0,Z⟩ (I (J ⟨g',0,Z⟩) (outs.length+1) cap)).heap[b]?=w.heap[b]?:=fun b h1 h0 h2=>
  (Lf _ _ _ b h2).trans ((hg.block b (by omega) (fun e=>h0 e.symm)).trans (hw.block b h1))
 have lM:w3.heap[bO]?=J (Ah #[V] 104 (0,0)):=(hg.block bO (by omega) (fun e=>(H.ne bO e.symm).2.1 rfl)).trans ((hw.block bO (by omega)).trans H.hO);obtain⟨x1,x2,x3⟩:=vj lM (I (J ⟨g',0,Z⟩) (outs.length+1) cap);have hX:cWd.lies (fun k=>Fx bR bO bA bF g k/\V.ownBlock≠J k) W [I A2 x.length c2] x:=⟨A2,c2,rfl,hx.mono fun k _ hk=>⟨H.fresh hk,fun e=>by have:=(ac k e).2;omega⟩,UJ⟩;have hO:=OwnX.app xL hl h3 hX hr hg bz;have Dh:B<=g'/\g'<w3.heap.size:=hr.lt g' rfl
 have RY:Fx bR bO bA bF g g':=by
  rcases bz with e | e
  . exact H.ne g' e
  exact H.fresh (by omega)
 have Hf:V.ownBlock≠J g:=fun e=>(H.ne g e).2.2.2.2 rfl
 refine⟨(hk _ k1 (fun e=>(H.ne _ e).1 rfl) hB.ro).trans H.hR,x1,(hk _ k3 (fun e=>(H.ne _ e).2.2.1 rfl) hB.ao).trans H.hA,(hk _ k4 (fun e=>(H.ne _ e).2.2.2.1 rfl) hB.fo).trans H.hF,?_,?_,?_,?_⟩
 . refine hO.kept xL (yu w3 bO 0 _) (.inr (fun e=>?_)) (fun k e=>.inl fun hs=>?_)
   . have e2:g'=bO:=by simpa[Value.ownBlock] using e
     exact RY.2.1 e2
   cases e
   exact hs.2.1 rfl
 . intro k e
   have e2:g'=k:=by simpa[Value.ownBlock] using e
   subst e2;exact RY
 . refine((H.buf.below hw (Lh _)).kept hg (.inr (fun e=>Hf e.symm))).kept (yu w3 bO 0 _) (.inr (fun e=>?_))
   have e2:g=bO:=by simpa[Value.ownBlock] using e
   exact hB.go e2
 have h1:=hB.o;have h2:=hB.g;exact((H.bel.trans (hw.mono (by omega))).grown hg (by omega) (fun k hk=>(ac k hk).1)).setCell (by show B<=bO;omega) _
theorem J4(a:Ad)(K:Nat)(hK:K<=6)(SV:Bb)(ks:Nat):ve a K SV ks 0:=by
 intro s pre outs V B bR bO bA bF g w0 w dN _ aO hB hS H;obtain rfl:K=pre.length:=by omega
 have aO:outs.length<=5000:=by omega
 have HI:=zH H;have bK:=zH hB;have r0:=za H.hR 0 rfl;have o0:=za H.hO 0 rfl
 have sy:Raw w.drew (J ⟨g,0,Z⟩) pre.length (yj pre):=by
  obtain⟨A,cap,e,_,_,h⟩:=H.buf.raw
  cases e;exact h
 have HC:=zH (Zo (J ⟨g,0,Z⟩) pre.length pre.length (yj pre) w.drew (xf pre) sy (jA pre) (by omega));go_enter func82,ntmps82;go_wp2_with fail;refine zz [(0,Av),(1,Av),(2,Ax),(3,Ax),(4,Ax),(5,Ax)] (fun W=>W.cell? ⟨bO,0,Z⟩=J V) (by kernel_rfl) (by kernel_rfl) (by exact o0) ?_
 repeat
  apply zg rfl
  . intro K' ae W hW
    go_simp;exact ae
 refine zE rfl ?_;intro K' ae;go_simp;refine HC.out.mono ?_;rintro e w2 ⟨v2,rfl,cI,af⟩;obtain⟨A2,c2,rfl,hc2,fI,eH⟩:=jz cI;have af:Ao w.heap.size w w2:=vK af;have eH:RAtS (fun k=>w.heap.size<=k) w2 A2 pre:=eH;have tR:=HI.out.hO;have o2:w2.cell? ⟨bO,0,Z⟩=J V:=(af.cell (p:=⟨bO,0,Z⟩) (zd tR)).trans o0;refine ae _ _ o2 ?_;refine zE rfl ?_;intro K' ae;go_simp;have Kn:bO<w2.heap.size:=by have:=zd tR;have:=af.size;omega
 refine ae _ _ ((Px _ _ _ Kn).trans o2) ?_;refine zE rfl ?_;intro K' ae;obtain⟨W2,eM⟩:=Kh (w2.alloc (Ah #[I A2 pre.length c2] 39));have ig:=zh w2 (Ah #[I A2 pre.length c2] 39);have aQ:Ao w.heap.size w W2:=by rw[<-eM];exact af.alloc af.size _
 have DP:RAtS (fun k=>w.heap.size<=k) W2 A2 pre:=by rw[<-eM];exact eH.keep (KeepB.alloc _ _ _)
 rw[eM] at ig ⊢;obtain⟨aD,bh,fu,bq⟩:=HI.out.out.below xL aQ (Lh _);have bG:B<=W2.heap.size:=by have:=bK.out.g;have:=(HI.out.buf.lt g rfl).2;have:=aQ.size;omega
 refine Jv X7 (by rfl) (.tmp 14) (.tmp 17) (by rfl) B V outs.length aD.flatten (by rfl) fu w2.heap.size #[I A2 pre.length c2] (by rfl) ig rfl (by simp[Value.oneCell']) (by omega) bG _ rfl ?_;intro g' cap w3 hr aJ bz Ig
 have o3:w3.cell? ⟨bO,0,Z⟩=J V:=by
  refine(L7 (aJ.block bO (by have:=zd tR;have:=aQ.size;omega) (fun e=>?_))).trans ((aQ.cell (p:=⟨bO,0,Z⟩) (zd tR)).trans o0);exact(HI.out.ne bO e.symm).2.1 rfl
 have f3:w3.frozen? ⟨bO,0,Z⟩=Ax:=by
  refine zb (cs:=#[V]) (t:=104) ((aJ.block bO (by have:=zd tR;have:=aQ.size;omega) (fun e=>?_)).trans ((aQ.block bO (zd tR)).trans tR)) 0;exact(HI.out.ne bO e.symm).2.1 rfl
 have HP:=zH (HI.out.push bK.out aQ bh bq DP hc2 hr aJ bz);refine ae _ _ o3 ?_;refine xh rfl (by kernel_rfl) ?_;intro K' ae;go_simp;refine ae (fun _=>True) _ _ trivial ?_;refine ya ?_;go_simp;go_wp2_with fail;refine Na (Rr rfl _ _ _) rfl ?_;refine⟨⟨.tuple #[],rfl⟩,I (J ⟨g',0,Z⟩) (outs.length+1) cap,?_⟩;rw[show zn a 0 s=[[]] from rfl,Qz];exact HP.out
theorem FromIn.ext{a:Ad}{K:Nat}{SV:Bb}{ks B bR bO bA bF g:Nat}{V:Au}{pre:List Rd}{outs:List (List Rd)}{w0 w W w4:Ba}{r:Rd}
  (H:FromIn a K SV ks B bR bO bA bF g V pre outs w0 w) (hB:FromB B bR bO bA bF g) (hw:Ao w.heap.size w W)
  (hr:OwnR kRd w4 B (I (J ⟨g,0,Z⟩) (pre.length+1) K) (pre.length+1) (yj pre++r.cells.toList)) (hg:W.grownBy w4 (J g)) :
  FromIn a K SV ks B bR bO bA bF g V (pre++[r]) outs w0 w4:=by
 have pf:g<w.heap.size:=(H.buf.lt g rfl).2;have mL:=hw.size;have k1:=zd H.hR;have k2:=zd H.hO;have k3:=zd H.hA;have k4:=zd H.hF;have hk:∀b,b<w.heap.size->g≠b->w4.heap[b]?=w.heap[b]?:=fun b h1 h2=>(hg.block b (by omega) (fun e=>by cases e;exact h2 rfl)).trans (hw.block b h1)
 have Hf:V.ownBlock≠J g:=fun e=>(H.ne g e).2.2.2.2 rfl
 refine⟨(hk _ k1 hB.gr).trans H.hR,(hk _ k2 hB.go).trans H.hO,(hk _ k3 hB.ga).trans H.hA,(hk _ k4 hB.gf).trans H.hF,?_,H.ne,?_,?_⟩
 . exact(H.out.below xL hw (Lh _)).kept xL hg (.inr Hf) (fun k e=>.inl fun hs=>hs.2.2.2.2 (by cases e;rfl))
 . rw[Lq,jk];exact hr
 have:=hB.g;exact(H.bel.trans (hw.mono (by omega))).grown hg (by omega) (fun k hk=>by cases hk;omega)
theorem FromIn.cut{a:Ad}{K:Nat}{SV:Bb}{ks B bR bO bA bF g:Nat}{V:Au}{pre:List Rd}{outs:List (List Rd)}{w0 w:Ba}{r:Rd}
  (H:FromIn a K SV ks B bR bO bA bF g V (pre++[r]) outs w0 w):FromIn a K SV ks B bR bO bA bF g V pre outs w0 w:=by
 refine⟨H.hR,H.hO,H.hA,H.hF,H.out,H.ne,?_,H.bel⟩;have h:=H.buf;rw[jk,Lq] at h;exact h.pop (xf pre)
theorem QA(pre:List Rd)(l:List (List Rd)):(yB pre l).length=l.length:=by simp[yB]
theorem gL(pre:List Rd)(l m:List (List Rd)):yB pre (l++m)=yB pre l++yB pre m:=by simp[yB]
theorem J5(a:Ad)(K:Nat)(SV:Bb)(ks k:Nat)(hz:zl a a.sts=0)(hf:FewA a)(ih:ve a K SV ks k):ve a K SV ks (k+1):=by
 intro s pre outs V B bR bO bA bF g w0 w dN mi aO hB hS H;have hs:0<=s/\s<a.sts.length:=mi.resolve_left (by omega);obtain⟨S,rfl⟩:=Lr hs.1;have i9:S<a.sts.length:=by omega
 have HI:=zH H;have bK:=zH hB;have M5:=zH ih;have dz:=zH hS;have HZ:=zH (@xv a hz);have nc:=hf.each (Ld i9);have ik:=zH (vT a k i9);have EC:=zH aO;have tV:=zH (fun (m:Mv) (hm:m∈a.sts[S])=>(NA.2 ⟨_,Ld i9,hm⟩:m∈a.mvs));have r0:=za H.hR 0 rfl;have a1:=za H.hA 1 rfl;obtain⟨bs,os,A',lX,BC,bG,s0,tt⟩:=(hS.keep H.bel).at_ S i9;have UX:SV.map (fun x=>x)=J ⟨bs,os,Z⟩:=by rw[BC];rfl
 have pI:As (∀W,Ao B w0 W->MAt W B A' a.sts[S]):=by
  intro W hW;obtain⟨bs2,os2,A2,cs2,DK,_,s2,rF⟩:=(hS.keep hW).at_ S i9;rw[BC] at DK
  cases DK
  have e1:=(hS.keep H.bel).at_ S i9;obtain⟨bs3,os3,A3,cs3,DJ,Dq,s3,Ws⟩:=hS.at_ S i9;rw[BC] at DJ
  cases DJ
  have x1:=(H.bel.cell (p:=⟨bs,os+S,Z⟩) Dq).trans s3;have x2:=(hW.cell (p:=⟨bs,os+S,Z⟩) Dq).trans s3;rw[x1] at s0
  cases s0
  exact Ws.keep hW
 clear UX tt hS;subst BC;obtain⟨M,hM⟩:=Kh (a.sts[S]);rw[hM] at s0 pI ik tV nc;have e0:((pre.length:Int)==(K:Int))=Ax:=by simp;omega
 have bI:(S:Int)<(a.sts.length:Int):=by omega
 have dX:(0:Int)<=(S:Int):=by omega
 clear H hB hM hz hf ih hs mi;go_enter func82,ntmps82;go_wp2_with fail;clear r0 a1 s0 e0
 go_loopw [25] (fun i wr=>∃(j:Nat) (V':Au),j<=M.length/\i=O U (j:Int)/\As (FromIn a K (J ⟨bs,os,Z⟩) ks B bR bO bA bF g V' pre (outs++yB pre (zV a k M j)) w0 wr)) (fun i _=>M.length-(Aq i).toNat)
 case atStart=>exact⟨0,V,by omega,rfl,by rw[jN,show yB pre []=[] from rfl,Nc];exact HI.out⟩
 obtain⟨j,V',hj,rfl,HJ⟩:=hrel
 by_cases bg:j<M.length
 case neg=>
  obtain rfl:j=M.length:=by omega
  go_wp2_with fail
  go_end0
  refine⟨⟨.tuple #[],rfl⟩,V',?_⟩;rw[<-ik.out];exact HJ.out
 obtain⟨bm,om,e1,V9,m0,m1,m2,m3,m4,m5,m6,m7⟩:=(pI.out _ HJ.out.bel).row j bg;subst e1;have rk:(0:Int)<=(j:Int):=by omega
 have pc:(j:Int)<(M.length:Int):=by omega
 have HF:=HJ.out.hF;have f0:=za HF 0 rfl;have Ko:bF<wr.heap.size:=zd HF;have ie:=tV.out M[j] (Ld bg);obtain⟨z1,z2,z3,z4⟩:=HZ.out _ ie;have dl:=zH (xZ a k M bg);have en:=vS a k M (j+1);rw[xZ a k M bg,Lq,LG] at en;obtain⟨m,CX⟩:=Kh (M[j]);rw[CX] at m0 m1 m2 m3 m4 m5 m6 m7 ie z1 z2 z3 z4 dl en
 have iR:(outs++yB pre (zV a k M j)).length+(zn a k m.to).length<=5000:=by
  have:=EC.out;rw[<-ik.out] at this;rw[Lq,QA];omega
 have EF:=zH iR;have HZ3:=zH z3;have HZ4:=zH z4;clear CX en z1 z2 z3 z4 iR ie tV HZ EC HI pI ik;go_wp2_with fail;clear m0 m1 m2 m3 m4 m5 m6 m7;obtain⟨W1,cO,g0,co,aB⟩:=zt wr m.cells 121;unfold Mv.cells at cO;rw[cO];clear cO;have f1:=(aB.cell (p:=⟨bF,0,Z⟩) Ko).trans f0;have cJ:=(HJ.out.buf.lt g rfl).2;have sW:=bK.out.gf;have Vd:pre.length+1<=K:=by omega
 have Hw:(pre++[m.r]).length+k=K:=by rw[Lq,List.length_singleton];omega
 have Wy:wr.heap.size<W1.heap.size:=by omega
 have hD:=zH g0
 refine zz [(0,Av),(1,Av),(2,Av),(3,Av),(4,Av),(5,Av),(6,Ax),(7,Ax),(8,Ax)]
  (fun W=>W.cell? ⟨bF,0,Z⟩=J (.func (.func 82) #[] #[Ak (J ⟨bR,0,Z⟩),Ak (J ⟨bO,0,Z⟩),Ak (J ⟨bA,0,Z⟩),Ak (J ⟨bF,0,Z⟩)])/\W.heap[wr.heap.size]?=J (Ah m.cells 121 (0,0)))
  (by kernel_rfl) (by kernel_rfl) ⟨f1,g0⟩ ?_
 clear f0
 repeat
  apply zg rfl
  . rintro K' ae W ⟨y0,y1⟩
    have g1:W.cell? ⟨wr.heap.size,0,Z⟩=J (O U m.r.n):=za y1 0 rfl;have g2:W.cell? ⟨wr.heap.size,1,Z⟩=J (O U m.r.h0):=za y1 1 rfl;have g3:W.cell? ⟨wr.heap.size,2,Z⟩=J (O U m.r.h1):=za y1 2 rfl;have g4:W.cell? ⟨wr.heap.size,3,Z⟩=J (O U m.r.h2):=za y1 3 rfl;have g5:W.cell? ⟨wr.heap.size,4,Z⟩=J (O U m.r.h3):=za y1 4 rfl;have g6:W.cell? ⟨wr.heap.size,5,Z⟩=J (O U m.r.h4):=za y1 5 rfl;have g7:W.cell? ⟨wr.heap.size,6,Z⟩=J (O U m.r.f):=za y1 6 rfl;have g8:W.cell? ⟨wr.heap.size,7,Z⟩=J (O U m.to):=za y1 7 rfl;clear y1;go_simp;exact ae
 refine zE rfl ?_;intro K' ae;go_simp;obtain⟨W2,eM,d0,ed,nt⟩:=QW W1 m.r.cells 75;unfold Rd.cells at eM;rw[eM];have g2:=Lb nt Wy hD.out;have f2:=(nt.cell (p:=⟨bF,0,Z⟩) (by show bF<W1.heap.size;omega)).trans f1;refine ae _ _ ⟨f2,g2⟩ ?_;have pw:Ao wr.heap.size wr W2:=aB.trans (nt.mono (by omega));refine zE rfl ?_;intro K' ae;rw[Ln (by rfl)];refine wp_fitR ZS (.tmp 32) (.tmp 35) (by rfl) B g pre.length K (yj pre) (by rfl) (HJ.out.buf.below pw (Lh _)) (wr.heap.size+1) m.r.cells (by rfl) (co▸d0) rfl (by simp[Rd.cells,Value.oneCell']) Vd ?_;intro W3 hr cS;have HX:=zH (HJ.out.ext bK.out pw hr cS);have g3:=(cS.block _ (by omega) (fun e=>by cases e;omega)).trans g2;have f3:=(L7 (cS.block bF (by omega) (fun e=>by cases e;exact sW rfl))).trans f2;refine ae _ _ ⟨f3,g3⟩ ?_;refine xh rfl (by kernel_rfl) ?_;intro K' ae;go_simp;have HC:=M5.out m.to (pre++[m.r]) (outs++yB pre (zV a k M j)) V' B bR bO bA bF g w0 W3 Hw (.inr ⟨HZ3.out,HZ4.out⟩) EF.out bK.out dz.out HX.out;rw[Lq,List.length_singleton] at HC;refine HC.mono ?_;rintro e w4 ⟨⟨v4,rfl⟩,V4,H4⟩;have H5:=zH H4.cut;rw[Ng,<-Y4,<-gL,<-dl.out] at H5;refine ae (fun _=>True) _ _ trivial ?_;refine ya ?_;go_wp2_with fail
 go_roundw
 case rel=>exact⟨j+1,V4,by omega,by go_num,H5⟩
 simp[Aq];omega
theorem YN(a:Ad)(K:Nat)(hK:K<=6)(SV:Bb)(ks:Nat)(hz:zl a a.sts=0)(hf:FewA a):∀k,ve a K SV ks k
 | 0=>J4 a K hK SV ks
 | k+1=>J5 a K SV ks k hz hf (YN a K hK SV ks hz hf k)
theorem JW{W w w':Ba}{r r':Option Nat}(h:W.grownBy w r)(hg:w.grownBy w' r')(hr:∀k,r'=J k->k<W.heap.size->r=J k):W.grownBy w' r:=
 ⟨hg.os.trans h.os,hg.tape.trans h.tape,hg.output.trans h.output,Lx h.size hg.size,fun k hk hn=>(hg.block k (LE hk h.size) (fun e=>hn (hr k e.symm hk).symm)).trans (h.block k hk hn)⟩
theorem Qg{W w w':Ba}{r:Option Nat}(h:W.grownBy w r)(hb:Ao w.heap.size w w'):W.grownBy w' r:=
 ⟨hb.os.trans h.os,hb.tape.trans h.tape,hb.output.trans h.output,Lx h.size hb.size,fun k hk hn=>(hb.block k (LE hk h.size)).trans (h.block k hk hn)⟩
def qP(a:Ad)(SV:Bb)(ks k:Nat):Prop:=∀(s:Int) (w:Ba),(k=0\/(0<=s/\s<a.sts.length))->(zn a k s).length<=5000->SAt w w.heap.size SV a.sts ->
 Ap An 123 #[Aj #[O U a.n,I SV a.sts.length ks],O U s,O U k] w fun e w'=>∃v,e=Am v/\OwnX cWd (fun b=>w.heap.size<=b) w' w.heap.size v (zn a k s)/\Ao w.heap.size w w'
theorem Qi(a:Ad)(SV:Bb)(ks:Nat):qP a SV ks 0:=by
 intro s w _ _ _;go_enter func123,ntmps123;go_wp2_with fail;obtain⟨w1,ah,d0,d1,bI,hBw⟩:=zZ w #[O U a.n,I SV a.sts.length ks] #[I Z 0 0] 27 39;rw[ah];go_ret;refine⟨_,rfl,⟨[[I Z 0 0]],rfl,?_,?_⟩,hBw⟩
 . exact OwnR.of_block (K:=kWd) (n:=1) d1 (by omega) rfl (by unfold maxLen;omega)
 intro i h1 h2;obtain rfl:i=0:=by simp at h1;omega
 exact⟨Z,0,rfl,RAtS.nil _ _ _,Lh _⟩
theorem Qj(a:Ad)(SV:Bb)(ks k:Nat)(lO:k<=6)(hz:zl a a.sts=0)(hf:FewA a)(ih:qP a SV ks k):qP a SV ks (k+1):=by
 intro s w mi aO hS;have hs:0<=s/\s<a.sts.length:=mi.resolve_left (by omega);obtain⟨S,rfl⟩:=Lr hs.1;have i9:S<a.sts.length:=by omega
 have M5:=zH ih;have HZ:=zH (@xv a hz);have nc:=hf.each (Ld i9);have ik:=zH (vT a k i9);have EC:=zH aO;have tV:=zH (fun (m:Mv) (hm:m∈a.sts[S])=>(NA.2 ⟨_,Ld i9,hm⟩:m∈a.mvs));have HS:=zH hS;obtain⟨bs,os,A',lX,BC,bG,s0,tt⟩:=hS.at_ S i9;subst BC;have pI:=zH tt;obtain⟨M,hM⟩:=Kh (a.sts[S]);rw[hM] at s0 pI ik tV nc;have e0:(((k+1:Nat):Int)==0)=Ax:=by simp;omega
 have ah:IntKind.i64.wrap (((k+1:Nat):Int)-1)=(k:Int):=by rw[Lw];omega
 have bI:(S:Int)<(a.sts.length:Int):=by omega
 have dX:(0:Int)<=(S:Int):=by omega
 obtain⟨K,hK⟩:∃K:Int,((k+1:Nat):Int)=K:=⟨_,rfl⟩;rw[hK] at e0 ah ⊢;go_enter func123,ntmps123;go_wp2_with fail;obtain⟨w1,cO,d0,co,aB⟩:=zt w #[O U a.n,I (J ⟨bs,os,Z⟩) a.sts.length ks] 27;rw[cO];have bu:=zH d0;have dC:=zH aB;clear d0 aB e0
 go_loopw [7,8] (fun o i wr=>∃j:Nat,j<=M.length/\i=O U (j:Int)/\As (OwnX cWd (fun b=>w.heap.size<b) wr (w.heap.size+1) o (zV a k M j))/\As (Ao w1.heap.size w1 wr)) (fun _ i _=>M.length-(Aq i).toNat)
 case atStart=>exact⟨0,by omega,rfl,by rw[jN];exact OwnX.nil _ _ _ _,Lp _ _⟩
 obtain⟨j,hj,rfl,HO,ce⟩:=hrel;have D0:=Lb ce.out (by omega) bu.out;have q1:=za D0 1 rfl;have aA:=ce.out.size;have s1:wr.cell? ⟨bs,os+S,Z⟩=J (I A' M.length lX):=((dC.out.trans (ce.out.mono (by omega))).cell (p:=⟨bs,os+S,Z⟩) bG).trans s0
 by_cases bg:j<M.length
 case neg=>
  obtain rfl:j=M.length:=by omega
  go_wp2_with fail;go_ret;refine⟨_,rfl,?_,dC.out.trans (ce.out.mono (by omega))⟩;rw[<-ik.out];exact(HO.out.mono xL fun b _ hb=>by omega).low (by omega)
 obtain⟨bm,om,e1,V9,m0,m1,m2,m3,m4,m5,m6,m7⟩:=(pI.out.keep (dC.out.trans (ce.out.mono (by omega)))).row j bg;subst e1;have rk:(0:Int)<=(j:Int):=by omega
 have pc:(j:Int)<(M.length:Int):=by omega
 have q0:=za D0 0 rfl;have pf:w.heap.size<wr.heap.size:=by omega
 have ie:=tV.out M[j] (Ld bg);obtain⟨z1,z2,z3,z4⟩:=HZ.out _ ie;have dz:=zH (xZ a k M bg);have en:=vS a k M (j+1);rw[xZ a k M bg,Lq,LG] at en;obtain⟨m,CX⟩:=Kh (M[j]);rw[CX] at m0 m1 m2 m3 m4 m5 m6 m7 ie z1 z2 z3 z4 dz en
 have iR:(zV a k M j).length+(zn a k m.to).length<=5000:=by
  have:=EC.out;rw[<-ik.out] at this;omega
 have HC:=zH (fun (W:Ba) (hW:Ao wr.heap.size wr W)=>M5.out m.to W (.inr ⟨z3,z4⟩) (by omega) (((HS.out.keep (dC.out.trans ((ce.out.trans (hW.mono aA)).mono (by omega)))).more (by have:=hW.size;omega))));clear CX en z1 z2 z3 z4 ie tV HZ EC pI ik;go_wp2_with fail;clear m0 m1 m2 m3 m4 m5 m6 m7 q0 q1 s1;obtain⟨W1,cO,g0,ed,aQ⟩:=zt wr m.cells 121;unfold Mv.cells at cO;rw[cO];refine(HC.out W1 aQ).mono ?_;rintro e w3 ⟨rv,rfl,lM,ap⟩;obtain⟨AR,cR,rfl,hcR,hmR,hWR⟩:=gu lM;have G0:=Lb ap (by omega) g0;have bL:As (Ao wr.heap.size wr w3):=aQ.trans (ap.mono (by omega));have pG:=zH (HO.out.below xL bL.out (Lh _));have mm:=HO.out.lt;have MH:=zH (lM.mono (S':=fun b=>wr.heap.size<b) xL fun b _ hb=>by omega);have r8:=zH G0;have iO:=ap.size;obtain⟨R,hR⟩:=Kh (zn a k m.to);have TH:=zH (yQ a k m.to);rw[hR] at iR dz MH TH ⊢;go_wp2_with fail;obtain⟨Ab,rfl⟩:∃Ab,Ab=u7:=⟨_,rfl⟩;obtain⟨wo,rfl⟩:∃x,x=wr:=⟨_,rfl⟩
 go_loopw [7,11] (fun o i wx=>∃l:Nat,l<=R.length/\i=O U (l:Int)/\As (OwnX cWd (fun b=>w.heap.size<b) wx (w.heap.size+1) o (zV a k M j++(R.take l).map (m.r::·)))/\As (w3.grownBy wx (Value.ownBlock Ab))/\As (o.ownBlock=Value.ownBlock Ab\/∀b,o.ownBlock=J b->w3.heap.size<=b)) (fun _ i _=>R.length-(Aq i).toNat)
 case atStart=>exact⟨0,by omega,rfl,by rw[LP,ND,Nc];exact pG.out,Pk _ _,.inl rfl⟩
 obtain⟨l,hl,rfl,HX,HG,HW⟩:=hrel;have dA:As (Ao w1.heap.size w1 wr):=(ce.out.trans (bL.out.mono aA)).grown HG.out (by omega) (fun b hb=>by have:=(mm b hb).1;omega)
 by_cases aL:l<R.length
 case neg=>
  obtain rfl:l=R.length:=by omega
  rw[LD,<-dz.out] at HX;go_wp2_with fail
  go_roundw
  case rel=>exact⟨j+1,by omega,by go_num,HX,dA⟩
  simp[Aq];omega
 have SE:OwnX cWd (fun b=>wo.heap.size<b) wr W1.heap.size (I AR R.length cR) R:=MH.out.kept xL HG.out (by
  cases WI:(I AR R.length cR).ownBlock with
  | none=>exact .inl rfl
  | some b=>exact .inr fun e=>by have h1:=(MH.out.lt b WI).1;have h2:=(mm b e.symm).2;omega) (fun b hb=>.inl fun h=>by have:=(mm b hb).2;omega)
 obtain⟨A9,c9,e9,_,_,FN⟩:=gu SE
 cases e9
 obtain⟨br,Uy,A2,c2,er,ii,r0,oT⟩:=FN.at_ l aL;subst er;have G1:=(HG.out.block wo.heap.size (by omega) (fun e=>by have:=(mm _ e.symm).2;omega)).trans r8.out;have mK:=zd G1;have rO:=zH oT;have Ev:=zH HX.out;have Ii:(zV a k M j++(R.take l).map (m.r::·)).length=(zV a k M j).length+l:=by simp;omega
 have CC:As (zV a k M j++(R.take (l+1)).map (m.r::·)=(zV a k M j++(R.take l).map (m.r::·))++[m.r::R[l]]):=by
  show _=_;rw[Lu aL,LI,Ng];rfl
 have cC:=TH.out _ (Ld aL);have Ij:R[l].length<=6:=by omega
 clear cC;have iS:(0:Int)<=(l:Int):=by omega
 have dP:(l:Int)<(R.length:Int):=by omega
 obtain⟨x,hx⟩:=Kh (R[l]);rw[hx] at r0 rO CC Ij;have sy:As (Raw (wr.alloc (Ah m.r.cells 75)) A2 x.length (yj x)):=wD ((rO.out.keep (zw wr _)).more (by simp));have g0:wr.cell? ⟨wo.heap.size,0,Z⟩=J (O U m.r.n):=za G1 0 rfl;have g1:wr.cell? ⟨wo.heap.size,1,Z⟩=J (O U m.r.h0):=za G1 1 rfl;have g2:wr.cell? ⟨wo.heap.size,2,Z⟩=J (O U m.r.h1):=za G1 2 rfl;have g3:wr.cell? ⟨wo.heap.size,3,Z⟩=J (O U m.r.h2):=za G1 3 rfl;have g4:wr.cell? ⟨wo.heap.size,4,Z⟩=J (O U m.r.h3):=za G1 4 rfl;have g5:wr.cell? ⟨wo.heap.size,5,Z⟩=J (O U m.r.h4):=za G1 5 rfl;have g6:wr.cell? ⟨wo.heap.size,6,Z⟩=J (O U m.r.f):=za G1 6 rfl;have V8:br<wr.heap.size:=ii;have sn:w.heap.size+1<=wr.heap.size:=by have:=HG.out.size;omega
 clear hx SE FN oT G1 HX;have r8:=zH (zh wr (Ah m.r.cells 75));obtain⟨N,hN⟩:=Kh ((zV a k M j++(R.take l).map (m.r::·)).length);have hN5:N<=5000:=by omega
 have HN:=zH hN;clear hN Ii
 go_wp2_with (at_builtin;(first
  | ((refine Z2 ZS rfl (.tmp 50) (.tmp 54) rfl wr.heap.size (I (J ⟨wr.heap.size, 0, Z⟩) 1 1) 1 m.r.cells.toList rfl (OwnR.of_block r8.out (Nat.le_refl _) rfl (by unfold maxLen; omega)) A2 x.length c2 (yj x) rfl (xf _) sy.out (jA _) (by omega) (by simp) ?_)
     intro v1 w5 sz eJ _;have CN:OwnR kRd w5 wr.heap.size v1 (m.r::x).length (yj (m.r::x)):=by rw[Lz,Nat.add_comm];exact sz
     obtain⟨A5,c5,rfl,VT,_,iR⟩:=jz CN;have dT:Ao wr.heap.size wr w5:=(zw wr _).grown eJ (by simp) (fun b hb=>by cases hb;exact Lh _);have lc:=zH (dT.alloc dT.size (Ah #[.slice A5 (m.r::x).length c5] 39));have HG6:=zH (zh w5 (Ah #[.slice A5 (m.r::x).length c5] 39));have BS:=zH (iR.keep (KeepB.alloc _ w5 (Ah #[.slice A5 (m.r::x).length c5] 39)));have mb:=zH (Ev.out.below xL lc.out (Lh _));have UV:wr.heap.size<=w5.heap.size:=dT.size
     clear sz CN eJ iR dT)
  | (obtain ⟨aD, bh, fu, bq⟩ := mb.out
     rw[HN.out] at fu;refine yo X7 rfl (.tmp 49) (.tmp 56) rfl (w.heap.size+1) u7 N aD.flatten rfl fu w5.heap.size #[.slice A5 (m.r::x).length c5] rfl HG6.out rfl (by simp[Value.oneCell']) (by omega) (by simp;omega) _ rfl ?_;intro g' cap w7 dY dj ch eh;have hX:cWd.lies (fun b=>(fun b=>w.heap.size<b) b/\Value.ownBlock u7≠J b) _ [.slice A5 (m.r::x).length c5] (m.r::x):=⟨A5,c5,rfl,BS.out.mono fun b _ hb=>⟨by have:wr.heap.size<=b:=hb;show w.heap.size<b;omega,fun e=>by have:=(Ev.out.lt b e).2;have:wr.heap.size<=b:=hb;omega⟩,VT⟩;have fF:=dY;rw[<-HN.out] at fF;have tS:=zH (OwnX.app xL bh bq hX fF dj ch);rw[<-CC.out,HN.out] at tS
     have u':As (w3.grownBy w7 Ab.ownBlock):=JW (Qg HG.out lc.out) dj (fun b hb ac=>by
      rcases HW.out with h | h
      . rw[<-h];exact hb
      . have:=h b hb;omega)
     have F':As ((I (J ⟨g',0,Z⟩) (N+1) cap).ownBlock=Ab.ownBlock\/∀b,(I (J ⟨g',0,Z⟩) (N+1) cap).ownBlock=J b->w3.heap.size<=b):=by
      have fE:=HG.out.size;rcases ch with e | e
      . rcases HW.out with h | h
        . exact .inl (by rw[<-h,e];rfl)
        . exact .inr fun b hb=>h b (by rw[e];exact hb)
      . refine .inr fun b hb=>?_
        have h9:g'=b:=by simpa[Value.ownBlock] using hb
        simp at e;omega
     clear dY fF dj ch hX bq fu bh)
  ))
 go_roundw
 case rel=>exact⟨l+1,by omega,by go_num,tS,u',F'⟩
 simp[Aq];omega
theorem Zk(a:Ad)(SV:Bb)(ks:Nat)(hz:zl a a.sts=0)(hf:FewA a):∀k,k<=6->qP a SV ks k
 | 0,_=>Qi a SV ks
 | k+1,h=>Qj a SV ks k (by omega) hz hf (Zk a SV ks hz hf k (by omega))
structure Wrote(R:Nat->Prop)(w w':Ba):Prop where
 os:w'.os=w.os
 tape:w'.tape=w.tape
 output:w'.output=w.output
 size:w.heap.size<=w'.heap.size
 block:∀k,k<w.heap.size->¬R k->w'.heap[k]?=w.heap[k]?
theorem Wrote.refl(R:Nat->Prop)(w:Ba):Wrote R w w:=⟨rfl,rfl,rfl,Lh _,fun _ _ _=>rfl⟩
theorem Wrote.trans{R R':Nat->Prop}{a b c:Ba}(h:Wrote R a b)(k:Wrote R' b c)(hr:∀k,k<a.heap.size->R' k->R k):Wrote R a c:=
 ⟨k.os.trans h.os,k.tape.trans h.tape,k.output.trans h.output,Lx h.size k.size,fun i hi hn=>(k.block i (LE hi h.size) (fun h'=>hn (hr i hi h'))).trans (h.block i hi hn)⟩
theorem Wrote.of_below{R:Nat->Prop}{a b:Ba}(h:Ao a.heap.size a b):Wrote R a b:=⟨h.os,h.tape,h.output,h.size,fun k hk _=>h.block k hk⟩
theorem Wrote.of_grown{R:Nat->Prop}{a b:Ba}{row:Option Nat}(h:a.grownBy b row)(hr:∀k,row=J k->k<a.heap.size->R k):Wrote R a b:=⟨h.os,h.tape,h.output,h.size,fun k hk hn=>h.block k hk (fun e=>hn (hr k e.symm hk))⟩
theorem Wrote.below{R:Nat->Prop}{a b:Ba}{B:Nat}(h:Wrote R a b)(hB:B<=a.heap.size)(hr:∀k,k<B->¬R k):Ao B a b:=⟨h.os,h.tape,h.output,h.size,fun k hk=>h.block k (by omega) (hr k hk)⟩
theorem Wrote.keep{R S:Nat->Prop}{a b:Ba}(h:Wrote R a b)(hr:∀k,k<a.heap.size->S k->¬R k):KeepB S a b:=⟨h.size,fun k hs hk=>h.block k hk (hr k hk hs)⟩
theorem Wrote.more{R R':Nat->Prop}{a b:Ba}(h:Wrote R a b)(hr:∀k,k<a.heap.size->R k->R' k):Wrote R' a b:=⟨h.os,h.tape,h.output,h.size,fun k hk hn=>h.block k hk (fun h'=>hn (hr k hk h'))⟩
def j6(vs:List Vw):Vw->Option Au:=fun v=>if v∈vs then J (O U (qq vs v)) else Z
theorem numF_nil:j6 []=fun _=>Z:=by funext v;simp[j6]
theorem numF_put{vs:List Vw}{v:Vw}(h:v∉vs):uA (j6 vs) v (O U vs.length)=j6 (vs++[v]):=by
 funext x
 unfold uA j6
 by_cases e:x=v
 . subst e
   rw[Ln rfl,Ln (by simp)]
   congr 2
   exact(YJ (k:=vs.length) (by simp) (by simp) (by rw[List.take_left];exact h)).symm
 rw[Lj e]
 by_cases hx:x∈vs
 . rw[Ln hx,Ln (by simp[hx])]
   congr 2
   unfold qq;rw[Ln hx,Ln (by simp[hx]),List.idxOf_append,Ln hx]
 rw[Lj hx,Lj (by simp[hx,e])]
structure BdIn(B bB bM:Nat)(n:Int)(V:Au)(vs:List Vw)(w:Ba):Prop where
 hB:w.heap[bB]?=J (Ah #[O U n,V,.map (J bM)] 111 (0,0))
 num:∃m,MapOf (fun v:Vw=>.agg v.cells) w bM m (j6 vs)
 own:OwnV w B V vs
 ne:∀k,V.ownBlock=J k->k≠bB/\k≠bM
 bm:bB≠bM
 lo:B<=bB/\B<=bM
def Bk(bB bM:Nat)(V:Au)(k:Nat):Prop:=k=bB\/k=bM\/V.ownBlock=J k
def BdOn(bB bM:Nat)(V:Au)(w:Ba)(V':Au)(w':Ba):Prop:=Wrote (Bk bB bM V) w w'/\∀k,V'.ownBlock=J k->V.ownBlock=J k\/w.heap.size<=k
theorem BdOn.refl(bB bM:Nat)(V:Au)(w:Ba):BdOn bB bM V w V w:=⟨Wrote.refl _ _,fun _ h=>.inl h⟩
theorem BdOn.trans{bB bM:Nat}{V V1 V2:Au}{w w1 w2:Ba}(h:BdOn bB bM V w V1 w1)(k:BdOn bB bM V1 w1 V2 w2):BdOn bB bM V w V2 w2:=by
 refine⟨h.1.trans k.1 fun j hj hr=>?_,fun j hj=>?_⟩
 . rcases hr with e | e | e
   . exact .inl e
   . exact .inr (.inl e)
   rcases h.2 j e with e | e
   . exact .inr (.inr e)
   omega
 rcases k.2 j hj with e | e
 . exact h.2 j e
 exact .inr (Lx h.1.size e)
theorem BdOn.after{bB bM:Nat}{V V1:Au}{w w1 w2:Ba}(h:BdOn bB bM V w V1 w1)(k:Ao w1.heap.size w1 w2):BdOn bB bM V w V1 w2:=⟨h.1.trans (Wrote.of_below (R:=fun _=>False) k) (fun _ _ h=>h.elim),h.2⟩
theorem BdIn.on{B bB bM:Nat}{n:Int}{V:Au}{vs:List Vw}{w w':Ba}(h:BdIn B bB bM n V vs w)(hb:Ao w.heap.size w w'):BdIn B bB bM n V vs w':=by
 obtain⟨m,hm⟩:=h.num;exact⟨La hb h.hB,⟨m,hm.same (hb.block _ hm.lt)⟩,h.own.below hb (Lh _),h.ne,h.bm,h.lo⟩
theorem BdIn.push{B bB bM m:Nat}{n:Int}{A:Bb}{cap:Nat}{vs:List Vw}{v:Vw}{w w2 W w4:Ba}{g' aF:Nat}(H:BdIn B bB bM n (I A vs.length cap) vs w)(ig:w.grownBy w2 (J bM))
  (fI:MapOf (fun v:Vw=>.agg v.cells) w2 bM m (j6 (vs++[v]))) (hW:Ao w2.heap.size w2 W)
  (hr:OwnR kVw w4 B (I (J ⟨g',0,Z⟩) (vs.length+1) aF) (vs.length+1) (yi vs++v.cells.toList)) (hg:W.grownBy w4 (I A vs.length cap).ownBlock)
  (bz:(I A vs.length cap).ownBlock=J g'\/g'=W.heap.size) :
  BdIn B bB bM n (I (J ⟨g',0,Z⟩) (vs.length+1) aF) (vs++[v]) (w4.setCell ⟨bB,1,Z⟩ (I (J ⟨g',0,Z⟩) (vs.length+1) aF)) /\
   BdOn bB bM (I A vs.length cap) w (I (J ⟨g',0,Z⟩) (vs.length+1) aF) (w4.setCell ⟨bB,1,Z⟩ (I (J ⟨g',0,Z⟩) (vs.length+1) aF)):=by
 have nS:=zd H.hB;obtain⟨m0,lN⟩:=H.num;have O8:=lN.lt;have dX:=ig.size;have Fn:=hW.size;have mm:=H.own.lt;have af:=(ig.block bB nS (fun e=>by cases e;exact H.bm rfl)).trans H.hB;have aU:=(hg.block bB (by omega) (fun e=>(H.ne bB e.symm).1 rfl)).trans ((hW.block bB (by omega)).trans af);have sK:=((fI.same (hW.block bM (by omega))).same (hg.block bM (by omega) (fun e=>(H.ne bM e.symm).2 rfl)));have cJ:=hr.lt g' rfl
 have bt:g'≠bB/\g'≠bM:=by
  rcases bz with e | e
  . exact H.ne g' e
  exact⟨by omega,by omega⟩
 refine⟨⟨?_,⟨m,sK.same (Lf w4 _ _ bM (fun e=>H.bm e.symm))⟩,?_,?_,H.bm,H.lo⟩,?_,?_⟩
 . rw[Lk w4 bB 1 _ _ _ aU];rfl
 . have h5:OwnR kVw (w4.setCell ⟨bB,1,Z⟩ (I (J ⟨g',0,Z⟩) (vs.length+1) aF)) B (I (J ⟨g',0,Z⟩) (vs.length+1) aF) (vs.length+1) (yi vs++v.cells.toList):=hr.kept (yu w4 bB 1 _) (.inr (fun e=>bt.1 (by simpa[Value.ownBlock] using e)))
   unfold OwnV;rw[Lq,jf,show yi [v]=v.cells.toList by simp[yi]];exact h5
 . intro k hk
   have:g'=k:=by simpa[Value.ownBlock] using hk
   subst this;exact bt
 . have h1:Wrote (Bk bB bM (I A vs.length cap)) w w2:=Wrote.of_grown ig (fun k hk _=>by cases hk;exact .inr (.inl rfl))
   have h2:Wrote (Bk bB bM (I A vs.length cap)) w2 W:=Wrote.of_below hW;have h3:Wrote (Bk bB bM (I A vs.length cap)) W w4:=Wrote.of_grown hg (fun k hk _=>.inr (.inr hk));have h4:Wrote (Bk bB bM (I A vs.length cap)) w4 (w4.setCell ⟨bB,1,Z⟩ (I (J ⟨g',0,Z⟩) (vs.length+1) aF)):=Wrote.of_grown (yu w4 bB 1 _) (fun k hk _=>by cases hk;exact .inl rfl);exact((h1.trans h2 (fun _ _ h=>h)).trans h3 (fun _ _ h=>h)).trans h4 (fun _ _ h=>h)
 intro k hk;have:g'=k:=by simpa[Value.ownBlock] using hk
 subst this;rcases bz with e | e
 . exact .inl e
 exact .inr (by omega)
theorem Y7(B bB bM:Nat)(n:Int)(V:Au)(vs:List Vw)(v:Vw)(hl:vs.length<=50000)(w:Ba)(H:BdIn B bB bM n V vs w) :
  Ap An 88 #[Ak (J ⟨bB,0,Z⟩),.agg v.cells] w fun e w'=>e=Am (O U (xu vs v).2)/\∃V',BdIn B bB bM n V' (xu vs v).1 w'/\BdOn bB bM V w V' w':=by
 obtain⟨A,cap,rfl⟩:=H.own.lit;obtain⟨w1,ah,d0,co,aB⟩:=zt w v.cells 100;have H1:=H.on aB;have HI:=zH H1;have aq:=zH ah;have dC:=zH aB;have bu:=zH d0;have HV:=zH (show j6 vs v=if v∈vs then J (O U (qq vs v)) else Z from rfl);have nS:=zd H.hB;have dy:=zH (fun (k:Nat) (e:(I A vs.length cap).ownBlock=J k)=>(H.own.lt k e).2);have Wb:bM<w.heap.size:=by obtain⟨_,hm⟩:=H.num;exact hm.lt
 have b0:=H1.hB;obtain⟨m,hm⟩:=H1.num;have HM:=zH hm;have hz:∀W:Ba,(zeroValue 3).run An W=.ok (O U 0) W:=fun W=>by kernel_rfl
 have ht:An.underlying 109=J (.map 100 3):=underlying109;have Sh:bB≠w.heap.size:=by omega
 clear ah H1 H;go_enter func88,ntmps88;unfold Vw.cells at aq ⊢;go_wp2_with fail;rw[aq.out]
 by_cases hv:v∈vs
 case pos=>
  have hf:j6 vs v=J (O U (qq vs v)):=Ln hv;have oV:=Yq hv;have ML:=zH oV;have HF:=zH hf;have hid:=YI hv;clear oV hf hv HV;refine zz [(0,Av),(1,Av),(2,Av),(3,Av),(4,Av),(5,Av),(6,Av),(7,Av),(8,Av),(9,Av),(10,Av)] (fun W=>W.heap[bB]?=J (Ah #[O U n,I A vs.length cap,.map (J bM)] 111 (0,0))/\MapOf (fun v:Vw=>.agg v.cells) W bM m (j6 vs)/\W.heap[w.heap.size]?=J (Ah v.cells 100 (0,0))) (by kernel_rfl) (by kernel_rfl) ⟨b0,hm,d0⟩ ?_
  repeat
   apply zg rfl
   . rintro K' ae W ⟨y0,y1,y2⟩
     have g0:W.cell? ⟨w.heap.size,0,Z⟩=J (O U v.p):=za y2 0 rfl;have g1:W.cell? ⟨w.heap.size,1,Z⟩=J (O U v.r):=za y2 1 rfl;have g2:W.cell? ⟨w.heap.size,2,Z⟩=J (O U v.i):=za y2 2 rfl;have g3:W.cell? ⟨w.heap.size,3,Z⟩=J (O U v.h0):=za y2 3 rfl;have g4:W.cell? ⟨w.heap.size,4,Z⟩=J (O U v.h1):=za y2 4 rfl;have g5:W.cell? ⟨w.heap.size,5,Z⟩=J (O U v.h2):=za y2 5 rfl;have g6:W.cell? ⟨w.heap.size,6,Z⟩=J (O U v.h3):=za y2 6 rfl;have g7:W.cell? ⟨w.heap.size,7,Z⟩=J (O U v.h4):=za y2 7 rfl;have b0:W.cell? ⟨bB,0,Z⟩=J (O U n):=za y0 0 rfl;have b1:W.cell? ⟨bB,1,Z⟩=J (I A vs.length cap):=za y0 1 rfl;have b2:W.cell? ⟨bB,2,Z⟩=J (.map (J bM)):=za y0 2 rfl;have cC:=y1.look2 jO ht (hz W) v;rw[HF.out] at cC;simp only[Option.getD_some,Option.isSome_some,Vw.cells] at cC;clear y0 y1 y2;go_simp;exact ae
  refine ya ?_;clear b0 hm d0;go_wp2_with fail;go_ret;rw[ML.out];exact⟨rfl,_,HI.out.on (Lp _ _).drew,(BdOn.refl bB bM _ w).after (dC.out.drew)⟩
 have hf:j6 vs v=Z:=Lj hv;have oV:=QT hv;have ML:=zH oV;have HF:=zH hf;have HVN:As (v∉vs):=hv;clear oV hf hv HV;refine zz [(0,Av),(1,Av),(2,Av),(3,Av),(4,Av),(5,Av),(6,Av),(7,Av),(8,Av),(9,Av),(10,Av)] (fun W=>W.heap[bB]?=J (Ah #[O U n,I A vs.length cap,.map (J bM)] 111 (0,0))/\MapOf (fun v:Vw=>.agg v.cells) W bM m (j6 vs)/\W.heap[w.heap.size]?=J (Ah v.cells 100 (0,0))) (by kernel_rfl) (by kernel_rfl) ⟨b0,hm,d0⟩ ?_
 repeat
  apply zg rfl
  . rintro K' ae W ⟨y0,y1,y2⟩
    have g0:W.cell? ⟨w.heap.size,0,Z⟩=J (O U v.p):=za y2 0 rfl;have g1:W.cell? ⟨w.heap.size,1,Z⟩=J (O U v.r):=za y2 1 rfl;have g2:W.cell? ⟨w.heap.size,2,Z⟩=J (O U v.i):=za y2 2 rfl;have g3:W.cell? ⟨w.heap.size,3,Z⟩=J (O U v.h0):=za y2 3 rfl;have g4:W.cell? ⟨w.heap.size,4,Z⟩=J (O U v.h1):=za y2 4 rfl;have g5:W.cell? ⟨w.heap.size,5,Z⟩=J (O U v.h2):=za y2 5 rfl;have g6:W.cell? ⟨w.heap.size,6,Z⟩=J (O U v.h3):=za y2 6 rfl;have g7:W.cell? ⟨w.heap.size,7,Z⟩=J (O U v.h4):=za y2 7 rfl;have b0:W.cell? ⟨bB,0,Z⟩=J (O U n):=za y0 0 rfl;have b1:W.cell? ⟨bB,1,Z⟩=J (I A vs.length cap):=za y0 1 rfl;have b2:W.cell? ⟨bB,2,Z⟩=J (.map (J bM)):=za y0 2 rfl;have cC:=y1.look2 jO ht (hz W) v;rw[HF.out] at cC;simp only[Option.getD_none,Option.isSome_none,Vw.cells] at cC;clear y0 y1 y2;go_simp;exact ae
 refine ya ?_;clear hm;have b1:w1.cell? ⟨bB,1,Z⟩=J (I A vs.length cap):=za HI.out.hB 1 rfl;go_wp2_with fail;obtain⟨w2,dt,fI,lP⟩:=MapOf.put (w:=w1.drew.drew) (P:=An) (show MapOf (fun v:Vw=>.agg v.cells) w1.drew.drew bM m (j6 vs) from HM.out) jO ht v (O U vs.length);rw[numF_put HVN.out] at fI;have tX:=zH fI;have oz:As (w1.grownBy w2 (J bM)):=⟨lP.os,lP.tape,lP.output,lP.size,lP.block⟩;have O8:=HM.out.lt;have Wc:=HI.out.bm;have Ki:w.heap.size≠bM:=by omega
 simp only[Vw.cells] at dt;have d2:=(oz.out.block _ (zd bu.out) (fun e=>by cases e;exact Ki rfl)).trans bu.out;have b2:=(oz.out.block _ (zd HI.out.hB) (fun e=>by cases e;exact Wc rfl)).trans HI.out.hB;clear fI lP;refine zz [(0,Av),(1,Av),(2,Av),(3,Av),(4,Av),(5,Av),(6,Ax)] (fun W=>W.heap[bB]?=J (Ah #[O U n,I A vs.length cap,.map (J bM)] 111 (0,0))/\W.heap[w.heap.size]?=J (Ah v.cells 100 (0,0))) (by kernel_rfl) (by kernel_rfl) ⟨HI.out.hB,d0⟩ ?_;clear b0 b1 d0
 repeat
  apply zg rfl
  . rintro K' ae W ⟨y0,y2⟩
    have g0:W.cell? ⟨w.heap.size,0,Z⟩=J (O U v.p):=za y2 0 rfl;have g1:W.cell? ⟨w.heap.size,1,Z⟩=J (O U v.r):=za y2 1 rfl;have g2:W.cell? ⟨w.heap.size,2,Z⟩=J (O U v.i):=za y2 2 rfl;have g3:W.cell? ⟨w.heap.size,3,Z⟩=J (O U v.h0):=za y2 3 rfl;have g4:W.cell? ⟨w.heap.size,4,Z⟩=J (O U v.h1):=za y2 4 rfl;have g5:W.cell? ⟨w.heap.size,5,Z⟩=J (O U v.h2):=za y2 5 rfl;have g6:W.cell? ⟨w.heap.size,6,Z⟩=J (O U v.h3):=za y2 6 rfl;have g7:W.cell? ⟨w.heap.size,7,Z⟩=J (O U v.h4):=za y2 7 rfl;have b2:W.cell? ⟨bB,2,Z⟩=J (.map (J bM)):=za y0 2 rfl;clear y0 y2;go_simp;exact ae
 refine zE rfl ?_;intro K' ae;go_simp;refine ae _ _ ⟨b2,d2⟩ ?_;refine ya ?_;clear ae K' dt;go_wp2_with fail;have dX:=oz.out.size;have Dt:bB<w2.heap.size:=by omega
 have B7:=zH d2;have bK:=zH b2;refine zz [(0,Av),(1,Av),(2,Av),(3,Av),(4,Av),(5,Av),(6,Ax),(7,Ax),(8,Ax),(9,Ax),(10,Ax)] (fun W=>W.heap[bB]?=J (Ah #[O U n,I A vs.length cap,.map (J bM)] 111 (0,0))/\W.heap[w.heap.size]?=J (Ah v.cells 100 (0,0))) (by kernel_rfl) (by kernel_rfl) ⟨b2,d2⟩ ?_;clear b2 d2
 repeat
  apply zg rfl
  . rintro K' ae W ⟨y0,y2⟩
    have g0:W.cell? ⟨w.heap.size,0,Z⟩=J (O U v.p):=za y2 0 rfl;have g1:W.cell? ⟨w.heap.size,1,Z⟩=J (O U v.r):=za y2 1 rfl;have g2:W.cell? ⟨w.heap.size,2,Z⟩=J (O U v.i):=za y2 2 rfl;have g3:W.cell? ⟨w.heap.size,3,Z⟩=J (O U v.h0):=za y2 3 rfl;have g4:W.cell? ⟨w.heap.size,4,Z⟩=J (O U v.h1):=za y2 4 rfl;have g5:W.cell? ⟨w.heap.size,5,Z⟩=J (O U v.h2):=za y2 5 rfl;have g6:W.cell? ⟨w.heap.size,6,Z⟩=J (O U v.h3):=za y2 6 rfl;have g7:W.cell? ⟨w.heap.size,7,Z⟩=J (O U v.h4):=za y2 7 rfl;have b1:W.cell? ⟨bB,1,Z⟩=J (I A vs.length cap):=za y0 1 rfl;clear y0 y2;go_simp;exact ae
 refine zE rfl ?_;intro K' ae;go_simp;obtain⟨W3,bP,e3,fE,aZ⟩:=QW w2 v.cells 100;simp only[Vw.cells] at bP;rw[bP];clear bP;refine ae _ _ ⟨Lb aZ Dt bK.out,Lb aZ (by omega) B7.out⟩ ?_;clear ae K';refine zE rfl ?_;intro K' ae;rw[Ln (by rfl)]
 have SJ:OwnR kVw W3 B (I A vs.length cap) vs.length (yi vs):=by
  have h0:OwnR kVw w1 B (I A vs.length cap) vs.length (yi vs):=HI.out.own;refine(h0.kept oz.out ?_).below aZ (Lh _);rcases hA:(I A vs.length cap).ownBlock with _ | k
  . exact .inl rfl
  exact .inr fun e=>(HI.out.ne k hA).2 (by simpa using e)
 have mm:=HI.out.lo;refine uK kVw_ok (.tmp 33) (.tmp 35) (by rfl) B (I A vs.length cap) vs.length (yi vs) (by rfl) SJ w2.heap.size v.cells (by rfl) e3 rfl (vJ v) (by omega) (by omega) _ rfl ?_;intro g' aF w4 hr hg bz ac;have HP:=zH (BdIn.push HI.out oz.out tX.out aZ hr hg bz);have z0:=(hg.block bB (by omega) (fun e=>(HI.out.ne bB e.symm).1 rfl)).trans (Lb aZ Dt bK.out);have z1:=(hg.block w.heap.size (by omega) (fun e=>by have:=dy.out _ e.symm;omega)).trans (Lb aZ (by omega) B7.out);refine ae _ _ ⟨z0,z1⟩ ?_;clear ae K' hr hg bz SJ e3 aZ;refine zE rfl ?_;intro K' ae;go_simp;refine ae _ _ ⟨z0,z1⟩ ?_;clear ae K';refine zE rfl ?_;intro K' ae;go_simp;refine ae _ _ ⟨z0,z1⟩ ?_;clear ae K';have b1:w4.cell? ⟨bB,1,Z⟩=J (I A vs.length cap):=za z0 1 rfl;have f1:=zb z0 1;clear z0 z1;refine xh rfl (by kernel_rfl) ?_;intro K' ae;go_simp;refine ae (fun _=>True) _ _ trivial ?_;refine ya ?_;clear ae K' b1 f1;go_wp2_with fail;go_ret;rw[ML.out];exact⟨rfl,_,HP.out.1,(BdOn.refl bB bM _ w).after dC.out |>.trans HP.out.2⟩
def wL(k:Nat):Array Au:=#[O U (if 0<k then -1 else 0),O U (if 1<k then -1 else 0),O U (if 2<k then -1 else 0),O U (if 3<k then -1 else 0),O U (if 4<k then -1 else 0)]
theorem JP(k:Nat)(hk:k<5):(wL k).setIfInBounds k (O U (-1))=wL (k+1):=by
 match k,hk with
 | 0,_=>rfl
 | 1,_=>rfl
 | 2,_=>rfl
 | 3,_=>rfl
 | 4,_=>rfl
theorem minus_at(k:Nat)(hk:k<5):(wL k)[k]?=J (O U 0):=by
 match k,hk with
 | 0,_=>rfl
 | 1,_=>rfl
 | 2,_=>rfl
 | 3,_=>rfl
 | 4,_=>rfl
theorem ud(w:Ba):Ap An 89 #[] w fun e w'=>e=Am (Aj #[O U (-1),O U (-1),O U (-1),O U (-1),O U (-1)])/\Ao w.heap.size w w':=by
 obtain⟨w1,ah,d0,d1,bI,hB⟩:=zZ w (wL 0) (wL 0) 43 43;have aq:=zH ah;go_enter func89,ntmps89;go_wp2_with fail;rw[show((w.alloc (Ah #[O U 0,O U 0,O U 0,O U 0,O U 0] 43)).alloc (Ah #[O U 0,O U 0,O U 0,O U 0,O U 0] 43))=w1 from aq.out];have H0:=zH d0;have H1:=zH d1;have HB:=zH hB
 go_loopw [3] (fun i wr=>∃k:Nat,k<=5/\i=O U (k:Int)/\As (wr.heap[w.heap.size]?=J (Ah (wL 0) 43 (0,0)))/\As (wr.heap[w.heap.size+1]?=J (Ah (wL k) 43 (0,0)))/\As (Ao w.heap.size w wr)) (fun i _=>5-(Aq i).toNat)
 case atStart=>exact⟨0,by omega,rfl,H0.out,H1.out,HB.out⟩
 obtain⟨k,hk,rfl,H0,H1,nH⟩:=hrel
 by_cases mn:k<5
 case neg=>
  obtain rfl:k=5:=by omega
  have x0:wr.cell? ⟨w.heap.size+1,0,Z⟩=J (O U (-1)):=za H1.out 0 rfl;have x1:wr.cell? ⟨w.heap.size+1,1,Z⟩=J (O U (-1)):=za H1.out 1 rfl;have x2:wr.cell? ⟨w.heap.size+1,2,Z⟩=J (O U (-1)):=za H1.out 2 rfl;have x3:wr.cell? ⟨w.heap.size+1,3,Z⟩=J (O U (-1)):=za H1.out 3 rfl;have x4:wr.cell? ⟨w.heap.size+1,4,Z⟩=J (O U (-1)):=za H1.out 4 rfl;have y0:wr.cell? ⟨w.heap.size,0,Z⟩=J (O U 0):=za H0.out 0 rfl;have y1:wr.cell? ⟨w.heap.size,1,Z⟩=J (O U 0):=za H0.out 1 rfl;have y2:wr.cell? ⟨w.heap.size,2,Z⟩=J (O U 0):=za H0.out 2 rfl;have y3:wr.cell? ⟨w.heap.size,3,Z⟩=J (O U 0):=za H0.out 3 rfl;have y4:wr.cell? ⟨w.heap.size,4,Z⟩=J (O U 0):=za H0.out 4 rfl;have f0:=zb H0.out 0;have f1:=zb H0.out 1;have f2:=zb H0.out 2;have f3:=zb H0.out 3;have f4:=zb H0.out 4;go_wp2_with fail;refine Na (v:=Aj #[O U (-1),O U (-1),O U (-1),O U (-1),O U (-1)]) (by simp[results,results89,go_sem,y0,y1,y2,y3,y4]) rfl ⟨rfl,?_⟩;exact((((nH.out.setCell (Lh _) _).setCell (Lh _) _).setCell (Lh _) _).setCell (Lh _) _).setCell (Lh _) _
 have x0:=za H1.out k (minus_at k mn);have f0:=zb H1.out k;have cq:(0:Int)<=(k:Int):=by omega
 have cy:(k:Int)<5:=by omega
 go_wp2_with fail
 go_roundw
 case rel=>exact⟨k+1,by omega,by go_num,(Lf wr _ _ w.heap.size (by show w.heap.size≠w.heap.size+1;omega)).trans H0.out,by show _=_;rw[Lk wr _ k _ _ _ H1.out,JP k mn],nH.out.setCell (by show w.heap.size<=w.heap.size+1;omega) _⟩
 simp[Aq];omega
end
section
open Go.RowKit
theorem vD(n:Nat)(h1:1<=n)(h5:n<=8)(W:Ba):(Instr.makeSlice 49 (O U n) (O U n)).run An W=.ok (I (J ⟨W.heap.size,0,Z⟩) n n) (W.alloc (Ah ((List.replicate n 0).map (O U)).toArray 3)):=by
 obtain rfl | rfl | rfl | rfl | rfl | rfl | rfl | rfl:n=1\/n=2\/n=3\/n=4\/n=5\/n=6\/n=7\/n=8:=by omega
 all_goals kernel_rfl
theorem wi{cur:List Au}{x:Au}{k m n:Nat}(hl:cur.length=n)(h:cur.take k=List.replicate k x)(hk:k+m<=n):(splice cur k (List.replicate m x)).take (k+m)=List.replicate (k+m) x/\(splice cur k (List.replicate m x)).length=n:=by
 constructor
 . unfold splice
   rw[h,<-Ng,N1 (by simp),Pr (by simp)];exact List.replicate_append_replicate
 rw[length_splice _ _ _ (by simp;omega),hl]
theorem one_src{w:Ba}{b o:Nat}{x:Au}(h:w.cell? ⟨b,o,Z⟩=J x):∀j v,[x][j]?=J v->w.cell? ((⟨b,o,Z⟩:Addr).add j)=J v:=by
 intro j v hj;have h0:j=0:=by have:=(Lo.1 hj).1;simp at this;omega
 subst h0;simp at hj;subst hj;rw[N5];exact h
theorem Z9:(An.info? 3).map (·.size)=J 1:=by kernel_rfl
theorem Yk(n b:Nat)(h1:1<=n)(h5:n<=8)(u:Int)(w:Ba)(hb:w.heap[b]?=J (Ah #[O U u] 3 (0,0))) :
  Ap An 54 #[I (J ⟨b,0,Z⟩) 1 1,O U n] w fun e w'=>∃g,e=Am (I (J ⟨g,0,Z⟩) n n)/\w.heap.size<=g/\RowAt w' g (List.replicate n u)/\Ao w.heap.size w w':=by
 have dF:=vD n h1 h5;obtain⟨ar,By⟩:∃ar:List Au,(List.replicate n 0).map (O U)=ar:=⟨_,rfl⟩;rw[By] at dF;have Ks:ar.length=n:=by rw[<-By];simp
 have hc:=za hb 0 rfl;have aA:=zd hb;have hm:=Tryz.bits_Mul 1 n (by omega) (by omega) w;have e1:(1*n / 18446744073709551616:Nat)=0:=by omega
 have e2:(1*n % 18446744073709551616:Nat)=n:=by omega
 rw[e1,e2] at hm;have O7:¬(n:Int)<0:=by omega
 go_enter func54,ntmps54;go_wp2_with fail;refine hm.mono ?_;rintro e w1 ⟨rfl,ah⟩;obtain rfl:=ah;obtain⟨W0,bH,b0,bn,aX⟩:=zt w1 ar.toArray 3;have hx:W0.cell? ⟨b,0,Z⟩=J (O U u):=(aX.cell (p:=⟨b,0,Z⟩) aA).trans hc;have BB:=zH aX;have BX:=zH b0;have HX:=zH hx;go_wp2_with ((refine wpList_copy_splice rfl (.tmp 31) (.tmp 32) 49 49 rfl 3 Nt Z9 (J ⟨w1.heap.size,0,Z⟩) (J ⟨b,0,Z⟩) n n 1 1 rfl rfl w1.heap.size 0 ar 3 BX.out [O U u] (by simp[Nat.min_def];omega) (fun _=>⟨rfl,_,rfl,one_src HX.out⟩) (by simp;omega) (by simp[Value.oneCell']) w1.heap.size w1 BB.out (Lh _) ?_);intro w2 oT af);obtain⟨g,hg⟩:=Kh w1.heap.size;have s1:=wi (cur:=ar) (x:=O U u) (k:=0) (m:=1) (n:=n) Ks (by simp) (by omega);have S1:=zH s1;have Gq:=zH hg;rw[hg] at oT af ⊢
 go_loopw [8] (fun l wr=>∃(k:Nat) (cur:List Au),1<=k/\k<=n/\l=O U k/\As (cur.length=n)/\As (cur.take k=List.replicate k (O U u))/\As (wr.heap[g]?=J (Ah cur.toArray 3 (0,0)))/\Ao g w1 wr) (fun l _=>n-(Aq l).toNat)
 case atStart=>exact⟨1,splice ar 0 [O U u],by omega,h1,rfl,S1.out.2,S1.out.1,oT,af⟩
 obtain⟨k,cur,cy,hkn,rfl,bh,sZ,aP,tf⟩:=hrel
 by_cases ac:k<n
 . clear S1 oT af
   have cq:(0:Int)<=(k:Int):=by omega
   have fJ:(k:Int)<=(n:Int):=by omega
   have bt:¬n=k:=by omega
   go_upto_region 9 with fail
   obtain⟨d,hd⟩:=Kh (n-k);obtain⟨m,hm⟩:=Kh (Nat.min k d);have lN:min k d=m:=hm;have sM:1<=m:=by omega
   have fI:k+m<=n:=by omega
   have Fs:m<=k:=by omega
   have CD:∀j v,(List.replicate m (O U u))[j]?=J v->wr.cell? ((⟨g,0,Z⟩:Addr).add j)=J v:=by
    intro j v hj;have VD:j<m:=by have:=(Lo.1 hj).1;simpa using this
    rw[List.getElem?_replicate,Ln VD] at hj
    cases hj
    rw[N5,LM];refine za aP.out j ?_;rw[List.getElem?_toArray];have h2:=congrArg (fun l=>l[j]?) sZ.out;simp only[List.getElem?_take,List.getElem?_replicate] at h2;rwa[Ln (by omega),Ln (by omega)] at h2
   have SP:=zH (wi (cur:=cur) (x:=O U u) (k:=k) (m:=m) (n:=n) bh.out sZ.out fI);have Mx:=zH CD;have HM:=zH hm;have eD:=zH tf;have bI:IntKind.i64.wrap ((k:Int)+(m:Int))=(k:Int)+(m:Int):=IntWalk.i64_in _ (by omega);have eR:=zH bI;clear CD hm tf bI
   go_region_law ((refine step_copy_splice (by rfl) (.tmp 41) (.tmp 44) 49 49 (by rfl) 3 Nt Z9 (J ⟨g,k,Z⟩) (J ⟨g,0,Z⟩) d d k n (by simp[go_sem]) (by simp[go_sem]) g k cur 3 aP.out (List.replicate m (O U u)) (by rw[N8];exact HM.out.symm) (fun _=>⟨rfl,_,rfl,Mx.out⟩) (by rw[N8,bh.out];exact fI) (by intro v hv;rw[List.eq_of_mem_replicate hv];rfl) g w1 eD.out.drew (Lh _) ?_;intro w3 U9 ap;rw[N8]))
   all_goals
    rw[eR.out];go_wp2_with fail
    go_frame
    go_roundw
    case rel=>
     (repeat apply Exists.intro)
     exact⟨⟨k+m,splice cur k (List.replicate m (O U u)),by omega,by omega,rfl,SP.out.2,SP.out.1,U9,ap⟩,by first | rfl | (go_frame;rfl) | (simp[Act.put];done)⟩
    case measure=>simp[Aq];omega
 obtain rfl:k=n:=by omega
 go_wp2_with fail;go_ret;refine⟨g,rfl,by have:=Gq.out;omega,?_,by have:=Gq.out;rw[this];exact tf⟩;unfold RowAt;have e:=sZ.out;rw[Pr (by have:=bh.out;omega)] at e;rw[aP.out,e];simp
theorem BdIn.set{B bB bM:Nat}{n:Int}{V:Au}{vs:List Vw}{w:Ba}(h:BdIn B bB bM n V vs w){g:Nat}(h1:g≠bB)(h2:g≠bM)(h3:V.ownBlock≠J g)(o:Nat)(u:Au):BdIn B bB bM n V vs (w.setCell ⟨g,o,Z⟩ u):=by
 obtain⟨m,hm⟩:=h.num;exact⟨(Lf w _ _ bB (fun e=>h1 e.symm)).trans h.hB,⟨m,hm.same (Lf w _ _ bM (fun e=>h2 e.symm))⟩,h.own.kept (yu w g o _) (.inr h3),h.ne,h.bm,h.lo⟩
theorem BdIn.grown{B bB bM:Nat}{n:Int}{V:Au}{vs:List Vw}{w w':Ba}{row:Option Nat}(h:BdIn B bB bM n V vs w)(hg:w.grownBy w' row)(h1:row≠J bB)(h2:row≠J bM)(h3:∀k,V.ownBlock=J k->row≠J k):BdIn B bB bM n V vs w':=by
 obtain⟨m,hm⟩:=h.num;refine⟨(hg.block _ (zd h.hB) (fun e=>h1 e.symm)).trans h.hB,⟨m,hm.same (hg.block _ hm.lt (fun e=>h2 e.symm))⟩,h.own.kept hg ?_,h.ne,h.bm,h.lo⟩
 cases hv:V.ownBlock with
 | none=>exact .inl rfl
 | some k=>exact .inr fun e=>h3 k hv e.symm
theorem BdIn.lts{B bB bM:Nat}{n:Int}{V:Au}{vs:List Vw}{w:Ba}(h:BdIn B bB bM n V vs w):bB<w.heap.size/\bM<w.heap.size/\∀k,V.ownBlock=J k->B<=k/\k<w.heap.size:=by
 obtain⟨m,hm⟩:=h.num;exact⟨zd h.hB,hm.lt,h.own.lt⟩
theorem BdOn.bel{B bB bM:Nat}{n:Int}{V V':Au}{vs:List Vw}{w w':Ba}(h:BdIn B bB bM n V vs w)(k:BdOn bB bM V w V' w'):Ao B w w':=by
 obtain⟨h1,h2,h3⟩:=h.lts;have h4:=h.lo;refine k.1.below (by omega) fun j hj hr=>?_
 rcases hr with e | e | e
 . omega
 . omega
 have:=(h3 j e).1;omega
theorem BdOn.set{bB bM:Nat}{V V':Au}{w w':Ba}(k:BdOn bB bM V w V' w'){g:Nat}(hg:w.heap.size<=g)(o:Nat)(u:Au):BdOn bB bM V w V' (w'.setCell ⟨g,o,Z⟩ u):=
 ⟨k.1.trans (Wrote.of_grown (R:=fun k=>k=g) (yu w' g o u) (fun k e _=>by cases e;rfl)) (fun k hk e=>by subst e;omega),k.2⟩
theorem BdOn.grown{bB bM:Nat}{V V':Au}{w w' w2:Ba}{row:Option Nat}(k:BdOn bB bM V w V' w')(hg:w'.grownBy w2 row)(hr:∀j,row=J j->w.heap.size<=j):BdOn bB bM V w V' w2:=
 ⟨k.1.trans (Wrote.of_grown (R:=fun k=>row=J k) hg (fun _ e _=>e)) (fun j hj e=>by have:=hr j e;omega),k.2⟩
theorem row_set{xs:List Int}{N p:Nat}(hx:xs.length=p)(hp:p<N)(u:Int):(xs++List.replicate (N-p) 0).set p u=(xs++[u])++List.replicate (N-(p+1)) 0:=by
 subst hx;rw[List.set_append_right _ _ (Lh _),NM,show N-xs.length=(N-(xs.length+1))+1 by omega,List.replicate_succ,List.set_cons_zero];simp
structure RwIn(B bB bM N:Nat)(V0:Au)(w0:Ba)(gN:Nat)(f:Nat->Vw)(vs:List Vw)(p:Nat)(V1:Au)(W:Ba):Prop where
 bd:BdIn B bB bM N V1 (zP f vs p).1 W
 row:RowAt W gN ((zP f vs p).2++List.replicate (N-p) 0)
 on:BdOn bB bM V0 w0 V1 W
 ne:V1.ownBlock≠J gN
 ng:w0.heap.size<=gN
 nb:gN≠bB/\gN≠bM
theorem RwIn.on_{B bB bM N:Nat}{V0:Au}{w0:Ba}{gN:Nat}{f:Nat->Vw}{vs:List Vw}{p:Nat}{V1:Au}{W W':Ba}(H:RwIn B bB bM N V0 w0 gN f vs p V1 W)(hb:Ao W.heap.size W W'):RwIn B bB bM N V0 w0 gN f vs p V1 W':=
 ⟨H.bd.on hb,Lb hb H.row.lt H.row,H.on.after hb,H.ne,H.ng,H.nb⟩
theorem RwIn.mid{B bB bM N:Nat}{V0:Au}{w0:Ba}{gN:Nat}{f:Nat->Vw}{vs:List Vw}{p:Nat}{V1 V':Au}{W W':Ba}(H:RwIn B bB bM N V0 w0 gN f vs p V1 W)(ho:BdOn bB bM V1 W V' W') :
  RowAt W' gN ((zP f vs p).2++List.replicate (N-p) 0)/\V'.ownBlock≠J gN:=by
 refine⟨(ho.1.block gN H.row.lt fun hr=>?_).trans H.row,fun e=>?_⟩
 . rcases hr with e | e | e
   . exact H.nb.1 e
   . exact H.nb.2 e
   exact H.ne e
 rcases ho.2 gN e with e | e
 . exact H.ne e
 have:=H.row.lt;omega
theorem RwIn.step{B bB bM N:Nat}{V0:Au}{w0:Ba}{gN:Nat}{f:Nat->Vw}{vs:List Vw}{p:Nat}{V1 V':Au}{W W':Ba}(H:RwIn B bB bM N V0 w0 gN f vs p V1 W)(hp:p<N)
  (hb:BdIn B bB bM N V' (xu (zP f vs p).1 (f p)).1 W') (ho:BdOn bB bM V1 W V' W') :
  RwIn B bB bM N V0 w0 gN f vs (p+1) V' (W'.setCell ⟨gN,p,Z⟩ (O U (xu (zP f vs p).1 (f p)).2)):=by
 obtain⟨h1,h2⟩:=H.mid ho;refine⟨hb.set H.nb.1 H.nb.2 h2 p _,?_,(H.on.trans ho).set H.ng p _,h2,H.ng,H.nb⟩;have h3:=h1.set p (xu (zP f vs p).1 (f p)).2;rw[row_set (xe f vs p) hp] at h3;exact h3
end
section
open Go.RowKit
attribute [local go_sem] Oper.semAt_some
theorem ints_raw{w:Ba}{A:Bb}{xs:List Int}(h:IAt w w.heap.size A xs):Raw w A xs.length (xs.map (O U)):=fun h0=>by
 obtain⟨b,off,e,ac,hc⟩:=h h0;refine⟨b,off,e,ac,fun j u hj=>?_⟩;obtain⟨x,hx,rfl⟩:∃x,xs[j]?=J x/\O U x=u:=by simpa using hj
 obtain⟨bg,rfl⟩:=Lo.1 hx;exact hc j bg
theorem ints_one(xs:List Int):∀u∈xs.map (O U),u.oneCell'=Av:=fun u hu=>by obtain⟨x,_,rfl⟩:=LA.1 hu;rfl
theorem ints_own{w:Ba}{aa:Nat}{v:Au}{xs:List Int}(h:OwnR kIn w aa v xs.length (xs.map (O U))):∃A cap,v=I A xs.length cap/\xs.length<=cap/\cap<=maxLen/\IAtS (fun k=>aa<=k) w A xs:=by
 have ac:=h.lt;obtain⟨A,cap,rfl,hc,hm,hr⟩:=h.form;refine⟨A,cap,rfl,hc,hm,fun h0=>?_⟩;obtain⟨g,rfl,hg,cJ,bh⟩:=hr h0;refine⟨g,0,rfl,(ac g hg).1,cJ,fun i hi=>?_⟩;rw[LM];exact bh i _ (by simp[hi])
theorem gg(A:Bb)(cap:Nat)(xs:List Int)(w:Ba)(hA:IAt w w.heap.size A xs)(hl:xs.length<=1000000) :
  Ap An 66 #[I A xs.length cap] w fun e w'=>∃A' c,e=Am (I A' xs.length c)/\IAtS (fun k=>w.heap.size<=k) w' A' xs/\Ao w.heap.size w w':=
 (clone_kIn A xs.length cap (xs.map (O U)) w (by simp) (ints_raw hA) (ints_one xs) hl).mono fun e w' ⟨v,h1,h2,h3⟩=>by
  obtain⟨A',c,h4,_,_,h5⟩:=ints_own h2;exact⟨A',c,by rw[h1,h4],h5,h3⟩
theorem vW(A:Bb)(cap:Nat)(xss:List (List Int))(w:Ba)(hA:LAt w w.heap.size A xss)(hl:xss.length<=100000)(aL:∀v∈xss,v.length<=100000) :
  Ap An 84 #[I A xss.length cap] w fun e w'=>∃v,e=Am v/\OwnX cIs (fun k=>w.heap.size<=k) w' w.heap.size v xss/\Ao w.heap.size w w':=by
 have HA:=zH hA;have fA:=zH aL;go_enter func84,ntmps84;go_wp2_with fail
 go_loopw [3,8] (fun o i wr=>∃k:Nat,k<=xss.length/\i=O U (k:Int)/\As (OwnX cIs (fun b=>w.heap.size<=b) wr w.heap.size o (xss.take k))/\As (Ao w.heap.size w wr)) (fun _ i _=>xss.length-(Aq i).toNat)
 case atStart=>exact⟨0,by omega,rfl,by rw[LP];exact OwnX.nil _ _ _ _,Lp _ _⟩
 obtain⟨k,hk,rfl,HO,HB⟩:=hrel
 by_cases dv:k<xss.length
 case neg=>
  obtain rfl:k=xss.length:=by omega
  rw[LD] at HO;go_wp2_with fail;go_ret;exact⟨_,rfl,HO.out,HB.out⟩
 obtain⟨b,off,A',c',e1,hb,c0,hI⟩:=(HA.out.keep HB.out).at_ k dv;subst e1;have fR:As (xss.take (k+1)=xss.take k++[xss[k]]):=Lu dv;have nR:=fA.out _ (Ld dv);have bG:=HB.out.size;have cq:(0:Int)<=(k:Int):=by omega
 have cy:(k:Int)<(xss.length:Int):=by omega
 have lz:(xss.take k).length=k:=by rw[Nd];omega
 have Ms:=zH lz;obtain⟨x,hx⟩:=Kh (xss[k]);rw[hx] at c0 hI fR nR;have HC:=zH (gg A' c' x wr (hI.more bG) (by omega));go_wp2_with fail;refine HC.out.mono ?_;rintro e w2 ⟨A2,c2,rfl,sS,af⟩;have aW:As (Ao wr.heap.size wr (w2.alloc (Ah #[I A2 x.length c2] 49))):=af.alloc af.size _;have pJ:As (IAtS (fun b=>wr.heap.size<=b) (w2.alloc (Ah #[I A2 x.length c2] 49)) A2 x):=sS.keep (KeepB.alloc _ _ _);have oz:=zH (zh w2 (Ah #[I A2 x.length c2] 49));have pH:=zH (HO.out.below yx aW.out (Lh _));have ed:=af.size;have Gm:=zH HO.out.lt;go_wp2_with (at_builtin;obtain⟨aD,bh,fu,bq⟩:=pH.out;rw[Ms.out] at fu;refine yo X8 rfl (.tmp 12) (.tmp 15) rfl w.heap.size u3 k aD.flatten rfl fu w2.heap.size #[I A2 x.length c2] rfl oz.out rfl (by simp[Value.oneCell']) (by omega) (by simp;omega) _ rfl ?_;intro g' cap w7 dY dj ch eh);have hX:cIs.lies (fun b=>(fun b=>w.heap.size<=b) b/\Value.ownBlock u3≠J b) _ [I A2 x.length c2] x:=⟨A2,c2,rfl,pJ.out.mono fun b _ hb=>⟨by show w.heap.size<=b;omega,fun e=>by have:=(Gm.out b e).2;omega⟩⟩;have fF:=dY;rw[<-Ms.out] at fF;have tS:=zH (OwnX.app yx bh bq hX fF dj ch);rw[<-fR.out,Ms.out] at tS;have lm:As (Ao w.heap.size w w7):=(HB.out.trans (aW.out.mono bG)).grown dj (by simp;omega) (fun b hb=>(Gm.out b hb).1)
 go_roundw
 case rel=>exact⟨k+1,by omega,by go_num,tS,lm⟩
 simp[Aq];omega
end
section
open Go.RowKit
def f0(inp:List Int):Nat->Vw:=fun p=>yw p (inp.getD p 0)
def fk(word:List Rd)(k:Nat)(row:List Int):Nat->Vw:=fun p=>yI (word.getD k default) (k+1) p row
structure PlIn(B bB bM N:Nat)(V0:Au)(w0:Ba)(vs:List Vw)(inp:List Int)(word:List Rd)(k:Nat)(V1 o:Au)(gk:Nat)(W:Ba):Prop where
 bd:BdIn B bB bM N V1 (zm vs N inp word k).1 W
 on:BdOn bB bM V0 w0 V1 W
 out:OwnX cIs (fun b=>w0.heap.size<=b/\V1.ownBlock≠J b) W w0.heap.size o (zm vs N inp word k).2
 no:∀b,V1.ownBlock=J b->o.ownBlock≠J b
 row:RowAt W gk ((zm vs N inp word k).2.getD k [])
 gl:w0.heap.size<=gk
 ng:V1.ownBlock≠J gk
 og:o.ownBlock≠J gk
 lt:bB<w0.heap.size/\bM<w0.heap.size
theorem rowk_len(vs:List Vw)(N:Nat)(inp:List Int)(word:List Rd)(k:Nat):((zm vs N inp word k).2.getD k []).length=N:=by
 have hl:=zY vs N inp word k;rw[Le,Lg (by omega)];exact qg vs N inp word k _ (Ld _)
section
variable {B bB bM N:Nat} {V0:Au} {w0:Ba} {vs:List Vw} {inp:List Int} {word:List Rd}
theorem PlIn.start{V1:Au}{gN:Nat}{W:Ba}(_hN:N<=5)(h:RwIn B bB bM N V0 w0 gN (f0 inp) vs N V1 W)(hl:bB<w0.heap.size/\bM<w0.heap.size) :
  PlIn B bB bM N V0 w0 vs inp word 0 V1 (I (J ⟨W.heap.size,0,Z⟩) 1 1) gN (W.alloc (Ah #[I (J ⟨gN,0,Z⟩) N N] 49)):=by
 have fb:=xe (f0 inp) vs N;have cJ:=h.row.lt;have hb:=zw W (Ah #[I (J ⟨gN,0,Z⟩) N N] 49);have be:=h.row;rw[NM,List.replicate_zero,Nc] at be;refine⟨h.bd.on hb,h.on.after hb,⟨[[I (J ⟨gN,0,Z⟩) N N]],rfl,?_,fun i i1 i2=>?_⟩,fun b e e2=>?_,Lb hb cJ be,h.ng,h.ne,fun e=>?_,hl⟩
 . refine OwnR.of_block (K:=kIs) (n:=1) (zh W _) ?_ rfl (by unfold maxLen;omega)
   have:=h.on.1.size;omega
 . obtain rfl:i=0:=by simp at i1;omega
   refine⟨J ⟨gN,0,Z⟩,N,?_,?_⟩
   . show [I (J ⟨gN,0,Z⟩) N N]=[.slice (J ⟨gN,0,Z⟩) (zP (f0 inp) vs N).2.length N]
     rw[fb]
   intro _;refine⟨gN,0,rfl,⟨⟨h.ng,h.ne⟩,fun e=>?_⟩,by simp;omega,fun j hj=>?_⟩
   . have:W.heap.size=gN:=by simpa[Value.ownBlock] using e
     omega
   rw[LM];exact RowAt.cell (Lb hb cJ be) j hj
 . have h1:W.heap.size=b:=by simpa[Value.ownBlock] using e2
   have:=(h.bd.own.lt b e).2;omega
 have h1:W.heap.size=gN:=by simpa[Value.ownBlock] using e
 omega
theorem PlIn.outn{k:Nat}{V1 o:Au}{gk:Nat}{W Wx:Ba}{gX:Nat}{f:Nat->Vw}{V3:Au}{p:Nat}{W3:Ba}(h:PlIn B bB bM N V0 w0 vs inp word k V1 o gk W)(hx:Ao W.heap.size W Wx)
  (r:RwIn B bB bM N V1 Wx gX f (zm vs N inp word k).1 p V3 W3) :
  OwnX cIs (fun b=>w0.heap.size<=b/\V3.ownBlock≠J b) W3 w0.heap.size o (zm vs N inp word k).2/\(∀b,V3.ownBlock=J b->o.ownBlock≠J b):=by
 have OV:=hx.size;have sD:=h.out.lt
 have h1:OwnX cIs (fun b=>(w0.heap.size<=b/\V1.ownBlock≠J b)/\V3.ownBlock≠J b) Wx w0.heap.size o (zm vs N inp word k).2:=
  (h.out.below yx hx (Lh _)).mono yx fun b hb hs=>⟨hs,fun e=>by
   rcases r.on.2 b e with e | e
   . exact hs.2 e
   . omega⟩
 refine⟨(h1.keep yx (r.on.1.keep fun b _ hs hr=>?_) fun b hb=>r.on.1.block b (by have:=(sD b hb).2;omega) fun hr=>?_).mono yx fun b _ hs=>⟨hs.1.1,hs.2⟩,fun b e e2=>?_⟩
 . rcases hr with e | e | e
   . have:=h.lt.1;have:=hs.1.1;omega
   . have:=h.lt.2;have:=hs.1.1;omega
   exact hs.1.2 e
 . have:=(sD b hb).1
   rcases hr with e | e | e
   . have:=h.lt.1;omega
   . have:=h.lt.2;omega
   exact h.no b e hb
 rcases r.on.2 b e with e | e
 . exact h.no b e e2
 have:=(sD b e2).2;omega
theorem PlIn.rown{k:Nat}{V1 o:Au}{gk:Nat}{W Wx:Ba}{gX:Nat}{f:Nat->Vw}{V3:Au}{p:Nat}{W3:Ba}(h:PlIn B bB bM N V0 w0 vs inp word k V1 o gk W)(hx:Ao W.heap.size W Wx)
  (r:RwIn B bB bM N V1 Wx gX f (zm vs N inp word k).1 p V3 W3):RowAt W3 gk ((zm vs N inp word k).2.getD k []):=by
 have OV:=hx.size;have cJ:=h.row.lt;refine(r.on.1.block gk (by omega) fun hr=>?_).trans (Lb hx cJ h.row);have:=h.gl;rcases hr with e | e | e
 . have:=h.lt.1;omega
 . have:=h.lt.2;omega
 exact h.ng e
theorem PlIn.next{k:Nat}{V1 o:Au}{gk:Nat}{W Wx:Ba}{gX:Nat}{V3:Au}{W3 W4 w5:Ba}{aD:List (List Au)}{g' cap:Nat}(h:PlIn B bB bM N V0 w0 vs inp word k V1 o gk W)(hx:Ao W.heap.size W Wx)
  (r:RwIn B bB bM N V1 Wx gX (fk word k ((zm vs N inp word k).2.getD k [])) (zm vs N inp word k).1 N V3 W3) (h4:Ao W3.heap.size W3 W4)
  (bh:aD.length=(zm vs N inp word k).2.length) (bq:∀(i:Nat) (h1:i<aD.length) (h2:i<(zm vs N inp word k).2.length),cIs.lies (fun b=>(w0.heap.size<=b/\V3.ownBlock≠J b)/\o.ownBlock≠J b) W4 aD[i] (zm vs N inp word k).2[i])
  (hr:OwnR kIs w5 w0.heap.size (I (J ⟨g',0,Z⟩) ((zm vs N inp word k).2.length+1) cap) ((zm vs N inp word k).2.length+1) (aD.flatten++[I (J ⟨gX,0,Z⟩) N N]))
  (hg:W4.grownBy w5 o.ownBlock) (bz:o.ownBlock=J g'\/g'=W4.heap.size) :
  PlIn B bB bM N V0 w0 vs inp word (k+1) V3 (I (J ⟨g',0,Z⟩) ((zm vs N inp word k).2.length+1) cap) gX w5:=by
 obtain⟨lM,fm⟩:=h.outn hx r;have fb:=xe (fk word k ((zm vs N inp word k).2.getD k [])) (zm vs N inp word k).1 N;have cJ:=r.row.lt;have iQ:=h4.size;have OV:=hx.size;have sD:=lM.lt;have hlW:=h.on.1.size;have hxg:=r.ng
 have sF:o.ownBlock≠J gX:=fun e=>by
  have:=(h.out.lt gX e).2;omega
 have be:=r.row;rw[NM,List.replicate_zero,Nc] at be;have CJ:RowAt w5 gX (zP (fk word k ((zm vs N inp word k).2.getD k [])) (zm vs N inp word k).1 N).2:=(hg.block gX (by omega) (fun e=>sF e.symm)).trans (Lb h4 cJ be);have e1:(zm vs N inp word (k+1)).2=(zm vs N inp word k).2++[(zP (fk word k ((zm vs N inp word k).2.getD k [])) (zm vs N inp word k).1 N).2]:=rfl;have aO:=zY vs N inp word k
 have DH:V3.ownBlock≠J g':=fun e=>by
  rcases bz with e2 | e2
  . exact fm g' e e2
  . have:=(r.bd.own.lt g' e).2;omega
 have hX:cIs.lies (fun b=>(w0.heap.size<=b/\V3.ownBlock≠J b)/\o.ownBlock≠J b) W4 [I (J ⟨gX,0,Z⟩) N N] (zP (fk word k ((zm vs N inp word k).2.getD k [])) (zm vs N inp word k).1 N).2:=by
  refine⟨J ⟨gX,0,Z⟩,N,by rw[fb],fun _=>⟨gX,0,rfl,⟨⟨by omega,r.ne⟩,sF⟩,by omega,fun j hj=>?_⟩⟩;rw[LM];exact RowAt.cell (Lb h4 cJ be) j hj
 refine⟨?_,?_,?_,?_,?_,by omega,r.ne,?_,h.lt⟩
 . refine(r.bd.on h4).grown hg (fun e=>?_) (fun e=>?_) (fun b hb e=>fm b hb e)
   . have:=(sD bB e).1;have:=h.lt.1;omega
   have:=(sD bM e).1;have:=h.lt.2;omega
 . exact((h.on.after hx).trans (r.on.after h4)).grown hg (fun j hj=>(sD j hj).1)
 . rw[e1]
   exact OwnX.app yx bh bq hX hr hg bz
 . intro b hb e
   have:g'=b:=by simpa[Value.ownBlock] using e
   subst this;exact DH hb
 . rw[e1,Le,LW (by omega),aO,NM]
   exact CJ
 intro e;have:g'=gX:=by simpa[Value.ownBlock] using e
 subst this;rcases bz with e2 | e2
 . exact sF e2
 omega
end
def xk(r:Rd)(p:Nat)(row:List Int)(q j:Nat):Int:=if j<q then zM r p row j else -1
def qE(r:Rd)(k p:Nat)(row:List Int)(q:Nat):Vw:=⟨p,k,0,xk r p row q 0,xk r p row q 1,xk r p row q 2,xk r p row q 3,xk r p row q 4⟩
theorem Qb(r:Rd)(p:Nat)(row:List Int)(j:Nat):xk r p row row.length j=zM r p row j:=by
 unfold xk zM
 split
 . rfl
 rename_i h;rw[Lj (fun h2=>h h2.1)]
theorem JB(r:Rd)(k p:Nat)(row:List Int):qE r k p row row.length=yI r k p row:=by
 unfold qE yI;simp only[Qb]
theorem uq(r:Rd)(p:Nat)(row:List Int)(q j:Nat)(h:j≠q):xk r p row (q+1) j=xk r p row q j:=by
 unfold xk
 by_cases h1:j<q
 . rw[Ln h1,Ln (by omega)]
 rw[Lj h1,Lj (by omega)]
theorem seenQ_no(r:Rd)(k p:Nat)(row:List Int)(q:Nat)(h:(r.h p).toNat.testBit q=Ax):qE r k p row (q+1)=qE r k p row q:=by
 have key:∀j,xk r p row (q+1) j=xk r p row q j:=fun j=>by
  by_cases e:j=q
  . subst e
    have h1:zM r p row j=-1:=by unfold zM;rw[Lj (fun h2=>by rw[h] at h2;cases h2.2)]
    unfold xk;rw[Ln (by omega),Lj (by omega),h1]
  . exact uq r p row q j e
 unfold qE;simp only[key]
theorem JA(r:Rd)(k p:Nat)(row:List Int)(q:Nat)(hq:q<row.length)(h5:q<5)(h:(r.h p).toNat.testBit q=Av):(qE r k p row q).cells.setIfInBounds (3+q) (O U row[q])=(qE r k p row (q+1)).cells:=by
 have e:xk r p row (q+1) q=row[q]:=by
  unfold xk;rw[Ln (by omega)];unfold zM;rw[Ln ⟨hq,h⟩,Le,Lg hq];rfl
 have key:=fun j (h:j≠q)=>uq r p row q j h
 unfold qE Vw.cells
 match q,h5 with
 | 0,_=>simp only[key 1 (by decide),key 2 (by decide),key 3 (by decide),key 4 (by decide),e];rfl
 | 1,_=>simp only[key 0 (by decide),key 2 (by decide),key 3 (by decide),key 4 (by decide),e];rfl
 | 2,_=>simp only[key 1 (by decide),key 0 (by decide),key 3 (by decide),key 4 (by decide),e];rfl
 | 3,_=>simp only[key 1 (by decide),key 2 (by decide),key 0 (by decide),key 4 (by decide),e];rfl
 | 4,_=>simp only[key 1 (by decide),key 2 (by decide),key 3 (by decide),key 0 (by decide),e];rfl
theorem Rd.cells_h(r:Rd)(p:Nat)(hp:p<5):r.cells[1+p]?=J (O U (r.h p)):=by
 match p,hp with
 | 0,_=>rfl
 | 1,_=>rfl
 | 2,_=>rfl
 | 3,_=>rfl
 | 4,_=>rfl
theorem gz{h j:Nat}(hh:h<32)(hj:j<5):(bits BinOp.and U ((h:Int) / 2^j) 1==1)=h.testBit j:=by
 match j,hj with
 | 0,_=>exact LK (j5 (p:=fun h=>decide ((bits BinOp.and U ((h:Int) / 2^0) 1==1)=h.testBit 0)) (by decide +kernel) hh)
 | 1,_=>exact LK (j5 (p:=fun h=>decide ((bits BinOp.and U ((h:Int) / 2^1) 1==1)=h.testBit 1)) (by decide +kernel) hh)
 | 2,_=>exact LK (j5 (p:=fun h=>decide ((bits BinOp.and U ((h:Int) / 2^2) 1==1)=h.testBit 2)) (by decide +kernel) hh)
 | 3,_=>exact LK (j5 (p:=fun h=>decide ((bits BinOp.and U ((h:Int) / 2^3) 1==1)=h.testBit 3)) (by decide +kernel) hh)
 | 4,_=>exact LK (j5 (p:=fun h=>decide ((bits BinOp.and U ((h:Int) / 2^4) 1==1)=h.testBit 4)) (by decide +kernel) hh)
theorem un{r:Rd}(h:yv r=0)(p:Nat)(hp:p<5):0<=r.h p/\r.h p<32:=by
 unfold yv at h
 split at h
 . cases h
 rename_i hn
 have key:∀k,k<=5->yp r (5-k) k=0->∀q,k<=q->q<5->xy r.n q (r.h q)=0:=by
  intro k hk
  induction hm:5-k generalizing k with
  | zero=>intro _ q h1 h2;omega
  | succ m ih=>
   intro hz q h1 h2;unfold yp at hz
   split at hz
   . rename_i bt;exact absurd hz bt
   . rename_i bt
     by_cases e:q=k
     . subst e;simpa using bt
     . exact ih (k+1) (by omega) (by omega) hz q (by omega) h2
 have h1:=key 0 (by omega) h p (by omega) hp;unfold xy at h1
 split at h1
 . split at h1
   . cases h1
   rename_i h2;have:r.h p=0:=by simpa using h2
   omega
 split at h1
 . cases h1
 rename_i h2
 have h3:(2^r.n.toNat-1:Nat)<32:=by
  have:2^r.n.toNat<=2^5:=Pa (by omega) (by omega);omega
 omega
end
section
open Go.RowKit
attribute [local go_sem] Oper.semAt_some
theorem play_any(B bB bM N:Nat)(h1:1<=N)(h5:N<=5)(V:Au)(vs:List Vw)(ly:vs.length<=40000)(inp:List Int)(bZ:inp.length=N)(word:List Rd)(lO:word.length<=6)(iB:∀r∈word,zQ r=0/\r.n=N)
  (A AW:Bb) (ci cw:Nat) (w:Ba) (hBw:B<=w.heap.size) (H:BdIn B bB bM N V vs w) (hI:IAt w B A inp) (hW:RAt w B AW word) :
  Ap An 53 #[Ak (J ⟨bB,0,Z⟩),I A inp.length ci,I AW word.length cw] w fun e w'=>∃v V',e=Am v/\BdIn B bB bM N V' (zm vs N inp word word.length).1 w'/\BdOn bB bM V w V' w' /\
   OwnX cIs (fun b=>w.heap.size<=b/\V'.ownBlock≠J b) w' w.heap.size v (zm vs N inp word word.length).2/\∀b,V'.ownBlock=J b->v.ownBlock≠J b:=by
 have HI:=zH hI;have HW:=zH hW;have F8:=zH iB;have HH:=zH H;have dF:=vD N h1 (by omega);have HM:=zH dF;obtain⟨ar,By⟩:=Kh (((List.replicate N 0).map (O U)).toArray);rw[By] at dF;have Uj:=zH By;have b0:=za H.hB 0 rfl;have M4:=zH bZ;rw[bZ];obtain⟨l1,l2,l3⟩:=H.lts;clear By hI hW iB H bZ l3;go_enter func53,ntmps53;go_wp2_with fail;obtain⟨w1,ah,d0,bI,aB⟩:=zt w ar 3;rw[ah]
 have R1:As (RwIn B bB bM N V w w.heap.size (f0 inp) vs 0 V w1):=
  ⟨HH.out.on aB,by show w1.heap[w.heap.size]?=_;rw[d0,<-Uj.out];rfl,(BdOn.refl _ _ _ _).after aB,fun e=>by have:=(HH.out.own.lt _ e).2;omega,Lh _,by omega,by omega⟩
 go_loopw [24] (fun i wr=>∃(p:Nat) (V1:Au),p<=N/\i=O U (p:Int)/\As (RwIn B bB bM N V w w.heap.size (f0 inp) vs p V1 wr)) (fun i _=>N-(Aq i).toNat)
 case atStart=>exact⟨0,V,by omega,rfl,R1.out⟩
 obtain⟨p,V1,hp,rfl,HR⟩:=hrel
 by_cases Vc:p<N
 case neg=>
  obtain rfl:N=p:=by omega
  go_wp2_with fail;have P0:=zH (PlIn.start (word:=word) h5 HR.out ⟨l1,l2⟩);obtain⟨W1,cO⟩:=Kh (wr.alloc (Ah #[I (J ⟨w.heap.size,0,Z⟩) N N] 49));rw[cO] at P0 ⊢;obtain⟨g0,FD⟩:=Kh wr.heap.size;rw[FD] at P0 ⊢;obtain⟨gn,RN⟩:=Kh w.heap.size;rw[RN];have P0:As (PlIn B bB bM N V w vs inp word 0 V1 (I (J ⟨g0,0,Z⟩) 1 1) gn W1):=by rw[<-RN];exact P0.out
  go_loopw [7,9,44] (fun nw o i wr=>∃(k:Nat) (V1:Au) (gk:Nat),k<=word.length/\nw=I (J ⟨gk,0,Z⟩) N N/\i=O U (k:Int)/\As (PlIn B bB bM N V w vs inp word k V1 o gk wr)) (fun _ _ i _=>word.length-(Aq i).toNat)
  case atStart=>exact⟨0,V1,gn,by omega,rfl,rfl,P0.out⟩
  obtain⟨k,V2,gk,hk,rfl,rfl,HP⟩:=hrel
  by_cases dv:k<word.length
  case neg=>
   obtain rfl:k=word.length:=by omega
   go_wp2_with fail;go_ret;exact⟨_,V2,rfl,HP.out.bd,HP.out.on,HP.out.out,HP.out.no⟩
  obtain⟨bw,ow,e1,cD,c0,c1,c2,c3,c4,c5,c6⟩:=(HW.out.keep (HP.out.on.bel HH.out)).row k dv;subst e1;have oS:=F8.out _ (Ld dv);have dZ:word.getD k default=word[k]:=by rw[Le,Lg dv];rfl
  obtain⟨r,hr⟩:=Kh (word[k]);rw[hr] at c0 c1 c2 c3 c4 c5 c6 oS dZ;have BZ:=zH dZ;have HRD:=zH (qT oS.1).2.2.1;have cq:(0:Int)<=(k:Int):=by omega
  have cy:(k:Int)<(word.length:Int):=by omega
  have O':IntKind.i64.wrap ((k:Int)+1)=(k:Int)+1:=by rw[Lw];omega
  have b0:wr.cell? ⟨bB,0,Z⟩=J (O U (N:Int)):=za HP.out.bd.hB 0 rfl;have Wd:bB<wr.heap.size:=HP.out.bd.lts.1;have VX:bw<wr.heap.size:=by have:=HP.out.on.1.size;omega
  clear hr oS dZ;go_wp2_with fail;clear c0 c1 c2 c3 c4 c5 c6;obtain⟨W1,cO,g0,co,FU⟩:=zt wr r.cells 75;unfold Rd.cells at cO;rw[cO];obtain⟨W2,eM,x0,ed,ST⟩:=zt W1 ar 3;rw[eM];rw[co] at x0;have r8:=zH g0;have dA:=zH FU;obtain⟨row,be⟩:=Kh ((zm vs N inp word k).2.getD k []);have io:=zH be;have my:As (row.length=N):=by rw[<-be];exact rowk_len vs N inp word k
  have sn:=HP.out.on.1.size
  have R0:As (RwIn B bB bM N V2 W1 (wr.heap.size+1) (fk word k row) (zm vs N inp word k).1 0 V2 W2):=
   ⟨(HP.out.bd.on FU).on ST,by show W2.heap[_]?=_;rw[x0,<-Uj.out];rfl,(BdOn.refl _ _ _ _).after ST,fun e=>by have:=(HP.out.bd.own.lt _ e).2;omega,by omega,by omega,by omega⟩
  have HPF:=zH (qG vs N inp word k)
  have hNk:(k+1)*N<=35:=by
   have:=NY (show k+1<=7 by omega) h5;omega
  obtain⟨wo,rfl⟩:∃x,x=wr:=⟨_,rfl⟩
  go_loopw [56] (fun i wx=>∃(q:Nat) (V3:Au),q<=N/\i=O U (q:Int)/\As (RwIn B bB bM N V2 W1 (wo.heap.size+1) (fk word k row) (zm vs N inp word k).1 q V3 wx)) (fun i _=>N-(Aq i).toNat)
  case atStart=>exact⟨0,V2,by omega,rfl,R0.out⟩
  obtain⟨q,V3,hq,rfl,HR⟩:=hrel
  by_cases AU:q<N
  case neg=>
   obtain rfl:N=q:=by omega
   have lM:=HP.out.outn dA.out HR.out;have aO:=zY vs N inp word k;have sX:=HR.out.row.lt;have oy:=zH (zh wr (Ah #[I (J ⟨wo.heap.size+1,0,Z⟩) N N] 49));have pF:=zH (lM.1.below yx (zw wr (Ah #[I (J ⟨wo.heap.size+1,0,Z⟩) N N] 49)) (Lh _));have HL:=zH aO;have UM:w.heap.size<=wr.heap.size:=by have:=HR.out.on.1.size;omega
   go_wp2_with (at_builtin;obtain⟨aD,bh,fu,bq⟩:=pF.out;rw[HL.out] at fu;refine yo X8 rfl (.tmp 92) (.tmp 94) rfl w.heap.size u9 (k+1) aD.flatten rfl fu wr.heap.size #[I (J ⟨wo.heap.size+1,0,Z⟩) N N] rfl oy.out rfl (by simp[Value.oneCell']) (by omega) (by simp;omega) _ rfl ?_;intro g' cap w7 dY dj ch eh);have rO:=HR.out;rw[<-io.out] at rO;have fF:=dY;rw[<-HL.out] at fF;have rU:=zH (PlIn.next HP.out dA.out rO (zw wr _) bh bq fF dj ch);rw[HL.out] at rU
   go_roundw
   case rel=>exact⟨k+1,V3,wo.heap.size+1,by omega,rfl,by go_num,rU⟩
   simp[Aq];omega
  go_wp2_with fail;refine(ud wr).mono ?_;rintro e w3 ⟨rfl,ap⟩;have R3:=zH (HR.out.on_ ap);go_wp2_with fail;obtain⟨W4,pt,v0,lJ,cU⟩:=zt w3 (qE r (k+1) q row 0).cells 100;have Kv:w3.alloc (Ah #[O U (q:Int),O U ((k:Int)+1),O U 0,O U (-1),O U (-1),O U (-1),O U (-1),O U (-1)] 100)=W4:=by rw[<-pt];rfl
  rw[Kv];have fE:=ap.size;have IN:wo.heap.size<w3.heap.size:=by have:=HR.out.on.1.size;omega
  have EK:As (w3.heap[wo.heap.size]?=J (Ah r.cells 75 (0,0))):=by
   refine(R3.out.on.1.block wo.heap.size (by omega) fun hr=>?_).trans r8.out;have:=HP.out.bd.lts;rcases hr with e | e | e
   . omega
   . omega
   have:=(this.2.2 _ e).2;omega
  have rQ:As (RowAt w3 gk row):=by have:=HP.out.rown dA.out R3.out;rw[io.out] at this;exact this
  obtain⟨wp,rfl⟩:∃x,x=wr:=⟨_,rfl⟩
  go_loopw [66] (fun i wy=>∃j:Nat,j<=N/\i=O U (j:Int)/\As (wy.heap[w3.heap.size]?=J (Ah (qE r (k+1) q row j).cells 100 (0,0)))/\As (Ao w3.heap.size w3 wy)) (fun i _=>N-(Aq i).toNat)
  case atStart=>exact⟨0,by omega,rfl,v0,cU⟩
  clear v0 cU lJ;obtain⟨j,hj,rfl,HV,ET⟩:=hrel
  by_cases hjN:j<N
  case neg=>
   obtain rfl:N=j:=by omega
   have R6:fk word k row q=qE r (k+1) q row N:=by
    have:=JB r (k+1) q row;rw[my.out] at this;rw[this];show yI (word.getD k default) (k+1) q row=_;rw[BZ.out]
   obtain⟨vw,Fh⟩:=Kh (qE r (k+1) q row N);rw[Fh] at HV R6;have x0:wr.cell? ⟨w3.heap.size,0,Z⟩=J (O U vw.p):=za HV.out 0 rfl;have x1:wr.cell? ⟨w3.heap.size,1,Z⟩=J (O U vw.r):=za HV.out 1 rfl;have x2:wr.cell? ⟨w3.heap.size,2,Z⟩=J (O U vw.i):=za HV.out 2 rfl;have x3:wr.cell? ⟨w3.heap.size,3,Z⟩=J (O U vw.h0):=za HV.out 3 rfl;have x4:wr.cell? ⟨w3.heap.size,4,Z⟩=J (O U vw.h1):=za HV.out 4 rfl;have x5:wr.cell? ⟨w3.heap.size,5,Z⟩=J (O U vw.h2):=za HV.out 5 rfl;have x6:wr.cell? ⟨w3.heap.size,6,Z⟩=J (O U vw.h3):=za HV.out 6 rfl;have x7:wr.cell? ⟨w3.heap.size,7,Z⟩=J (O U vw.h4):=za HV.out 7 rfl;have R4:=R3.out.on_ ET.out;have hsq:=qF (fk word k row) (zm vs N inp word k).1 q;have HAD:=zH (Y7 B bB bM N V3 (zP (fk word k row) (zm vs N inp word k).1 q).1 vw (by have:=HPF.out;omega) wr R4.bd);have TI:=zH R4;have B6:=zH R6;have lL:(0:Int)<=(q:Int):=by omega
   have rc:(q:Int)<(N:Int):=by omega
   go_wp2_with fail;refine HAD.out.mono ?_;rintro e w5 ⟨rfl,V5,FH,mZ⟩;have Ia:=TI.out.mid mZ;rw[<-B6.out] at FH;have BK:=zH (TI.out.step AU FH mZ);rw[B6.out] at BK;obtain⟨u5,c5⟩:∃u:Int,w5.cell? ⟨wo.heap.size+1,q,Z⟩=J (O U u):=⟨_,Ia.1.cell q (by rw[Lq,xe,N8];omega)⟩;have y5:=Ia.1.froz q;go_wp2_with fail
   go_roundw
   case rel=>exact⟨q+1,V5,by omega,by go_num,BK⟩
   simp[Aq];omega
  have IK:=rQ.out.lt;have P7:j<row.length:=by have:=my.out;omega
  have n0:=(ET.out.cell (p:=⟨gk,j,Z⟩) IK).trans (rQ.out.cell j P7);have m0:wr.cell? ⟨wo.heap.size,1+q,Z⟩=J (O U (r.h q)):=(ET.out.cell (p:=⟨wo.heap.size,1+q,Z⟩) IN).trans (za EK.out (1+q) (Rd.cells_h r q (by omega)));obtain⟨y,hy⟩:=Kh (row[j]);rw[hy] at n0;have iP:=un HRD.out q (by omega);obtain⟨h,hh⟩:=Lr iP.1;have II:h<32:=by omega
  rw[hh] at m0;have rk:(0:Int)<=(j:Int):=by omega
  have pc:(j:Int)<(N:Int):=by omega
  have Bj:(j:Int)<5:=by omega
  have lL:(0:Int)<=(q:Int):=by omega
  have AZ:(q:Int)<5:=by omega
  have iX:=gz II (show j<5 by omega);have OY:(r.h q).toNat=h:=by rw[hh];rfl
  have TM:=zH (seenQ_no r (k+1) q row j);have Eg:=zH (JA r (k+1) q row j P7 (by omega));rw[OY,hy] at Eg;rw[OY] at TM;have z0:wr.cell? ⟨w3.heap.size,3+j,Z⟩=J (O U ((qE r (k+1) q row j).h j)):=za HV.out (3+j) (Vw.cells_h _ j (by omega));have zf:=zb HV.out (3+j)
  by_cases hb:h.testBit j=Av
  case pos=>
   rw[hb] at iX;have HS:=zH (Eg.out hb);go_wp2_with fail
   go_roundw
   case rel=>exact⟨j+1,by omega,by go_num,by show _=_;rw[Lk wr _ (3+j) _ _ _ HV.out,HS.out],ET.out.setCell (Lh _) _⟩
   simp[Aq];omega
  have af:h.testBit j=Ax:=by simpa using hb
  rw[af] at iX;have HS:=zH (TM.out af);go_wp2_with fail
  go_roundw
  case rel=>exact⟨j+1,by omega,by go_num,by show _=_;rw[HS.out];exact HV.out,ET.out⟩
  simp[Aq];omega
 have bZ:=M4.out;obtain⟨bi,oi,e1,pl,i0⟩:=(HI.out.keep (HR.out.on.bel HH.out)).at_ p (by omega);subst e1;have Iw:As ((f0 inp) p=yw p inp[p]):=by show yw p (inp.getD p 0)=_;rw[Le,Lg (by omega)];rfl
 obtain⟨x,hx⟩:=Kh (inp[p]);rw[hx] at i0 Iw;have oW:(0:Int)<=(p:Int):=by omega
 have CS:(p:Int)<(N:Int):=by omega
 have aA:bi<wr.heap.size:=by have:=HR.out.row.lt;omega
 go_wp2_with fail;have tN:=zH (qF (f0 inp) vs p)
 refine zz [(0,Av),(1,Av),(2,Av),(3,Av),(4,Av),(5,Av),(6,Av),(7,Av),(8,Ax),(9,Ax),(10,Ax),(11,Ax),(12,Ax)]
  (fun W=>W.cell? ⟨bi,oi+p,Z⟩=J (O U x)) (by kernel_rfl) (by kernel_rfl) (by exact i0) ?_
 repeat
  apply zg rfl
  . rintro K' ae W y0
    go_simp;exact ae
 refine zE rfl ?_;intro K' ae;go_simp;refine(ud wr.drew).mono ?_;rintro e w3 ⟨rfl,ap⟩;have ap:Ao wr.heap.size wr w3:=vK ap;have R3:=HR.out.on_ ap;have i3:=(ap.cell (p:=⟨bi,oi+p,Z⟩) aA).trans i0;refine ae _ _ i3 ?_;refine zE rfl ?_;intro K' ae;go_simp;refine ae _ _ i3 ?_;refine zE rfl ?_;intro K' ae;go_simp;refine(Y7 B bB bM N V1 (zP (f0 inp) vs p).1 (yw p x) (by have:=tN.out;omega) w3 R3.bd).mono ?_;rintro e w4 ⟨rfl,V4,R9,Hx⟩;have sK:=R3.mid Hx;rw[<-Iw.out] at R9;have mx:=zH (R3.step Vc R9 Hx);rw[Iw.out] at mx
 have i4:w4.cell? ⟨bi,oi+p,Z⟩=J (O U x):=by
  refine(L7 (Hx.1.block bi (by have:=ap.size;omega) fun hr=>?_)).trans i3;have mm:=HR.out.bd.lo;rcases hr with e | e | e
  . omega
  . omega
  have:=(R3.bd.own.lt bi e).1;omega
 refine ae _ _ i4 ?_;obtain⟨u4,c4⟩:∃u:Int,w4.cell? ⟨w.heap.size,p,Z⟩=J (O U u):=⟨_,sK.1.cell p (by rw[Lq,xe,N8];omega)⟩;have y4:=sK.1.froz p;refine zE rfl ?_;intro K' ae;go_simp;refine ae _ _ i4 ?_;refine xh rfl (by kernel_rfl) ?_;intro K' ae;go_simp;refine ae (fun _=>True) _ _ trivial ?_;refine ya ?_;go_wp2_with fail
 go_roundw
 case rel=>exact⟨p+1,V4,by omega,by go_num,mx⟩
 simp[Aq];omega
end
section
open Go.RowKit Go.Shelf
attribute [local go_sem] Oper.semAt_some
def zA(n:Nat):Nat->Nat->List (Nat×Nat)
 | _,0=>[]
 | i,m+1=>(List.range n).map (fun j=>(i,j))++zA n (i+1) m
def xt(n i j:Nat):List (Nat×Nat):=((List.range n).drop j).map fun j=>(i,j)
theorem ZC{n i j:Nat}(h:j<n):xt n i j=(i,j)::xt n i (j+1):=by
 unfold xt;rw[Ly (by simpa using h)];simp
theorem Yg(n i:Nat):xt n i n=[]:=by unfold xt;simp
theorem kp{n:Nat}:∀(m i:Nat) (x:Nat×Nat),x∈zA n i m->i<=x.1/\x.1<i+m/\x.2<n
 | 0,_,_,h=>by cases h
 | m+1,i,x,h=>by
  rcases LS.1 h with h | h
  . obtain⟨j,hj,rfl⟩:=LA.1 h
    exact⟨Lh _,by show i<_;omega,by simpa using hj⟩
  . obtain⟨a,b,c⟩:=kp m (i+1) x h
    exact⟨by omega,by omega,c⟩
theorem execs_any(p:Pb)(A:Bb)(kc:Nat)(SV:Bb)(ks:Nat)(V:Bb)(nw cw:Nat)(w:Ba):Ap An 51 #[.agg (p.vs A kc SV ks),I V nw cw] w fun e w'=>
  e=Am (.func (.func 87) #[] #[Ak (J ⟨w.heap.size,0,Z⟩),Ak (J ⟨w.heap.size+1,0,Z⟩)])/\(w.alloc (Ah (p.vs A kc SV ks) 29)).alloc (Ah #[I V nw cw] 104)=w':=by
 unfold Pb.vs;go_enter func51,ntmps51;go_wp2;go_ret;exact⟨rfl,rfl⟩
def SlAt(w:Ba)(B:Nat)(AW:Bb)(nw:Nat)(sl:Nat->Au):Prop:=∀j,j<nw->∃b off,AW=J ⟨b,off,Z⟩/\b<B/\w.cell? ⟨b,off+j,Z⟩=J (sl j)
theorem SlAt.same{w w':Ba}{B:Nat}{AW:Bb}{nw:Nat}{sl:Nat->Au}(h:SlAt w B AW nw sl)(hk:∀k,k<B->w'.heap[k]?=w.heap[k]?):SlAt w' B AW nw sl:=fun j hj=>by
 obtain⟨b,off,e,hb,hc⟩:=h j hj;exact⟨b,off,e,hb,(L7 (hk b hb)).trans hc⟩
theorem YR(C:Array Au)(M:Nat)(hf:M<=30)(A:Bb)(kc:Nat)(hC:C[3]?=J (I A M kc))(AW:Bb)(nw cw:Nat)(hnw:nw<=5000)(sl:Nat->Au)(B bp bw:Nat)(w:Ba)(hp:w.heap[bp]?=J (Ah C 29))(hw:w.heap[bw]?=J (Ah #[I AW nw cw] 104))
  (hS:SlAt w B AW nw sl) (hB:B<=w.heap.size) :
  Iter An 87 #[Ak (J ⟨bp,0,Z⟩),Ak (J ⟨bw,0,Z⟩)] (fun x:Nat×Nat=>#[O U x.1,sl x.2]) (fun k=>k<B\/k=bp\/k=bw) (zA nw 0 M) w:=fun n hn l Ag Jx W hW hJ SM hY h0=>by
 have FI:bp<w.heap.size:=(Li.1 hp).1;have cD:bw<w.heap.size:=(Li.1 hw).1;have oW:=(hW.block bp FI).trans hp;have sn:=(hW.block bw cD).trans hw;have lE:=zH (hS.same (w':=W) fun k hk=>hW.block k (by omega));have HY:=zH hY;have c3:=za oW 3 hC;have H0:=zH h0;have Et:=zH oW;have rL:=zH sn;have WH:B<=W.heap.size:=Lx hB hW.size;have hpW:bp<W.heap.size:=LE FI hW.size;have hwW:bw<W.heap.size:=LE cD hW.size;refine callsIn_of_wp func87 rfl trivial ?_ rfl;simp only[ntmps87,List.size_toArray,List.length_cons,List.length_nil,Nat.reduceAdd,Nat.reduceSub,Array.replicate_succ,Array.replicate_zero,List.push_toArray,List.append_toArray,List.nil_append,List.cons_append];gi_wp2
 gi_loopw [11] (fun q wr=>∃s:Nat,s<=M/\q=O U (s:Int)/\∃pre:List { x:Nat×Nat // x∈zA nw 0 M },As (pre.map (·.1)++zA nw s (M-s)=zA nw 0 M)/\As (Ag pre wr)/\As (SlAt wr B AW nw sl)/\As (wr.heap[bp]?=J (Ah C 29))/\As (wr.heap[bw]?=J (Ah #[I AW nw cw] 104))/\W.heap.size<=wr.heap.size) (fun q _=>M-(Aq q).toNat)
 case atStart=>exact⟨0,by omega,rfl,[],by simp[As],H0,lE,Et,rL,Lh _⟩
 case round=>
  obtain⟨s,hs,rfl,pre,fT,iE,np,FT,DC,bn⟩:=hrel
  by_cases ac:s<M
  · have FF : zA nw s (M - s) = xt nw s 0 ++ zA nw (s + 1) (M - (s + 1)) := by
     rw[show M-s=(M-(s+1))+1 by omega,zA];unfold xt;rw[LQ]
    have HP:As (pre.map (·.1)++(xt nw s 0++zA nw (s+1) (M-(s+1)))=zA nw 0 M):=by rw[<-FF];exact fT.out
    have q0:=za DC.out 0 rfl;gi_wp2_with fail
    gi_loopw [16] (fun q wr=>∃j:Nat,j<=nw/\q=O U (j:Int)/\∃pre:List { x:Nat×Nat // x∈zA nw 0 M },As (pre.map (·.1)++(xt nw s j++zA nw (s+1) (M-(s+1)))=zA nw 0 M)/\As (Ag pre wr)/\As (SlAt wr B AW nw sl)/\As (wr.heap[bp]?=J (Ah C 29))/\As (wr.heap[bw]?=J (Ah #[I AW nw cw] 104))/\W.heap.size<=wr.heap.size) (fun q _=>nw-(Aq q).toNat)
    case atStart=>exact⟨0,by omega,rfl,pre,HP,iE,np,FT,DC,bn⟩
    case round=>
     obtain⟨j,hj,rfl,pre,fT,iE,np,FT,DC,bn⟩:=hrel
     by_cases bg:j<nw
     . obtain⟨b2,o2,rfl,af,m0⟩:=np.out j bg
       have rg:pre.map (·.1)++((s,j)::(xt nw s (j+1)++zA nw (s+1) (M-(s+1))))=zA nw 0 M:=by
        have:=fT.out;rw[ZC bg,Nf] at this;exact this
       have cB:(s,j)∈zA nw 0 M:=by rw[<-rg];simp
       have aO:pre.length<(zA nw 0 M).length:=by
        have:=congrArg List.length rg;simp only[List.length_append,List.length_map,List.length_cons] at this;omega
       obtain⟨fn,tmps,assign,body,hy,hR⟩:=HY.out pre ⟨(s,j),cB⟩ _ iE.out aO;dsimp only at hy
       have Es:As ((pre++[(⟨(s,j),cB⟩:{ x:Nat×Nat // x∈zA nw 0 M })]).map (·.1)++(xt nw s (j+1)++zA nw (s+1) (M-(s+1)))=zA nw 0 M):=by
        rw[LI,Ng];exact rg
       have HR:=zH hR;gi_wp2_with fail;refine HR.out.mono ?_;rintro e W3 (⟨rfl,DR,eo⟩ | ⟨rfl,ns⟩)
       . have bI:wr.heap.size<=W3.heap.size:=eo.size
         have S3:=zH (np.out.same (fun k hk=>eo.same k (.inl hk) (by omega)));have P3:=zH ((eo.same bp (.inr (.inl rfl)) (by omega)).trans FT.out);have B3:=zH ((eo.same bw (.inr (.inr rfl)) (by omega)).trans DC.out);have J3:=zH DR;have iO:W.heap.size<=W3.heap.size:=by omega
         gi_wp2_with fail
         go_roundw
         case rel=>exact⟨j+1,by omega,by go_num,_,Es,J3,S3,P3,B3,iO⟩
         case measure=>simp[Aq];omega
       . gi_wp2_with fail
         refine Na (Rr rfl _ _ _) rfl ?_;refine⟨⟨_,rfl⟩,.inr ⟨_,?_,ns⟩⟩;exact⟨_,Es.out⟩
     . obtain rfl:nw=j:=by omega
       have HP:As (pre.map (·.1)++zA nw (s+1) (M-(s+1))=zA nw 0 M):=by have:=fT.out;rwa[Yg,Nb] at this
       gi_wp2_with fail
       go_roundw
       case rel=>exact⟨s+1,by omega,by go_num,pre,HP,iE,np,FT,DC,bn⟩
       case measure=>simp[Aq];omega
  . obtain rfl:M=s:=by omega
    have HP:As (pre.map (·.1)=zA nw 0 M):=by have:=fT.out;rwa[NM,zA,Nc] at this
    gi_wp2_with fail
    go_end0
    exact⟨⟨_,rfl⟩,.inl ⟨pre,HP.out,iE.out⟩⟩
end
section
open Go.RowKit
theorem wJ:∀(j:Nat) (xss:List (List Mv)) (x:Int×Mv),x∈zu j xss->∃s,j<=s/\s<j+xss.length/\x.1=(s:Int)
 | _,[],x,h=>by cases h
 | j,l::r,x,h=>by
  rw[zu] at h;rcases LS.1 h with h | h
  . obtain⟨m,_,rfl⟩:=LA.1 h
    exact⟨j,Lh _,by simp,rfl⟩
  . obtain⟨s,h1,h2,h3⟩:=wJ (j+1) r x h
    exact⟨s,by omega,by simp;omega,h3⟩
def qz(a:Ad)(k s:Nat)(xs:List (Int×Mv)):Nat:=(xs.map fun x=>if x.1=(s:Int) then zG a k x.2.to else 0).sum
theorem Ju(a:Ad)(k s:Nat)(xs:List (Int×Mv))(x:Int×Mv):qz a k s (xs++[x])=qz a k s xs+if x.1=(s:Int) then zG a k x.2.to else 0:=by
 unfold qz;rw[LI,RL];simp
theorem wf(a:Ad)(k s j:Nat)(h:s≠j):∀l:List Mv,qz a k s (l.map fun m=>((j:Int),m))=0
 | []=>rfl
 | m::l=>by
  have:=wf a k s j h l;unfold qz at this ⊢;rw[L4,L4,PU,this,Lj (by intro e;apply h;omega)]
theorem gS(a:Ad)(k s:Nat):∀l:List Mv,qz a k s (l.map fun m=>((s:Int),m))=(l.map fun m=>zG a k m.to).sum
 | []=>rfl
 | m::l=>by
  have:=gS a k s l;unfold qz at this ⊢;rw[L4,L4,PU,this,Ln rfl,L4,PU]
theorem sumF_app(a:Ad)(k s:Nat)(xs ys:List (Int×Mv)):qz a k s (xs++ys)=qz a k s xs+qz a k s ys:=by
 unfold qz;rw[LI,RL]
theorem gT(a:Ad)(k s:Nat):∀(j:Nat) (xss:List (List Mv)),qz a k s (zu j xss)=if j<=s then ((xss.getD (s-j) []).map fun m=>zG a k m.to).sum else 0
 | j,[]=>by simp[zu,qz]
 | j,l::r=>by
  rw[zu,sumF_app,gT a k s (j+1) r]
  by_cases e:s=j
  . subst e
    rw[gS,Lj (by omega),Ln (Lh _),NM];rfl
  . rw[wf a k s j e,LM]
    by_cases h:j<=s
    . rw[Ln (by omega),Ln h,show s-j=(s-(j+1))+1 by omega,Rk]
    . rw[Lj (by omega),Lj h]
theorem sumF_all(a:Ad)(k s:Nat):qz a k s (zu 0 a.sts)=zG a (k+1) (s:Int):=by
 rw[gT,Ln (Nu _),Pc,zG];unfold Ad.at_;rw[Lv]
def xR(a:Ad)(L k sl:Nat)(pre:List (Int×Mv)):List Int:=(List.range sl).map fun (j:Nat)=>((yz L (qz a k j pre):Nat):Int)
theorem JM(a:Ad)(L k sl:Nat)(pre:List (Int×Mv)):(xR a L k sl pre).length=sl:=by unfold xR;simp
theorem JL(a:Ad)(L k sl:Nat):xR a L k sl []=List.replicate sl 0:=by
 refine Pt (by simp[xR]) fun j h1 h2=>?_
 simp[xR,qz,Ye]
theorem vA(a:Ad)(L k sl:Nat)(pre:List (Int×Mv))(j:Nat)(h:j<(xR a L k sl pre).length):(xR a L k sl pre)[j]=((yz L (qz a k j pre):Nat):Int):=by simp[xR]
theorem XG(a:Ad)(L k sl:Nat)(pre:List (Int×Mv))(x:Int×Mv)(s:Nat)(hx:x.1=(s:Int)):xR a L k sl (pre++[x])=(xR a L k sl pre).set s ((yz L (qz a k s pre+zG a k x.2.to):Nat):Int):=by
 refine Pt (by simp[xR]) fun j h1 h2=>?_
 rw[P1,vA,Ju,hx]
 by_cases e:s=j
 . subst e;rw[Ln rfl,Ln rfl]
 rw[Lj (by omega),Lj e,Pq,vA]
theorem JN(a:Ad)(L k sl:Nat):xR a L k sl (zu 0 a.sts)=cl a L (k+1) sl:=by
 unfold xR cl;refine Ph fun j _=>?_
 rw[sumF_all]
theorem cl_first(a:Ad)(L sl:Nat):cl a L 0 sl=List.replicate sl 1:=by
 refine Pt (by simp[cl]) fun j h1 h2=>?_
 rw[gh];simp[zG,QK]
end
section
open Go.RowKit Go.Shelf
attribute [local go_sem] Oper.semAt_some
theorem wN{B:Nat}{ds:List Deferred}{w w':Ba}(h:Marks B ds w)(hs:∀k:Nat,w.heap[k]?=J (Obj.deferred (J []))->w'.heap[k]?=J (Obj.deferred (J []))):Marks B ds w':=by
 obtain⟨rs,e,hn,hk⟩:=h;exact⟨rs,e,hn,fun r hr=>⟨(hk r hr).1,hs r (hk r hr).2⟩⟩
structure NmIn(B:Nat)(C:Array Au)(L:Int)(g7 g:Nat)(cs:List Int)(w W:Ba):Prop where
 below:Ao B w W
 b0:W.heap[B]?=J (Ah C 27 (0,0))
 b1:W.heap[B+1]?=J (Ah #[O U L] 3 (0,0))
 b7:W.heap[g7]?=J (Ah #[I (J ⟨g,0,Z⟩) cs.length cs.length] 49 (0,0))
 row:RowAt W g cs
 h7:B+2<=g7
 hg:B+2<=g
theorem NmIn.on{B:Nat}{C:Array Au}{L:Int}{g7 g:Nat}{cs:List Int}{w W W':Ba}(h:NmIn B C L g7 g cs w W)(hb:Ao W.heap.size W W'):NmIn B C L g7 g cs w W':=
 ⟨h.below.trans (hb.mono (by have:=zd h.b0;omega)),La hb h.b0,La hb h.b1,La hb h.b7,Lb hb h.row.lt h.row,h.h7,h.hg⟩
theorem NmIn.turn{B:Nat}{C:Array Au}{L:Int}{g7 g:Nat}{cs:List Int}{w W W':Ba}{row:Option Nat}(h:NmIn B C L g7 g cs w W)(hg:W.grownBy W' row)(hr:∀r,row=J r->B<=r/\∃o:Obj,W.heap[r]?=J o/\o.isCells=Ax):NmIn B C L g7 g cs w W':=
 ⟨h.below.grown hg (by have:=zd h.b0;omega) (fun k hk=>(hr k hk).1),(LO hg (fun r e=>(hr r e).2) h.b0 rfl).trans h.b0,(LO hg (fun r e=>(hr r e).2) h.b1 rfl).trans h.b1,
  (LO hg (fun r e=>(hr r e).2) h.b7 rfl).trans h.b7,(LO hg (fun r e=>(hr r e).2) h.row rfl).trans h.row,h.h7,h.hg⟩
theorem NmIn.setk{B:Nat}{C:Array Au}{L:Int}{g7 g:Nat}{cs:List Int}{w W:Ba}(h:NmIn B C L g7 g cs w W)(n j:Nat)(v:Au)(h7:g7<n)(hg:g<n):NmIn B C L g7 g cs w (W.setCell ⟨n,j,Z⟩ v):=by
 have h1:=h.h7
 exact⟨h.below.setCell (by show B<=n;omega) _,(Lf W ⟨n,j,Z⟩ v B (by show B≠n;omega)).trans h.b0,(Lf W ⟨n,j,Z⟩ v (B+1) (by show B+1≠n;omega)).trans h.b1,
  (Lf W ⟨n,j,Z⟩ v g7 (by show g7≠n;omega)).trans h.b7,(Lf W ⟨n,j,Z⟩ v g (by show g≠n;omega)).trans h.row,h.h7,h.hg⟩
theorem NmIn.swap{B:Nat}{C:Array Au}{L:Int}{g7 g n:Nat}{cs lX:List Int}{w W:Ba}(h:NmIn B C L g7 g cs w W)(hr:RowAt W n lX)(hn:B+2<=n)(bt:n≠g7):NmIn B C L g7 n lX w (W.setCell ⟨g7,0,Z⟩ (I (J ⟨n,0,Z⟩) lX.length lX.length)):=by
 have h1:=h.h7;obtain⟨x1,x2,x3⟩:=vj h.b7 (I (J ⟨n,0,Z⟩) lX.length lX.length);exact⟨h.below.setCell (by show B<=g7;omega) _,(x3 B (by omega)).trans h.b0,(x3 (B+1) (by omega)).trans h.b1,x1,(x3 n bt).trans hr,h.h7,hn⟩
theorem X5{D:Nat}{W:Ba}{n:Nat}{xs:List Int}(h:RowAt W n xs)(j:Nat)(v:Au):KeepsFrom D W (W.setCell ⟨n,j,Z⟩ v):=
 ⟨(yu W n j v).size,fun k o _ hk ho=>(Lf W ⟨n,j,Z⟩ v k (by rintro rfl;rw[h] at hk;cases hk;cases ho)).trans hk⟩
theorem rep_arr(n:Nat):((List.replicate n (0:Int)).map (O U)).toArray=Array.replicate n (O U 0):=by simp
theorem XD(a:Ad)(hf:FewA a)(hz:zl a a.sts=0)(h1:1<=a.sts.length)(K L:Nat)(hK:K<=6)(hL:L<=1048576)(SV:Bb)(ks:Nat)(w:Ba)(hS:SAt w w.heap.size SV a.sts) :
  Ap An 79 #[Aj #[O U a.n,I SV a.sts.length ks],O U K,O U L] w fun e w'=>e=Am (O U ((yz L (zG a K 0):Nat):Int))/\Ao w.heap.size w w':=by
 have dR:=hf.1;have HI:=zH (fun (bx:Nat) (w':Ba) (hb:w'.heap[bx]?=J (Ah #[O U a.n,I SV a.sts.length ks] 27)) (h:SAt w' w.heap.size SV a.sts) (hB:w.heap.size<=w'.heap.size)=>kn a hf SV ks w.heap.size bx w' hb h hB);have HZ:=zH (@xv a hz);have HS:=zH hS;clear hS hz hf;refine yd func79 rfl ?_;simp only[ntmps79,List.size_toArray,List.length_cons,List.length_nil,Nat.reduceAdd,Nat.reduceSub,Array.replicate_succ,Array.replicate_zero,List.push_toArray,List.append_toArray,List.nil_append,List.cons_append];go_wp2_with fail;obtain⟨w2,cx,b0,b1,bn,hB⟩:=zZ w #[O U a.n,I SV a.sts.length ks] #[O U (L:Int)] 27 3;have cp:w2.heap.size=w.heap.size+2:=by rw[<-cx];simp
 rw[cx];obtain⟨w3,AJ,b2,sh,aZ⟩:=zt w2 #[O U 1] 3;rw[AJ];clear cx AJ;rw[show w2.heap.size=w.heap.size+1+1 by omega] at b2;refine(Yk a.sts.length (w.heap.size+1+1) h1 dR 1 w3 b2).mono ?_;rintro e w4 ⟨g,rfl,Bp,be,cU⟩
 have H4:As (NmIn w.heap.size #[O U a.n,I SV a.sts.length ks] L w4.heap.size g (cl a L 0 a.sts.length) w (w4.alloc (Ah #[I (J ⟨g,0,Z⟩) a.sts.length a.sts.length] 49))):=by
  have c0:=Lb cU (by omega) (Lb aZ (by omega) b0);have c1:=Lb cU (by omega) (Lb aZ (by omega) b1);have iQ:=cU.size;refine⟨(hB.trans (aZ.mono (by omega))).trans ((cU.mono (by omega)).trans ((Lp _ _).alloc (by omega) _)),zB c0 _,zB c1 _,?_,?_,by omega,by omega⟩
  . rw[qW];exact zh _ _
  rw[cl_first];exact zB be _
 go_wp2_with fail;obtain⟨w5,nP⟩:=Kh (w4.alloc (Ah #[I (J ⟨g,0,Z⟩) a.sts.length a.sts.length] 49));rw[nP] at H4 ⊢;obtain⟨g7,dj⟩:=Kh w4.heap.size;rw[dj] at H4 ⊢;obtain⟨g0,FD⟩:∃g0,g0=g:=⟨_,rfl⟩;have H5:As (NmIn w.heap.size #[O U a.n,I SV a.sts.length ks] L g7 g (cl a L 0 a.sts.length) w w5):=H4.out;refine wp_loop_ghost (fun (m:Nat) (a':Act) (w':Ba)=>∃(ds:List Deferred) (k h:Nat) (u8 Cl Ck Cj Ci Ch Cg Cf Ce:Au),(m=K-k/\k<=K/\As (NmIn w.heap.size #[O U a.n,I SV a.sts.length ks] L g7 h (cl a L k a.sts.length) w w')/\As (Marks w.heap.size ds w'))/\a'={ tmps:=#[Aj #[O U a.n,I SV a.sts.length ks],O U (K:Int),O U (L:Int),Ak (J ⟨w.heap.size,0,Z⟩),undef,Ak (J ⟨w.heap.size+1,0,Z⟩),O U 0,Ak (J ⟨g7,0,Z⟩),u8,undef,undef,I (J ⟨w.heap.size+1+1,0,Z⟩) 1 1,Ak (J ⟨w.heap.size,1,Z⟩),I SV a.sts.length ks,O U (a.sts.length:Int),I (J ⟨g0,0,Z⟩) a.sts.length a.sts.length,O U (K:Int),O U (k:Int),Cl,Ck,Cj,Ci,Ch,Cg,undef,undef,undef,undef,undef,undef,undef,undef,undef,undef,undef,undef,undef,undef,undef,undef,undef,undef,Cf,Ce,undef,undef,undef],defers:=ds }) K ?_ ?_
 . exact⟨[],0,g,_,_,_,_,_,_,_,_,_,⟨by omega,by omega,H5.out,Marks.nil _ _⟩,by rw[FD];rfl⟩
 clear H5 FD;rintro m a' wr ⟨ds,k,h,u8,Cl,Ck,Cj,Ci,Ch,Cg,Cf,Ce,⟨hm,hk,HN,MK⟩,rfl⟩;have nR:=qW a L k a.sts.length;have q7:=za HN.out.b7 0 rfl;rw[nR] at q7
 by_cases Py:k<K
 case neg=>
  obtain rfl:k=K:=by omega
  have c0:=HN.out.row.cell 0 (by omega);rw[gh] at c0;clear HI HZ;go_wp2_with fail;refine zX MK.out (v:=O U ((yz L (zG a k 0):Nat):Int)) (fun W=>by kernel_rfl) ?_;intro W hX;exact⟨rfl,HN.out.below.trans hX.below⟩
 case pos=>
 have dF:=vD a.sts.length h1 dR;obtain⟨q0,q1,_⟩:=Ka HN.out.b0;go_upto_region 5 with fail
 obtain⟨W1,cO,d0,d1,bI,aB⟩:=zZ wr (Array.replicate a.sts.length (O U 0)) #[I (J ⟨wr.heap.size,0,Z⟩) a.sts.length a.sts.length] 3 49;rw[cO];have be:RowAt W1 wr.heap.size (xR a L k a.sts.length []):=by rw[JL];unfold RowAt;rw[rep_arr];exact d0
 have tU:=HN.out.on aB;obtain⟨hn,Dd⟩:=Kh wr.heap.size;have VK:g7<hn:=by rw[<-Dd];exact zd HN.out.b7
 have hhg:h<hn:=by rw[<-Dd];exact HN.out.row.lt
 have hBn:w.heap.size+1<hn:=by rw[<-Dd];exact zd HN.out.b1
 have Tl:As (Marks w.heap.size ds W1):=wN (w:=wr) MK.out fun x hx=>(aB.block x (Li.1 hx).1).trans hx
 rw[Dd] at be d1 bI ⊢;obtain⟨q0,q1,_⟩:=Ka tU.b0;have fy:=zH tU;have rP:=zH be;have bQ:=zH d1;clear cO d0 d1 aB be tU dF Dd q7;go_wp2_with fail;refine(vB a.n (I SV a.sts.length ks) W1).mono ?_;rintro e W2 ⟨rfl,eM⟩;have bb:=zh W1 (Ah #[O U a.n,I SV a.sts.length ks] 27);have aQ:Ao W1.heap.size W1 W2:=by rw[<-eM];exact zw _ _
 have dX:W2.heap.size=W1.heap.size+1:=by rw[<-eM];simp
 rw[eM] at bb;obtain⟨bx,aM⟩:=Kh W1.heap.size;have rV:=zH (fy.out.on aQ);have cf:As (RowAt W2 hn (xR a L k a.sts.length [])):=Lb aQ rP.out.lt rP.out;have iJ:=zH (La aQ bQ.out);have Tj:As (Marks w.heap.size ds W2):=wN (w:=W1) Tl.out fun x hx=>(aQ.block x (Li.1 hx).1).trans hx
 rw[aM] at bb dX bI ⊢;have mc:=zH (HI.out bx W2 bb (HS.out.keep rV.out.below) (by omega));clear eM bb aQ aM fy rP bQ Tl q0 q1;go_wp2_with fail
 refine gP rfl (PX Rw (by kernel_rfl) rfl) mc.out (by rintro x (h | rfl)<;>omega) (fun _=>rfl)
  (fun (pre:List { x:Int×Mv // x∈zu 0 a.sts }) (X:Ba)=>NmIn w.heap.size #[O U a.n,I SV a.sts.length ks] L g7 h (cl a L k a.sts.length) w X/\X.heap[hn+1]?=J (Ah #[I (J ⟨hn,0,Z⟩) a.sts.length a.sts.length] 49 (0,0))/\RowAt X hn (xR a L k a.sts.length (pre.map (·.1)))/\W2.heap.size<=X.heap.size/\(∀y:Nat,W2.heap[y]?=J (Obj.deferred (J []))->X.heap[y]?=J (Obj.deferred (J []))))
  (fun _ _ _=>False)
  ?hI (fun _ _ _ _ _ h _ _=>h)
  ⟨rV.out,iJ.out,cf.out,Lh _,fun _ h=>h⟩ (fun x=>x.2.cells) 121 ?a1 ?assign ?body ?done ?stop (fun _ _ h=>h.2.2.2.1)
 case hI=>
  intro s X X' row hX hg hr;refine⟨hX.1.turn hg (fun r e=>⟨by have:=(hr r e).1;omega,(hr r e).2⟩),(LO hg (fun r e=>(hr r e).2) hX.2.1 rfl).trans hX.2.1,(LO hg (fun r e=>(hr r e).2) hX.2.2.1 rfl).trans hX.2.2.1,Lx hX.2.2.2.1 hg.size,fun y hy=>?_⟩;have GU:=hX.2.2.2.2 y hy;have cz:=(Li.1 hy).1;exact(hg.block y (by have:=hX.2.2.2.1;omega) (fun e=>by have:=(hr y e.symm).1;omega)).trans GU
 case assign=>
  intro l pre x X K' hI hK;obtain⟨g',ph⟩:∃g',g'=X.heap.size:=⟨_,rfl⟩;have HK:=zH (hK g' ph ⟨hI.1.on (zw X _),zB hI.2.1 _,zB hI.2.2.1 _,by have:=hI.2.2.2.1;simp;omega,fun y hy=>(NZ X _ y (Li.1 (hI.2.2.2.2 y hy)).1).trans (hI.2.2.2.2 y hy)⟩);have HG:=zH ph;unfold Mv.cells at HK ⊢;dsimp only at HK ⊢;clear hK ph hI;gi_wp2;rw[<-HG.out];exact HK.out
 case body=>
  intro l pre x g W3 hg fK hI ac;obtain⟨eN,mu,fW,SS,DT⟩:=hI;obtain⟨s,_,mh,mJ⟩:=wJ 0 a.sts x.1 x.2;obtain⟨_,_,z3,z4⟩:=HZ.out x.1.2 (ZM x.2);have dl:=XG a L k a.sts.length (pre.map (·.1)) x.1 s mJ;obtain⟨t,et⟩:=Lr z3;have lz:t<a.sts.length:=by omega
  have mh:s<a.sts.length:=by omega
  have c8:=za mu 0 rfl;have rS:=fW.cell s (by rw[JM];omega);rw[vA] at rS;have fS:=fW.froz s;have q7:=za eN.b7 0 rfl;rw[qW] at q7;have cT:=eN.row.cell t (by rw[qW];omega);rw[gh] at cT;have u7:=za fK 7 (u:=O U x.1.2.to) rfl;rw[et] at u7;have q1:=za eN.b1 0 rfl;rw[et] at dl;have oQ:=QM L (qz a k s (pre.map (·.1))) (zG a k (t:Int));have y1:=vm L (qz a k s (pre.map (·.1)));have y2:=vm L (zG a k (t:Int));rw[<-oQ] at dl;obtain⟨n1,fU⟩:=Kh (yz L (qz a k s (pre.map (·.1))));obtain⟨n2,sI⟩:=Kh (yz L (zG a k (t:Int)));rw[fU] at rS dl y1;rw[sI] at cT dl y2;have Fw:=fW.lt;have mC:=zH eN;have pJ:=zH mu;have EI:=zH fW;have t6:=zH DT;have dz:=zH dl;clear eN mu fW DT dl z3 z4 et fU sI oQ fK ac MK Tj iJ cf rV mc HI HS
  try dsimp only
  rw[mJ];clear mJ HZ;gi_wp2_with fail;refine jy 16 (by kernel_rfl) (by kernel_rfl) (by kernel_rfl) (by rintro⟨_,_,h⟩;exact h) ?_;simp only[List.take_succ_cons,List.take_zero,List.drop_succ_cons,List.drop_zero]
  repeat still_step
  try refine wpStill_nil ?_
  change wpList _ _ _ _ _ W3.drew;go_wp2_with fail;have hv:min ((n1:Int)+(n2:Int)) ((L:Int)+1)=((min (n1+n2) (L+1):Nat):Int):=by omega
  rw[hv];have dm:=EI.out.set s ((min (n1+n2) (L+1):Nat):Int);rw[<-dz.out] at dm;obtain⟨V,hV⟩:∃V:Au,O U ((min (n1+n2) (L+1):Nat):Int)=V:=⟨_,rfl⟩;rw[hV] at dm ⊢;have Vg:¬(hn<w.heap.size\/hn=bx):=by omega
  refine⟨(X5 EI.out s V).trans (qv (Lp _ _).drew),?_,(mC.out.setk hn s V (by omega) (by omega)).on (Lp _ _).drew,?_,?_,?_,?_⟩
  . have cy:=KeepB.setCell (W:=W3) (K:=fun k=>k<w.heap.size\/k=bx) (a:=⟨hn,s,Z⟩) Vg V
    exact cy.trans (KeepB.drew _ _)
  . exact(Lf W3 ⟨hn,s,Z⟩ V (hn+1) (by show hn+1≠hn;omega)).trans pJ.out
  . show RowAt (W3.setCell ⟨hn,s,Z⟩ V) hn (xR a L k a.sts.length ((pre++[x]).map (·.1)))
    rw[LI];exact dm
  . show W2.heap.size<=(W3.setCell ⟨hn,s,Z⟩ V).heap.size
    exact Lx SS (yu W3 hn s V).size
  intro y hy;exact(Lf W3 ⟨hn,s,Z⟩ V y (by rintro rfl;have h5:=t6.out _ hy;rw[EI.out] at h5;cases h5)).trans (t6.out y hy)
 case done=>
  intro D ys W3 hD fB hI ex;obtain⟨eN,mu,fW,SS,DT⟩:=hI;rw[fB,JN] at fW;have c8:=za mu 0 rfl;have q7:=za eN.b7 0 rfl;have f7:=zb eN.b7 0;have O9:=zd eN.b7;have mC:=zH eN;have EI:=zH fW;have t6:=zH DT;have Gs:=zH ex;clear eN mu fW DT ex fB HI mc iJ cf rV HZ HS
  try dsimp only
  go_wp2_with fail;have Fl:=NmIn.swap mC.out EI.out (by omega) (by omega);rw[qW] at Fl;refine⟨K-(k+1),by omega,_,k+1,hn,_,_,_,_,_,_,_,_,_,⟨rfl,by omega,Fl,?_⟩,rfl⟩;refine Marks.cons Tj.out (fun y hy=>?_) (by omega) hD ?_
  . exact(Lf W3 ⟨g7,0,Z⟩ _ y (by rintro rfl;have:=t6.out _ hy;rw[mC.out.b7] at this;cases this)).trans (t6.out y hy)
  exact(Lf W3 ⟨g7,0,Z⟩ _ D (by rintro rfl;have:=Gs.out;rw[mC.out.b7] at this;cases this)).trans Gs.out
 intro D c pre W _ _ h;exact h.elim
end
section
open Go.RowKit
attribute [local go_sem] Oper.semAt_some
theorem yq{a:Ad}(hf:FewA a)(h:xM a=0):zl a a.sts=0/\1<=a.sts.length/\xd a=Av/\1<=a.n/\a.n<=5:=by
 by_cases h1:a.n<1\/5<a.n
 . rw[jL h1] at h;cases h
 by_cases h2:a.sts.length<1
 . rw[vN h1 h2] at h;cases h
 by_cases h3:zl a a.sts=0
 . rw[jM h1 (by omega) hf h3] at h
   by_cases h4:xd a=Av
   . exact⟨h3,by omega,h4,by omega,by omega⟩
   rw[Lj h4] at h;cases h
 rw[jK h1 (by omega) hf h3] at h;exact absurd h h3
def ja(L T:Nat):Int×Int:=if L<T then (0,17) else ((T:Int),0)
theorem vb(a:Ad)(hf:FewA a)(h:xM a=0)(K L:Nat)(hK:K<=6)(hL:L<=1048576)(SV:Bb)(ks:Nat)(w:Ba)(hS:SAt w w.heap.size SV a.sts) :
  Ap An 44 #[Aj #[O U a.n,I SV a.sts.length ks],O U K,O U L] w fun e w'=>e=Am (.tuple #[O U (ja L (zG a K 0)).1,O U (ja L (zG a K 0)).2])/\Ao w.heap.size w w':=by
 obtain⟨z1,z2,_⟩:=yq hf h;have HC:=zH (fun (w':Ba) (h':SAt w' w'.heap.size SV a.sts)=>gD a hf SV ks w' h');rw[h] at HC;have HN:=zH (fun (w':Ba) (h':SAt w' w'.heap.size SV a.sts)=>XD a hf z1 z2 K L hK hL SV ks w' h');have Dg:=sat_gt L (zG a K 0);have sc:=zH (@Xn L (zG a K 0));have du:=vm L (zG a K 0);obtain⟨T,hT⟩:=Kh (zG a K 0);rw[hT] at HN sc Dg du ⊢;obtain⟨r,hr⟩:=Kh (yz L T);rw[hr] at HN sc Dg du;obtain⟨w1,ah⟩:=Kh (w.alloc (Ah #[O U a.n,I SV a.sts.length ks] 27));have aI:=zh w (Ah #[O U a.n,I SV a.sts.length ks] 27);have am:Ao w.heap.size w w1:=by rw[<-ah];exact zw w _
 have co:w1.heap.size=w.heap.size+1:=by rw[<-ah];simp
 rw[ah] at aI;have bK:=zH aI;have aY:=zH am;have HS:=zH ((hS.keep am).more (by omega:w.heap.size<=w1.heap.size));have aq:=zH ah;clear hS ah am aI;go_enter func44,ntmps44;go_wp2_with fail;rw[aq.out];go_wp2_with fail;refine(HC.out w1 HS.out).mono ?_;rintro e w2 ⟨rfl,af⟩;have aW:=zH (aY.out.trans (af.mono (by omega)));have dg:=zH ((HS.out.keep af).more af.size);have aN:=La af bK.out;obtain⟨q0,q1,_⟩:=Ka aN;have dX:=af.size;clear af aN HC aq;go_wp2_with fail
 all_goals first | (exfalso;omega) | skip
 refine(HN.out w2 dg.out).mono ?_;rintro e w3 ⟨rfl,ap⟩;have bL:=zH (aW.out.trans (ap.mono (by omega)))
 by_cases hg:L<T
 . have ig:L<r:=Dg.2 hg
   have hR:As (ja L T=(0,17)):=Ln hg;go_wp2_with fail
   all_goals first | (exfalso;omega) | skip
   go_ret2
   rw[hR.out];exact⟨rfl,bL.out⟩
 have ig:¬L<r:=fun h=>hg (Dg.1 h)
 have hr:r=T:=(sc.out (by omega)).symm▸rfl;have hR:As (ja L T=((T:Int),0)):=Lj hg;subst hr;go_wp2_with fail
 all_goals first | (exfalso;omega) | skip
 go_ret2
 rw[hR.out];exact⟨rfl,bL.out⟩
theorem Xa(a:Ad)(hf:FewA a)(h:xM a=0)(K:Nat)(hK:K<=6)(SV:Bb)(ks:Nat)(w:Ba)(hS:SAt w w.heap.size SV a.sts) :
  Ap An 16 #[Aj #[O U a.n,I SV a.sts.length ks],O U K] w fun e w'=>e=Am (.tuple #[O U (ja 1048576 (zG a K 0)).1,O U (ja 1048576 (zG a K 0)).2])/\Ao w.heap.size w w':=by
 have HN:=zH (fun (w':Ba) (h':SAt w' w'.heap.size SV a.sts)=>vb a hf h K 1048576 hK (Lh _) SV ks w' h');obtain⟨r,hr⟩:=Kh (ja 1048576 (zG a K 0));rw[hr] at HN ⊢;have am:=zw w (Ah #[O U a.n,I SV a.sts.length ks] 27);have aY:=zH am;have HS:=zH ((hS.keep am).more am.size);go_enter func16,ntmps16;go_wp2_with fail;refine(HN.out _ HS.out).mono ?_;rintro e w2 ⟨rfl,af⟩;have aW:=zH (aY.out.trans (af.mono (by simp)));go_wp2_with fail
 go_ret2
 exact⟨rfl,aW.out⟩
theorem Jm(a:Ad)(hf:FewA a)(h:xM a=0)(K:Nat)(hK:K<=6)(hT:zG a K 0<=4096)(SV:Bb)(ks:Nat)(w:Ba)(hS:SAt w w.heap.size SV a.sts) :
  Ap An 49 #[Aj #[O U a.n,I SV a.sts.length ks],O U K] w fun e w'=>∃A c,e=Am (.tuple #[.slice A (zn a K 0).length c,O U 0])/\WAt w' w'.heap.size A (zn a K 0)/\Ao w.heap.size w w':=by
 obtain⟨z1,z2,_⟩:=yq hf h;have HC:=zH (fun (w':Ba) (h':SAt w' w'.heap.size SV a.sts)=>vb a hf h K 4096 hK (by omega) SV ks w' h');have hcut:ja 4096 (zG a K 0)=(((zG a K 0:Nat):Int),0):=Lj (by omega);rw[hcut] at HC;have HL:=zH (yr a K 0);obtain⟨T,rB⟩:=Kh (zG a K 0);rw[rB] at HC HL hT;have HF:=zH (YN a K hK SV ks z1 hf K);obtain⟨w1,ah,d0,d1,bI,hBw⟩:=zZ w #[O U a.n,I SV a.sts.length ks] #[O U (K:Int)] 27 3;have HS:=zH ((hS.keep hBw).more hBw.size);have lE:=zH hS;have bk:=zH hBw;have bu:=zH d0;have bQ:=zH d1;have aq:=zH ah;clear ah d0 d1 hBw hS;go_enter func49,ntmps49;go_wp2_with fail;rw[aq.out];go_wp2_with fail;refine(HC.out w1 HS.out).mono ?_;rintro e w2 ⟨rfl,af⟩;have aW:=zH af;have D0:=zH (La af bu.out);have D1:=zH (La af bQ.out);have ed:=af.size;obtain⟨i0,hi,cH,bS,cp⟩:=yF X7;obtain⟨w3,dF,r1,r2⟩:=run_make_own (P:=An) w2 w2.heap.size 104 39 i0 kWd.z 1 underlying104 hi cH bS U U T (by rw[cp];show 24*T<=_;omega) (by unfold maxLen;omega) (Lh _);have R1:=zH r1;have R2:=zH r2;go_wp2_with fail;have ni:=R2.out;have cS:=R2.out.size;obtain⟨w4,AI,e0,e1,iQ,cU⟩:=zZ w3 #[I (J ⟨w2.heap.size,0,Z⟩) 0 T] #[.func (.func 82) #[] #[Ak (J ⟨w.heap.size+1,0,Z⟩),Ak (J ⟨w3.heap.size,0,Z⟩),Ak (J ⟨w.heap.size,0,Z⟩),Ak (J ⟨w3.heap.size+1,0,Z⟩)]] 104 160;rw[AI]
 have B3:Ao w2.heap.size w2 w3:=⟨ni.os,ni.tape,ni.output,ni.size,fun k hk=>ni.block k hk (by simp)⟩;have B4:Ao w2.heap.size w2 w4:=B3.trans (cU.mono cS);have nI:=La B4 D0.out;have GF:=La B4 D1.out;have dP:=zd D1.out;obtain⟨i1,hi,cH,bS,cp⟩:=yF ZS;obtain⟨w5,dF,r1,r2⟩:=run_make_own (P:=An) w4.drew w4.drew.heap.size 39 75 i1 kRd.z 7 PN hi cH bS U U K (by rw[cp];show 56*K<=_;omega) (by unfold maxLen;omega) (Lh _);have B5:Ao w4.heap.size w4 w5:=vK ⟨r2.os,r2.tape,r2.output,r2.size,fun k hk=>r2.block k hk (by simp)⟩;have Ux:OwnR kRd w5 w4.heap.size (I (J ⟨w4.heap.size,0,Z⟩) 0 K) 0 []:=r1;have hl4:w3.heap.size+1<w4.heap.size:=by omega
 have eT:As (Ao w.heap.size w w5):=(bk.out.trans ((aW.out.trans (B4.mono ed)).mono bk.out.size)).trans (B5.mono (by omega))
 have HFI:As (FromIn a K SV ks w.heap.size (w.heap.size+1) w3.heap.size w.heap.size (w3.heap.size+1) w4.heap.size (I (J ⟨w2.heap.size,0,Z⟩) 0 T) [] [] w w5):=by
  refine⟨Lb B5 (by omega) GF,Lb B5 (by omega) e0,Lb B5 (by omega) nI,Lb B5 (by omega) e1,?_,?_,?_,eT.out⟩
  . refine⟨[],rfl,?_,fun i h1 _=>absurd h1 (by simp)⟩
    have h3:OwnR kWd w3 w2.heap.size (I (J ⟨w2.heap.size,0,Z⟩) 0 T) 0 []:=R1.out;exact((h3.below cU (Lh _)).below B5 (Lh _)).low (by omega)
  . intro k hk
    have:w2.heap.size=k:=by simpa[Value.ownBlock] using hk
    have Ig:w2.heap.size<w3.heap.size:=(R1.out.lt w2.heap.size rfl).2;exact⟨by omega,by omega,by omega,by omega,by omega⟩
  exact Ux.low (by omega)
 have f4:w4.cell? ⟨w3.heap.size+1,0,Z⟩=J (.func (.func 82) #[] #[Ak (J ⟨w.heap.size+1,0,Z⟩),Ak (J ⟨w3.heap.size,0,Z⟩),Ak (J ⟨w.heap.size,0,Z⟩),Ak (J ⟨w3.heap.size+1,0,Z⟩)]):=za e1 0 rfl;have k4:w4.cell? ⟨w.heap.size+1,0,Z⟩=J (O U K):=za GF 0 rfl;have f5:=(B5.cell (p:=⟨w3.heap.size+1,0,Z⟩) (by show w3.heap.size+1<_;omega)).trans f4;have k5:=(B5.cell (p:=⟨w.heap.size+1,0,Z⟩) (by show w.heap.size+1<_;omega)).trans k4
 have Nw:As (FromB w.heap.size (w.heap.size+1) w3.heap.size w.heap.size (w3.heap.size+1) w4.heap.size):=
  ⟨by omega,by omega,by omega,by omega,by omega,by omega,by omega,by omega,by omega,by omega,by omega,by omega⟩
 refine zz [(0,Av),(1,Av),(2,Ax),(3,Ax)]
  (fun W=>W.cell? ⟨w3.heap.size+1,0,Z⟩=J (.func (.func 82) #[] #[Ak (J ⟨w.heap.size+1,0,Z⟩),Ak (J ⟨w3.heap.size,0,Z⟩),Ak (J ⟨w.heap.size,0,Z⟩),Ak (J ⟨w3.heap.size+1,0,Z⟩)])/\W.cell? ⟨w.heap.size+1,0,Z⟩=J (O U K))
  (by kernel_rfl) (by kernel_rfl) ⟨f4,k4⟩ ?_
 repeat
  apply zg rfl
  . rintro K' ae W ⟨y0,y1⟩
    go_simp;exact ae
 refine zE rfl ?_;intro K' ae;go_simp;refine ae _ _ ⟨f5,k5⟩ ?_;refine xh rfl (by kernel_rfl) ?_;intro K' ae;go_simp;have pN:=HF.out 0 [] [] (I (J ⟨w2.heap.size,0,Z⟩) 0 T) w.heap.size (w.heap.size+1) w3.heap.size w.heap.size (w3.heap.size+1) w4.heap.size w w5 (by simp) (.inr ⟨by omega,by omega⟩) (by have:=HL.out;simp;omega) Nw.out lE.out HFI.out;refine pN.mono ?_;rintro e w6 ⟨⟨v6,rfl⟩,V6,H6⟩;rw[Nb,show yB [] (zn a K 0)=zn a K 0 by simp[yB]] at H6;refine ae (fun _=>True) _ _ trivial ?_;refine ya ?_;obtain⟨A6,c6,rfl,_,_,mp⟩:=gu H6.out;have o6:=za H6.hO 0 rfl;have dW:=zH H6.bel;have ny:=zH mp;go_wp2_with fail
 go_ret2
 exact⟨A6,c6,rfl,ny.out,dW.out⟩
end
section
open Go.RowKit
def RawL(B:Nat)(w:Ba)(A:Bb)(n:Nat)(cs:List Au):Prop:=0<n->∃b off,A=J ⟨b,off,Z⟩/\b<B/\∀(j:Nat) (u:Au),cs[j]?=J u->w.cell? ⟨b,off+j,Z⟩=J u
theorem RawL.raw{B:Nat}{w:Ba}{A:Bb}{n:Nat}{cs:List Au}(h:RawL B w A n cs)(hB:B<=w.heap.size):Raw w A n cs:=fun h0=>by
 obtain⟨b,off,e,hb,hc⟩:=h h0;exact⟨b,off,e,by omega,hc⟩
theorem RawL.keep{B:Nat}{w w':Ba}{A:Bb}{n:Nat}{cs:List Au}(h:RawL B w A n cs)(hb:Ao B w w'):RawL B w' A n cs:=fun h0=>by
 obtain⟨b,off,e,ac,hc⟩:=h h0;exact⟨b,off,e,ac,fun j u hu=>(hb.cell (p:=⟨b,_,Z⟩) ac).trans (hc j u hu)⟩
def CAtL(L0 B0:Nat)(w:Ba)(A:Bb)(xs:List Cs):Prop:=∃cs:List Au,cs.length=xs.length*3/\RawL B0 w A xs.length cs/\(∀u∈cs,u.oneCell'=Av) /\
  ∀(i:Nat) (hi:i<xs.length),∃d,cCs.lies (fun k=>L0<=k/\k<B0) w d xs[i]/\∀j u,d[j]?=J u->cs[i*3+j]?=J u
def SAtL(L0 B0:Nat)(w:Ba)(A:Bb)(xs:List (List Mv)):Prop:=∃cs:List Au,cs.length=xs.length*1/\RawL B0 w A xs.length cs/\(∀u∈cs,u.oneCell'=Av) /\
  ∀(i:Nat) (hi:i<xs.length),∃d,cMl.lies (fun k=>L0<=k/\k<B0) w d xs[i]/\∀j u,d[j]?=J u->cs[i*1+j]?=J u
section
variable {L0 B0:Nat} {w w':Ba} {A:Bb}
theorem CAtL.keep{xs:List Cs}(h:CAtL L0 B0 w A xs)(hb:Ao B0 w w'):CAtL L0 B0 w' A xs:=by
 obtain⟨cs,h1,h2,h3,h4⟩:=h;refine⟨cs,h1,h2.keep hb,h3,fun i hi=>?_⟩;obtain⟨d,h5,h6⟩:=h4 i hi;exact⟨d,xC.keep h5 ⟨hb.size,fun k hk _=>hb.block k hk.2⟩,h6⟩
theorem SAtL.keep{xs:List (List Mv)}(h:SAtL L0 B0 w A xs)(hb:Ao B0 w w'):SAtL L0 B0 w' A xs:=by
 obtain⟨cs,h1,h2,h3,h4⟩:=h;refine⟨cs,h1,h2.keep hb,h3,fun i hi=>?_⟩;obtain⟨d,h5,h6⟩:=h4 i hi;exact⟨d,qo.keep h5 ⟨hb.size,fun k hk _=>hb.block k hk.2⟩,h6⟩
theorem CAtL.raw{xs:List Cs}(h:CAtL L0 B0 w A xs)(hB:B0<=w.heap.size):∃cs:List Au,cs.length=xs.length*3/\Raw w A xs.length cs/\(∀u∈cs,u.oneCell'=Av) /\
  ∀(i:Nat) (hi:i<xs.length),∃d,cCs.lies (fun k=>L0<=k/\k<B0) w d xs[i]/\∀j u,d[j]?=J u->cs[i*3+j]?=J u:=by
 obtain⟨cs,h1,h2,h3,h4⟩:=h;exact⟨cs,h1,h2.raw hB,h3,h4⟩
theorem SAtL.raw{xs:List (List Mv)}(h:SAtL L0 B0 w A xs)(hB:B0<=w.heap.size):∃cs:List Au,cs.length=xs.length*1/\Raw w A xs.length cs/\(∀u∈cs,u.oneCell'=Av) /\
  ∀(i:Nat) (hi:i<xs.length),∃d,cMl.lies (fun k=>L0<=k/\k<B0) w d xs[i]/\∀j u,d[j]?=J u->cs[i*1+j]?=J u:=by
 obtain⟨cs,h1,h2,h3,h4⟩:=h;exact⟨cs,h1,h2.raw hB,h3,h4⟩
theorem CAtL.of{xs:List Cs}(h:CAt w B0 A xs)(hB:B0<=w.heap.size):CAtL 0 B0 w A xs:=by
 obtain⟨cs,h1,h2,h3,h4⟩:=h.raw hB;refine⟨cs,h1,fun h0=>?_,h3,fun i hi=>?_⟩
 . obtain⟨b,off,e,_,hc⟩:=h2 h0
   obtain⟨b',fa,e',cF,_⟩:=h h0;rw[e] at e';simp only[Option.some.injEq,Addr.mk.injEq,and_true] at e';exact⟨b,off,e,by omega,hc⟩
 obtain⟨d,h5,h6⟩:=h4 i hi;exact⟨d,xC.mono h5 fun k _ hk=>⟨Nu _,hk⟩,h6⟩
theorem SAtL.of{xs:List (List Mv)}(h:SAt w B0 A xs)(hB:B0<=w.heap.size):SAtL 0 B0 w A xs:=by
 obtain⟨cs,h1,h2,h3,h4⟩:=h.raw hB;refine⟨cs,h1,fun h0=>?_,h3,fun i hi=>?_⟩
 . obtain⟨b,off,e,_,hc⟩:=h2 h0
   obtain⟨b',fa,e',cF,_⟩:=h h0;rw[e] at e';simp only[Option.some.injEq,Addr.mk.injEq,and_true] at e';exact⟨b,off,e,by omega,hc⟩
 obtain⟨d,h5,h6⟩:=h4 i hi;exact⟨d,qo.mono h5 fun k _ hk=>⟨Nu _,hk⟩,h6⟩
end
end
section
open Go.RowKit
attribute [local go_sem] Oper.semAt_some
structure CpIn(B:Nat)(p:Pb)(A:Bb)(kc:Nat)(SV:Bb)(ks:Nat)(Af:Array Au)(w W:Ba):Prop where
 bel:Ao B w W
 b0:W.heap[B]?=J (Ah (p.vs A kc SV ks) 29 (0,0))
 b1:W.heap[B+1]?=J (Ah Af 29 (0,0))
def Nbx(L0 B0 B k:Nat):Prop:=k≠B/\k≠B+1/\((L0<=k/\k<B0)\/B<=k)
theorem CpIn.on{B:Nat}{p:Pb}{A:Bb}{kc:Nat}{SV:Bb}{ks:Nat}{Af:Array Au}{w W W':Ba}(h:CpIn B p A kc SV ks Af w W)(hb:Ao W.heap.size W W'):CpIn B p A kc SV ks Af w W':=by
 have:=zd h.b1;exact⟨h.bel.trans (hb.mono (by omega)),Lb hb (by omega) h.b0,Lb hb (by omega) h.b1⟩
theorem CpIn.set{B:Nat}{p:Pb}{A:Bb}{kc:Nat}{SV:Bb}{ks:Nat}{Af:Array Au}{w W:Ba}(h:CpIn B p A kc SV ks Af w W){g:Nat}(hg:B+1<g)(o:Nat)(v:Au):CpIn B p A kc SV ks Af w (W.setCell ⟨g,o,Z⟩ v):=
 ⟨h.bel.setCell (by show B<=g;omega) _,(Lf W _ v B (by show B≠g;omega)).trans h.b0,(Lf W _ v (B+1) (by show B+1≠g;omega)).trans h.b1⟩
theorem Qp(p:Pb)(hf:ZZ p)(hc1:1<=p.t.cases.length)(bI:1<=p.a.sts.length)(A:Bb)(kc:Nat)(SV:Bb)(ks:Nat)(w:Ba)(L0 B0:Nat)(aX:B0<=w.heap.size)(hA:CAtL L0 B0 w A p.t.cases)(hS:SAtL L0 B0 w SV p.a.sts) :
  Ap An 50 #[.agg (p.vs A kc SV ks)] w fun e w'=>∃g UD gm UC,e=Am (.agg (p.vs (J ⟨g,0,Z⟩) UD (J ⟨gm,0,Z⟩) UC))/\RowX cCs (fun b=>(L0<=b/\b<B0)\/w.heap.size<=b) w' g p.t.cases/\RowX cMl (fun b=>(L0<=b/\b<B0)\/w.heap.size<=b) w' gm p.a.sts/\w.heap.size<=g/\w.heap.size<=gm/\Ao w.heap.size w w':=by
 have hfc:=hf.1.1;have FE:=hf.2.1;obtain⟨w1,ah,d0,d1,bn,hBw⟩:=zZ w (p.vs A kc SV ks) #[O U 0,O U 0,O U 0,I Z 0 0,O U 0,I Z 0 0,O U 0] 29 29;have tx:=hBw.mono aX;have HS:=zH (hS.keep tx);have Hb:B0<=w1.heap.size:=by have:=hBw.size;omega
 obtain⟨KY,K6,KZ,K8,K7⟩:=(hA.keep tx).raw Hb;have HC:=zH (clone_kCs A p.t.cases.length kc KY w1 K6 KZ K8 (by omega));have bk:=zH hBw;have bu:=zH d0;have bQ:=zH d1;have Gu:=zH K7;have HFT:=zH hf.1;have HFA:=zH hf.2;unfold Pb.vs at ah d0;have p3:=za d0 3 rfl;have f3:=zb d0 3;have aq:=zH ah;clear ah d0 d1 hBw tx;unfold Pb.vs;go_enter func50,ntmps50;go_wp2_with fail;rw[aq.out];refine HC.out.mono ?_;rintro e w2 ⟨v2,rfl,cI,af⟩;obtain⟨A2,c2,rfl,hc2,fI,ig⟩:=cI.form;obtain⟨g,rfl,_,cJ,_⟩:=ig (by omega);have Dh:w1.heap.size<=g:=(cI.lt g rfl).1;have ed:=af.size;have fK:w.heap.size+1<g:=by omega
 have R2:RowX cCs (Nbx L0 B0 w.heap.size) w2 g p.t.cases:=RowX.of_own xC cI rfl rfl (fun i hi=>by
  obtain⟨d,h1,h2⟩:=Gu.out i hi
  refine⟨d,xC.mono (xC.keep h1 ⟨af.size,fun k hk _=>af.block k (by omega)⟩) fun k _ hk=>⟨⟨by omega,by omega⟩,by omega⟩,h2⟩)
 have D0:=La af bu.out;have D1:=La af bQ.out;have p3:=za D0 3 rfl;have f3:=zb D0 3;obtain⟨W3,bP⟩:=Kh (w2.setCell ⟨w.heap.size,3,Z⟩ (I (J ⟨g,0,Z⟩) p.t.cases.length c2))
 have H3:As (CpIn w.heap.size p (J ⟨g,0,Z⟩) c2 SV ks #[O U 0,O U 0,O U 0,I Z 0 0,O U 0,I Z 0 0,O U 0] w W3):=by
  rw[<-bP];refine⟨(bk.out.trans (af.mono (by omega))).setCell (Lh _) _,?_,(Lf w2 _ _ (w.heap.size+1) (by show w.heap.size+1≠w.heap.size;omega)).trans D1⟩;rw[Lk w2 w.heap.size 3 _ _ _ D0]
  rfl
 have R3:As (RowX cCs (Nbx L0 B0 w.heap.size) W3 g p.t.cases):=by rw[<-bP];exact R2.other xC 3 _ (by omega) (fun h=>h.1 rfl)
 have ez:As (SAtL L0 B0 W3 SV p.a.sts):=HS.out.keep (by
  rw[<-bP]
  exact((Below.mono af (show w.heap.size<=w1.heap.size by omega)).setCell (Lh _) _).mono aX)
 have q3:W3.cell? ⟨w.heap.size,3,Z⟩=J (I (J ⟨g,0,Z⟩) p.t.cases.length c2):=za H3.out.b0 3 rfl;clear R2 D0 D1 cI af hc2 fI HC Gu;go_wp2_with fail;clear p3 f3 bP q3
 go_loopw [17] (fun i wr=>∃k:Nat,k<=p.t.cases.length/\i=O U (k:Int)/\As (CpIn w.heap.size p (J ⟨g,0,Z⟩) c2 SV ks #[O U 0,O U 0,O U 0,I Z 0 0,O U 0,I Z 0 0,O U 0] w wr)/\As (RowX cCs (Nbx L0 B0 w.heap.size) wr g p.t.cases)/\As (SAtL L0 B0 wr SV p.a.sts)) (fun i _=>p.t.cases.length-(Aq i).toNat)
 case atStart=>exact⟨0,by omega,rfl,H3.out,R3.out,ez.out⟩
 obtain⟨k,hk,rfl,HI,HR,TC⟩:=hrel
 by_cases dv:k<p.t.cases.length
 case neg=>
  obtain rfl:k=p.t.cases.length:=by omega
  have b0:=HI.out.b0;have q5:wr.cell? ⟨w.heap.size,5,Z⟩=J (I SV p.a.sts.length ks):=za b0 5 rfl;have pZ:=HI.out.bel.size;obtain⟨KY,K6,KZ,K8,K7⟩:=TC.out.raw (by omega);have HC:=zH (clone_kMl SV p.a.sts.length ks KY wr K6 KZ K8 (by omega));have Gu:=zH K7;have aM:=zd HI.out.b1;go_wp2_with fail;refine HC.out.mono ?_;rintro e AD ⟨v2,rfl,cI,af⟩;obtain⟨A2,c3,rfl,_,_,ig⟩:=cI.form;obtain⟨gm,rfl,_,VF,_⟩:=ig (by omega);have VJ:wr.heap.size<=gm:=(cI.lt gm rfl).1;have Bp:g<wr.heap.size:=HR.out.lt
  have R2:RowX cMl (fun b=>Nbx L0 B0 w.heap.size b/\b≠g) AD gm p.a.sts:=RowX.of_own qo cI rfl rfl (fun i hi=>by
   obtain⟨d,h1,h2⟩:=Gu.out i hi
   exact⟨d,qo.mono (qo.keep h1 ⟨af.size,fun k hk _=>af.block k (by omega)⟩) fun k _ hk=>⟨⟨⟨by omega,by omega⟩,by omega⟩,by omega⟩,h2⟩)
  have I2:=HI.out.on af;have GJ:AD.cell? ⟨w.heap.size,5,Z⟩=J (I SV p.a.sts.length ks):=za I2.b0 5 rfl;have f5':=zb I2.b0 5;have RC:RowX cCs (fun b=>Nbx L0 B0 w.heap.size b/\b≠gm) AD g p.t.cases:=(HR.out.mono xC fun b hb hs=>⟨hs,by omega⟩).below xC af (Lh _);obtain⟨W3,bP⟩:=Kh (AD.setCell ⟨w.heap.size,5,Z⟩ (I (J ⟨gm,0,Z⟩) p.a.sts.length c3))
  have H3:As (CpIn w.heap.size p (J ⟨g,0,Z⟩) c2 (J ⟨gm,0,Z⟩) c3 #[O U 0,O U 0,O U 0,I Z 0 0,O U 0,I Z 0 0,O U 0] w W3):=by
   rw[<-bP];refine⟨I2.bel.setCell (Lh _) _,?_,(Lf AD _ _ (w.heap.size+1) (by show w.heap.size+1≠w.heap.size;omega)).trans I2.b1⟩;rw[Lk AD w.heap.size 5 _ _ _ I2.b0]
   rfl
  have R3:As (RowX cMl (fun b=>Nbx L0 B0 w.heap.size b/\b≠g) W3 gm p.a.sts):=by rw[<-bP];exact R2.other qo 5 _ (by omega) (fun h=>h.1.1 rfl)
  have RC3:As (RowX cCs (fun b=>Nbx L0 B0 w.heap.size b/\b≠gm) W3 g p.t.cases):=by rw[<-bP];exact RC.other xC 5 _ (by omega) (fun h=>h.1.1 rfl)
  have q6:W3.cell? ⟨w.heap.size,5,Z⟩=J (I (J ⟨gm,0,Z⟩) p.a.sts.length c3):=za H3.out.b0 5 rfl;go_wp2_with fail
  go_loopw [48] (fun i wx=>∃k:Nat,k<=p.a.sts.length/\i=O U (k:Int)/\As (CpIn w.heap.size p (J ⟨g,0,Z⟩) c2 (J ⟨gm,0,Z⟩) c3 #[O U 0,O U 0,O U 0,I Z 0 0,O U 0,I Z 0 0,O U 0] w wx)/\As (RowX cMl (fun b=>Nbx L0 B0 w.heap.size b/\b≠g) wx gm p.a.sts)/\As (RowX cCs (fun b=>Nbx L0 B0 w.heap.size b/\b≠gm) wx g p.t.cases)) (fun i _=>p.a.sts.length-(Aq i).toNat)
  case atStart=>exact⟨0,by omega,rfl,H3.out,R3.out,RC3.out⟩
  obtain⟨k,hk,rfl,HI,HR,tP⟩:=hrel
  by_cases dv:k<p.a.sts.length
  case neg=>
   obtain rfl:k=p.a.sts.length:=by omega
   have b0:=HI.out.b0;have b1:=HI.out.b1;have c0:wr.cell? ⟨w.heap.size,0,Z⟩=J (O U p.t.n):=za b0 0 rfl;have c1:wr.cell? ⟨w.heap.size,1,Z⟩=J (O U p.t.ins):=za b0 1 rfl;have Lt:wr.cell? ⟨w.heap.size,2,Z⟩=J (O U p.t.outs):=za b0 2 rfl;have DZ:wr.cell? ⟨w.heap.size,3,Z⟩=J (I (J ⟨g,0,Z⟩) p.t.cases.length c2):=za b0 3 rfl;have c4:wr.cell? ⟨w.heap.size,4,Z⟩=J (O U p.a.n):=za b0 4 rfl;have c5:wr.cell? ⟨w.heap.size,5,Z⟩=J (I (J ⟨gm,0,Z⟩) p.a.sts.length c3):=za b0 5 rfl;have c6:wr.cell? ⟨w.heap.size,6,Z⟩=J (O U p.k):=za b0 6 rfl;obtain⟨e0,e1,e2,e3,e4,e5,e6,_⟩:=Kf b1;have z0:=zb b1 0;have z1:=zb b1 1;have z2:=zb b1 2;have z3:=zb b1 3;have z4:=zb b1 4;have z5:=zb b1 5;have z6:=zb b1 6;clear b0 b1;have Nx:=zH HI.out.bel;have oD:=zH tP.out;have dz:=zH HR.out;have VI:=tP.out.lt;have pg:=HR.out.lt;have VH:w.heap.size+1<gm:=by omega
   have tT:=zH (fun (o:Nat) (v:Au) (W:Ba) (h:RowX cCs (fun b=>Nbx L0 B0 w.heap.size b/\b≠gm) W g p.t.cases)=>h.other xC o v (show w.heap.size+1≠g by omega) (fun h=>h.1.2.1 rfl));have pH:=zH (fun (o:Nat) (v:Au) (W:Ba) (h:RowX cMl (fun b=>Nbx L0 B0 w.heap.size b/\b≠g) W gm p.a.sts)=>h.other qo o v (show w.heap.size+1≠gm by omega) (fun h=>h.1.2.1 rfl));clear HI HR tP;go_wp2_with fail;refine Na (v:=.agg (p.vs (J ⟨g,0,Z⟩) c2 (J ⟨gm,0,Z⟩) c3)) (by simp[results,results50,go_sem,e0,e1,e2,e3,e4,e5,e6,Pb.vs]) rfl ?_;refine⟨g,c2,gm,c3,rfl,?_,?_,by omega,by omega,?_⟩
   . refine RowX.mono (S:=fun b=>Nbx L0 B0 w.heap.size b/\b≠gm) xC ?_ (fun b _ hs=>hs.1.2.2)
     exact tT.out _ _ _ (tT.out _ _ _ (tT.out _ _ _ (tT.out _ _ _ (tT.out _ _ _ (tT.out _ _ _ (tT.out _ _ _ (oD.out)))))))
   . refine RowX.mono (S:=fun b=>Nbx L0 B0 w.heap.size b/\b≠g) qo ?_ (fun b _ hs=>hs.1.2.2)
     exact pH.out _ _ _ (pH.out _ _ _ (pH.out _ _ _ (pH.out _ _ _ (pH.out _ _ _ (pH.out _ _ _ (pH.out _ _ _ (dz.out)))))))
   have sO:w.heap.size<=w.heap.size+1:=by omega
   exact(((((((Nx.out).setCell sO _).setCell sO _).setCell sO _).setCell sO _).setCell sO _).setCell sO _).setCell sO _
  obtain⟨dr,dS,dI⟩:=HR.out;obtain⟨cs,⟨A0,k0,rfl,i0⟩,bq⟩:=dI k dv
  have x0:wr.cell? ⟨gm,k,Z⟩=J (I A0 p.a.sts[k].length k0):=by
   have:=bq 0 _ rfl;change dr[k*1+0]?=_ at this;exact za dS _ (by rw[<-this];congr 1;omega)
  have cq:(0:Int)<=(k:Int):=by omega
  have cy:(k:Int)<(p.a.sts.length:Int):=by omega
  have pf:gm<wr.heap.size:=zd dS;have FU:=zd HI.out.b1;have nc:=HFA.out.each (Ld dv);obtain⟨x,hx⟩:=Kh (p.a.sts[k]);have pD:=zH hx;rw[hx] at x0 i0 nc;have HC:=zH (clone_kMv A0 x.length k0 (qA x) wr.drew (jn x) (XI (w:=wr.drew) i0.mat) (XL x) (by omega));have q5:wr.cell? ⟨w.heap.size,5,Z⟩=J (I (J ⟨gm,0,Z⟩) p.a.sts.length c3):=za HI.out.b0 5 rfl;go_wp2_with fail
  refine zz [(0,Av),(1,Av),(2,Av),(3,Av),(4,Av),(5,Ax),(6,Ax),(7,Ax)]
   (fun W=>W.cell? ⟨w.heap.size,5,Z⟩=J (I (J ⟨gm,0,Z⟩) p.a.sts.length c3)) (by kernel_rfl) (by kernel_rfl) (by exact q5) ?_
  repeat
   apply zg rfl
   . rintro K' ae W y0
     go_simp;exact ae
  refine zE rfl ?_;intro K' ae;go_simp;refine HC.out.mono ?_;rintro e w5 ⟨v5,rfl,mZ,cd⟩;have cd:Ao wr.heap.size wr w5:=vK cd;have mZ:OwnR kMv w5 wr.heap.size v5 x.length (qA x):=mZ;obtain⟨A5,c5,rfl,_,_,iR⟩:=XJ mZ;have I5:=HI.out.on cd;have GJ:w5.cell? ⟨w.heap.size,5,Z⟩=J (I (J ⟨gm,0,Z⟩) p.a.sts.length c3):=za I5.b0 5 rfl;refine ae _ _ GJ ?_;refine zE rfl ?_;intro K' ae;go_simp;refine ae _ _ GJ ?_;clear ae K';have HR5:=HR.out.below qo cd (Lh _);obtain⟨dr,dS,dI⟩:=HR5;obtain⟨cs,⟨Q0,n0,rfl,_⟩,bq⟩:=dI k dv
  have x1:w5.cell? ⟨gm,k,Z⟩=J (I Q0 p.a.sts[k].length n0):=by
   have:=bq 0 _ rfl;change dr[k*1+0]?=_ at this;exact za dS _ (by rw[<-this];congr 1;omega)
  have y1:=zb dS k
  have hX:cMl.lies (fun b=>(fun b=>Nbx L0 B0 w.heap.size b/\b≠g) b/\b≠gm) w5 [I A5 x.length c5] p.a.sts[k]:=by
   rw[pD.out];have cJ:=tP.out.lt;exact⟨A5,c5,rfl,iR.mono fun b _ hb=>⟨⟨⟨by omega,by omega⟩,by omega⟩,by omega⟩⟩
  have MC:=zH (RowX.set1 qo rfl (HR.out.below qo cd (Lh _)) dv hX);have DN:w.heap.size+1<gm:=by omega
  have MV:=zH (I5.set DN k (I A5 x.length c5));have IJ:gm≠g:=by omega
  have MG:=zH ((tP.out.below xC cd (Lh _)).other xC k (I A5 x.length c5) IJ (fun h=>h.2 rfl));refine xh rfl (by kernel_rfl) ?_;intro K' ae;go_simp;refine ae (fun _=>True) _ _ trivial ?_;refine ya ?_;go_wp2_with fail
  go_roundw
  case rel=>exact⟨k+1,by omega,by go_num,MV,MC,MG⟩
  simp[Aq];omega
 obtain⟨dr,dS,dI⟩:=HR.out;obtain⟨cs,⟨A0,k0,A1,k1,A2,k2,rfl,i0,l1,l2⟩,bq⟩:=dI k dv;have x0:wr.cell? ⟨g,k*3,Z⟩=J (I A0 p.t.cases[k].inp.length k0):=za dS _ (bq 0 _ rfl);have x1:wr.cell? ⟨g,k*3+1,Z⟩=J (I A1 p.t.cases[k].out.length k1):=za dS _ (bq 1 _ rfl);have x2:wr.cell? ⟨g,k*3+2,Z⟩=J (I A2 p.t.cases[k].calm.length k2):=za dS _ (bq 2 _ rfl);have cq:(0:Int)<=(k:Int):=by omega
 have cy:(k:Int)<(p.t.cases.length:Int):=by omega
 have pf:g<wr.heap.size:=zd dS;have FU:=zd HI.out.b1;have BR:=HFT.out.2 p.t.cases[k] (Ld dv);obtain⟨x,hx⟩:=Kh (p.t.cases[k]);have pD:=zH hx;rw[hx] at x0 x1 x2 i0 l1 l2 BR;go_wp2_with fail;obtain⟨W4,pt,g0,lJ,cU⟩:=zt wr #[I A0 x.inp.length k0,I A1 x.out.length k1,I A2 x.calm.length k2] 118;rw[pt];have H4:=HI.out.on cU;have p4:W4.cell? ⟨w.heap.size,3,Z⟩=J (I (J ⟨g,0,Z⟩) p.t.cases.length c2):=za H4.b0 3 rfl;have M7:=zH i0.iat;have EG:=zH l1.lat;have BT:=zH l2.lat;have fP:=zH cU;have oy:=zH g0;have hN0:w.heap.size<W4.heap.size:=by omega
 clear i0 l1 l2 cU H4
 refine zz [(0,Av),(1,Av),(2,Av),(3,Av),(4,Av),(5,Av),(7,Av),(8,Av),(10,Av),(11,Av),(6,Ax),(9,Ax),(12,Ax),(13,Ax),(14,Ax),(15,Ax)]
  (fun W=>W.cell? ⟨w.heap.size,3,Z⟩=J (I (J ⟨g,0,Z⟩) p.t.cases.length c2)/\W.heap[wr.heap.size]?=J (Ah #[I A0 x.inp.length k0,I A1 x.out.length k1,I A2 x.calm.length k2] 118 (0,0)))
  (by kernel_rfl) (by kernel_rfl) ⟨p4,g0⟩ ?_
 repeat
  apply zg rfl
  . rintro K' ae W ⟨y0,y1⟩
    have z0:W.cell? ⟨wr.heap.size,0,Z⟩=J (I A0 x.inp.length k0):=za y1 0 rfl;have z1:W.cell? ⟨wr.heap.size,1,Z⟩=J (I A1 x.out.length k1):=za y1 1 rfl;have z2:W.cell? ⟨wr.heap.size,2,Z⟩=J (I A2 x.calm.length k2):=za y1 2 rfl;clear y1;go_simp;exact ae
 clear p4 g0;have G':=fP.out.size
 -- the inputs
 refine zE rfl ?_;intro K' ae;go_simp;refine(gg A0 k0 x.inp W4.drew (((M7.out.keep fP.out).more G')) (by have:=BR.1;omega)).mono ?_;rintro e w5 ⟨A5,c5,rfl,IE,cd⟩;have cd:Ao W4.heap.size W4 w5:=vK cd;have eT:=zH cd;have IE:IAtS (fun b=>W4.heap.size<=b) w5 A5 x.inp:=IE;have t6:=zH IE;have UL:=cd.size;have E5:Ao wr.heap.size wr w5:=fP.out.trans (cd.mono (by omega));refine ae _ _ ⟨za (HI.out.on E5).b0 3 rfl,Lb cd (by omega) oy.out⟩ ?_
 -- the outputs
 refine zE rfl ?_;intro K' ae;go_simp;refine(vW A1 k1 x.out w5 ((EG.out.keep E5).more E5.size) (by have:=BR.2.1.1;omega) (fun v hv=>by have:=BR.2.1.2 v hv;omega)).mono ?_;rintro e w6 ⟨v6,rfl,sG,dp⟩;obtain⟨A6,c6,rfl,_,_,Fv⟩:=YY sG;have dW:=zH dp;have BS:=zH Fv;have GZ:=dp.size;have E6:Ao wr.heap.size wr w6:=Lc E5 dp;refine ae _ _ ⟨za (HI.out.on E6).b0 3 rfl,Lb dp (by omega) (Lb eT.out (by omega) oy.out)⟩ ?_
 -- the calm ones
 refine zE rfl ?_;intro K' ae;go_simp;refine(vW A2 k2 x.calm w6 ((BT.out.keep E6).more E6.size) (by have:=BR.2.2.1;omega) (fun v hv=>by have:=BR.2.2.2 v hv;omega)).mono ?_;rintro e w7 ⟨v7,rfl,Bd,eK⟩;obtain⟨A7,c7,rfl,_,_,O9⟩:=YY Bd;have lm:=zH eK;have HL7:=zH O9;have E7:Ao wr.heap.size wr w7:=Lc E6 eK;have Ub:=zH E7;refine ae _ _ ⟨za (HI.out.on E7).b0 3 rfl,Lb eK (by omega) (Lb dW.out (by omega) (Lb eT.out (by omega) oy.out))⟩ ?_;have rR:=zH (HR.out.below xC E7 (Lh _));obtain⟨dr,dS,dI⟩:=rR.out;obtain⟨cs,⟨Q0,n0,B1,n1,B2,n2,rfl,_,_,_⟩,bq⟩:=dI k dv;have x0:w7.cell? ⟨g,k*3,Z⟩=J (I Q0 p.t.cases[k].inp.length n0):=za dS _ (bq 0 _ rfl);have x1:w7.cell? ⟨g,k*3+1,Z⟩=J (I B1 p.t.cases[k].out.length n1):=za dS _ (bq 1 _ rfl);have x2:w7.cell? ⟨g,k*3+2,Z⟩=J (I B2 p.t.cases[k].calm.length n2):=za dS _ (bq 2 _ rfl);have y0:=zb dS (k*3);have y1:=zb dS (k*3+1);have y2:=zb dS (k*3+2);have q3:w7.cell? ⟨w.heap.size,3,Z⟩=J (I (J ⟨g,0,Z⟩) p.t.cases.length c2):=za (HI.out.on E7).b0 3 rfl;have TV:=zH ((eK.block wr.heap.size (by omega)).trans (Lb dW.out (by omega) (Lb eT.out (by omega) oy.out)));refine zE rfl ?_;intro K' ae;go_simp;refine ae _ _ ⟨q3,TV.out⟩ ?_;refine zE rfl ?_;intro K' ae;go_simp;refine ae _ _ ⟨q3,TV.out⟩ ?_;refine xh rfl (by kernel_rfl) ?_;intro K' ae;go_simp
 refine ae (fun _=>True) _ _ trivial ?_;refine ya ?_
 have hX:cCs.lies (fun b=>Nbx L0 B0 w.heap.size b/\b≠g) w7 [I A5 x.inp.length c5,I A6 x.out.length c6,I A7 x.calm.length c7] p.t.cases[k]:=by
  rw[pD.out];refine⟨A5,c5,A6,c6,A7,c7,rfl,?_,?_,?_⟩
  . exact(t6.out.on (dW.out.trans (lm.out.mono GZ))).mono fun b _ hb=>⟨⟨by omega,by omega⟩,by omega⟩
  . exact(BS.out.on lm.out).mono fun b _ hb=>⟨⟨by omega,by omega⟩,by omega⟩
  exact HL7.out.mono fun b _ hb=>⟨⟨by omega,by omega⟩,by omega⟩
 have MC:=zH (rR.out.set3 dv hX);have DN:w.heap.size+1<g:=fK;have MV:=zH ((((HI.out.on Ub.out).set DN (k*3) (I A5 x.inp.length c5)).set DN (k*3+1) (I A6 x.out.length c6)).set DN (k*3+2) (I A7 x.calm.length c7))
 have HSn:As (SAtL L0 B0 (((w7.setCell ⟨g,k*3,Z⟩ (I A5 x.inp.length c5)).setCell ⟨g,k*3+1,Z⟩ (I A6 x.out.length c6)).setCell ⟨g,k*3+2,Z⟩ (I A7 x.calm.length c7)) SV p.a.sts):=
  TC.out.keep (((((Ub.out.mono (by omega:w.heap.size<=wr.heap.size)).setCell (by show w.heap.size<=g;omega) _).setCell (by show w.heap.size<=g;omega) _).setCell (by show w.heap.size<=g;omega) _).mono aX)
 go_wp2_with fail
 go_roundw
 case rel=>exact⟨k+1,by omega,by go_num,MV,MC,HSn⟩
 simp[Aq];omega
theorem zJ{p:Pb}(h:zC p=0):yA p.t=0/\xM p.a=0/\p.t.n=p.a.n/\0<=p.k/\p.k<=6:=by
 by_cases h1:yA p.t=0
 case neg=>rw[jB h1] at h;exact absurd h h1
 by_cases h2:xM p.a=0
 case neg=>rw[vu h1 h2] at h;exact absurd h h2
 by_cases h3:p.t.n=p.a.n
 case neg=>rw[ZF h1 h2 h3] at h;cases h
 by_cases h4:p.k<0\/6<p.k
 . rw[ZG h1 h2 h3 h4] at h;cases h
 exact⟨h1,h2,h3,by omega,by omega⟩
theorem yt{t:Tk}(h:yA t=0):1<=t.cases.length/\1<=t.n/\t.n<=5:=by
 unfold yA at h
 split at h
 . cases h
 split at h
 . cases h
 omega
def zK(p:Pb):Nat:=zG p.a p.k.toNat 0*p.t.cases.length
def jJ(p:Pb):Int×Int:=if zC p≠0 then (0,zC p) else ja 1048576 (zK p)
theorem Qo(p:Pb)(hf:ZZ p)(A:Bb)(kc:Nat)(SV:Bb)(ks:Nat)(w:Ba)(hA:CAt w w.heap.size A p.t.cases)(hS:SAt w w.heap.size SV p.a.sts) :
  Ap An 15 #[.agg (p.vs A kc SV ks)] w fun e w'=>e=Am (.tuple #[O U (jJ p).1,O U (jJ p).2])/\Ao w.heap.size w w':=by
 have HP:=zH (fun (w':Ba) (h:CAt w' w'.heap.size A p.t.cases) (h2:SAt w' w'.heap.size SV p.a.sts)=>XC p hf A kc SV ks w' h h2);have HF:=zH (@zJ p);have lT:=hf.1.1;have B9:=zH (fun (h:xM p.a=0) (K:Nat) (hK:K<=6) (w':Ba) (h':SAt w' w'.heap.size SV p.a.sts)=>Xa p.a hf.2 h K hK SV ks w' h');have ay:As (zC p≠0->jJ p=(0,zC p)):=fun h=>Ln h
 have al:As (zC p=0->jJ p=ja 1048576 (zK p)):=fun h=>Lj (by simpa using h)
 obtain⟨E,hE⟩:=Kh (jJ p);rw[hE] at ay al ⊢;obtain⟨pe,fH⟩:=Kh (zC p);rw[fH] at ay al HF HP;obtain⟨w1,ah⟩:=Kh (w.alloc (Ah (p.vs A kc SV ks) 29));have aI:=zh w (Ah (p.vs A kc SV ks) 29);have am:Ao w.heap.size w w1:=by rw[<-ah];exact zw w _
 have co:w1.heap.size=w.heap.size+1:=by rw[<-ah];simp
 rw[ah] at aI;unfold Pb.vs at ah aI HP ⊢;have bK:=zH aI;have aY:=zH am;have HA:=zH ((hA.keep am).more (by omega:w.heap.size<=w1.heap.size));have HS:=zH ((hS.keep am).more (by omega:w.heap.size<=w1.heap.size));have aq:=zH ah;have q3:=za aI 3 rfl;have q5:=za aI 5 rfl;have q6:=za aI 6 rfl;clear hA hS ah am aI;go_enter func15,ntmps15;go_wp2_with fail;rw[aq.out];go_wp2_with fail;refine(HP.out w1 HA.out HS.out).mono ?_;rintro e w2 ⟨rfl,af⟩;have B2:=zH (aY.out.trans (af.mono (by omega)));have dg:=zH ((HS.out.keep af).more af.size);have aN:=La af bK.out;have aW:=zH aN;have dX:=af.size;clear af HP aq q3 q5 q6;have q4:=za aN 4 rfl;have q5:=za aN 5 rfl;have q6:=za aN 6 rfl;clear aN
 by_cases h1:pe=0
 case neg=>
  have hR:=zH (ay.out h1);have e0:(pe != 0)=Av:=by simpa using h1
  clear ay al h1 HF B9;go_wp2_with fail
  go_ret2
  rw[hR.out];exact⟨rfl,B2.out⟩
 case pos=>
 have hR:=zH (al.out h1);obtain⟨f1,f2,f3,f4,f5⟩:=HF.out h1;obtain⟨K,hk⟩:=Lr f4;have HN:=zH (B9.out f2 K (by omega));obtain⟨c1,_⟩:=yt f1;rw[hk] at q6;have hx:zK p=zG p.a K 0*p.t.cases.length:=by unfold zK;rw[hk];rfl
 rw[hx] at hR;subst h1;obtain⟨T,hT⟩:=Kh (zG p.a K 0);rw[hT] at HN hR;clear ay al HF B9 f1 f2 f3 f4 hx hT;go_wp2_with fail;refine(HN.out w2 dg.out).mono ?_;rintro e w3 ⟨rfl,ap⟩;have B3:=zH (B2.out.trans (ap.mono (by omega)));have aN:=La ap aW.out;have q3:=za aN 3 rfl;obtain⟨cn,s'⟩:=Kh p.t.cases.length;rw[s'] at q3 c1 lT hR
 by_cases hg:1048576<T
 . have hm:1048576<T*cn:=LE hg (Pm T c1)
   have fN:As (E=(0,17)):=hR.out.trans (Ln hm);have hC:ja 1048576 T=(0,17):=Ln hg;rw[hC];go_wp2_with fail
   go_ret2
   rw[fN.out];exact⟨rfl,B3.out⟩
 have hC:ja 1048576 T=((T:Int),0):=Lj hg;rw[hC];have sJ:T*cn<=1048576*30:=NY (by omega) lT;have hw:IntKind.i64.wrap ((T:Int)*(cn:Int))=((T*cn:Nat):Int):=by rw[Lw,<-Int.natCast_mul];omega
 obtain⟨m,hm⟩:=Kh (T*cn);rw[hm] at hR sJ hw
 by_cases hg:1048576<m
 . have fN:As (E=(0,17)):=hR.out.trans (Ln hg)
   go_wp2_with fail
   all_goals first | (exfalso;omega) | skip
   go_ret2
   rw[fN.out];exact⟨rfl,B3.out⟩
 have fN:As (E=((m:Int),0)):=hR.out.trans (Lj hg);go_wp2_with fail
 all_goals first | (exfalso;omega) | skip
 go_ret2
 rw[fN.out];exact⟨by first | rfl | rw[hw],B3.out⟩
end
section
open Go.RowKit Go.Shelf
def xY(p:Pb):Prop:=ZZ p/\(zC p=0->zK p<=60\/4096<zK p)
def zD(p:Pb):Sy×Int:=if zC p≠0 then (xW,zC p) else if 4096<zK p then (xW,17) else (zq p,0)
theorem xm{p:Pb}(h:zC p≠0):zD p=(xW,zC p):=Ln h
theorem yW{p:Pb}(h:zC p=0)(h2:4096<zK p):zD p=(xW,17):=by unfold zD;rw[Lj (by simpa using h),Ln h2]
theorem xr{p:Pb}(h:zC p=0)(h2:zK p<=4096):zD p=(zq p,0):=by unfold zD;rw[Lj (by simpa using h),Lj (by omega)]
def kZ(zi:List (List Rd))(l:List (Nat×Nat)):List (Nat×List Rd):=l.map fun x=>(x.1,zi.getD x.2 [])
theorem JI(zi:List (List Rd))(l:List (Nat×Nat))(x:Nat×Nat):kZ zi (l++[x])=kZ zi l++[(x.1,zi.getD x.2 [])]:=by simp[kZ]
theorem prsW_row(zi:List (List Rd))(i:Nat):kZ zi ((List.range zi.length).map fun j=>(i,j))=zi.map fun w=>(i,w):=by
 unfold kZ;rw[N3];refine Pt (by simp) fun j h1 h2=>?_
 simp at h1;simp[h1]
theorem Ys(zi:List (List Rd)):∀(m i:Nat),kZ zi (zA zi.length i m)=(List.range m).flatMap fun d=>zi.map fun w=>(i+d,w)
 | 0,_=>rfl
 | m+1,i=>by
  rw[zA,kZ,LI];have h1:=prsW_row zi i;have h2:=Ys zi m (i+1);unfold kZ at h1 h2;rw[h1,h2,List.range_succ_eq_map,Ny,List.flatMap_map]
  have e:(fun d=>zi.map fun w=>(i+1+d,w))=(fun d=>zi.map fun w=>(i+(d+1),w)):=by
   funext d;rw[show i+1+d=i+(d+1) by omega]
  rw[e];rfl
theorem gZ(p:Pb)(K:Nat)(hK:p.k=(K:Int)):kZ (zn p.a K 0) (zA (zn p.a K 0).length 0 p.t.cases.length)=zk p:=by
 rw[Ys];unfold zk;rw[hK]
 have e:(fun d=>(zn p.a K 0).map fun w=>(0+d,w))=(fun d=>(zn p.a ((K:Int).toNat) 0).map fun w=>(d,w)):=by
  funext d;rw[LM];rfl
 rw[e]
theorem km(n:Nat):∀(m i:Nat),(zA n i m).length=m*n
 | 0,_=>by simp[zA]
 | m+1,i=>by rw[zA,Lq,km n m (i+1)];simp;rw[Pz];omega
theorem xP(p:Pb)(l:List (Nat×List Rd)):(zo p l).2.length=l.length:=by
 have key:∀n,n<=l.length->(zo p (l.take n)).2.length=n:=by
  intro n
  induction n with
  | zero=>intro _;rfl
  | succ n ih=>
   intro hl;rw[Lu (by omega),xI,Lq,ih (by omega)];rfl
 have:=key l.length (Lh _);rwa[LD] at this
theorem wl(p:Pb)(hn:p.t.n.toNat<=5)(l:List (Nat×List Rd))(h:∀x∈l,x.2.length<=6):(zo p l).1.length<=l.length*35:=by
 have key:∀n,n<=l.length->(zo p (l.take n)).1.length<=n*35:=by
  intro n
  induction n with
  | zero=>intro _;simp[kj]
  | succ n ih=>
   intro hl;rw[Lu (by omega),xI];have h1:=ih (by omega);obtain⟨x,hx⟩:=Kh (l[n]);have h3:=h l[n] (Ld _);rw[hx] at h3 ⊢;have h2:=qG (zo p (l.take n)).1 p.t.n.toNat (zW p x.1) x.2 x.2.length;have h4:(x.2.length+1)*p.t.n.toNat<=7*5:=NY (by omega) hn;dsimp only;omega
 have:=key l.length (Lh _);rwa[LD] at this
end
section
open Go.RowKit Go.Shelf
structure BlIn(p:Pb)(D B bB bM b7:Nat)(SC:Au->Array Au)(WR:Ba)(l:List (Nat×List Rd))(V E:Au)(X:Ba):Prop where
 wr:Wrote (fun k=>k=bB\/k=bM\/k=b7) WR X
 bd:BdIn B bB bM p.t.n V (zo p l).1 X
 sys:X.heap[b7]?=J (Ah (SC E) 36 (0,0))
 out:OwnX ZW (fun k=>D<=k/\V.ownBlock≠J k) X D E (zo p l).2
 no:∀k,V.ownBlock=J k->D<=k/\E.ownBlock≠J k
structure BlB(D B bB bM b7:Nat)(WR:Ba):Prop where
 d:WR.heap.size=D
 b:bB<D
 m:bM<D
 s:b7<D
 lo:B<=bB/\B<=bM/\B<=b7
 bs:bB≠b7
 ms:bM≠b7
section
variable {p:Pb} {D B bB bM b7:Nat} {SC:Au->Array Au} {WR X:Ba} {l:List (Nat×List Rd)} {V E:Au}
theorem BlIn.big(h:BlIn p D B bB bM b7 SC WR l V E X)(hb:BlB D B bB bM b7 WR):D<=X.heap.size:=by have:=h.wr.size;have:=hb.d;omega
theorem BlIn.bel(h:BlIn p D B bB bM b7 SC WR l V E X)(hb:BlB D B bB bM b7 WR):Ao B WR X:=h.wr.below (by have:=hb.d;have:=hb.lo;have:=hb.b;omega) fun k hk hr=>by
 have:=hb.lo;rcases hr with e | e | e<;>omega
theorem BlIn.same(h:BlIn p D B bB bM b7 SC WR l V E X)(hb:BlB D B bB bM b7 WR){k:Nat}(hk:k<D)(h1:k≠bB)(h2:k≠bM)(h3:k≠b7):X.heap[k]?=WR.heap[k]?:=
 h.wr.block k (by have:=hb.d;omega) fun hr=>by rcases hr with e | e | e<;>contradiction
theorem BlIn.turn(h:BlIn p D B bB bM b7 SC WR l V E X)(hb:BlB D B bB bM b7 WR){X':Ba}{row:Option Nat}(hg:X.grownBy X' row)(hr:∀r,row=J r->D<=r/\∃o:Obj,X.heap[r]?=J o/\o.isCells=Ax):BlIn p D B bB bM b7 SC WR l V E X':=by
 have hc:∀(k:Nat) (o:Obj),X.heap[k]?=J o->o.isCells=Av->X'.heap[k]?=J o:=fun k o hk ho=>(LO hg (fun r e=>(hr r e).2) hk ho).trans hk
 obtain⟨m,hm⟩:=h.bd.num;refine⟨h.wr.trans (Wrote.of_grown (R:=fun k=>D<=k) hg (fun k e _=>(hr k e).1)) (fun k hk e=>by have:=hb.d;omega),⟨hc _ _ h.bd.hB rfl,⟨m,hm.same (hg.block bM hm.lt fun e=>by have:=(hr bM e.symm).1;have:=hb.m;omega)⟩,?_,h.bd.ne,h.bd.bm,h.bd.lo⟩,hc _ _ h.sys rfl,h.out.turn zy hg.size hc,h.no⟩;refine⟨h.bd.own.1,?_⟩;rcases h.bd.own.2 with hn | ⟨g,cap,cur,nQ,cF,ph,rest⟩
 . exact .inl hn
 exact .inr ⟨g,cap,cur,nQ,cF,hc g _ ph rfl,rest⟩
theorem BlIn.outn(h:BlIn p D B bB bM b7 SC WR l V E X)(hb:BlB D B bB bM b7 WR){w2 w3:Ba}{V':Au}(h2:Ao X.heap.size X w2)(ho:BdOn bB bM V w2 V' w3) :
  OwnX ZW (fun k=>D<=k/\V'.ownBlock≠J k) w3 D E (zo p l).2/\∀k,V'.ownBlock=J k->D<=k/\E.ownBlock≠J k:=by
 have hs:=h2.size;have hD:=h.big hb;have lD:=h.out.lt
 have h1:OwnX ZW (fun k=>(D<=k/\V.ownBlock≠J k)/\V'.ownBlock≠J k) w2 D E (zo p l).2:=
  (h.out.mono (S':=fun k=>(D<=k/\V.ownBlock≠J k)/\V'.ownBlock≠J k) zy fun k hk hs=>⟨hs,fun e=>by
   rcases ho.2 k e with e | e
   . exact hs.2 e
   . omega⟩).below zy h2 (Lh _)
 refine⟨(h1.keep zy (ho.1.keep fun k _ hs hr=>?_) fun k hk=>ho.1.block k (by have:=(lD k hk).2;omega) fun hr=>?_).mono zy fun k _ hs=>⟨hs.1.1,hs.2⟩,fun k hk=>?_⟩
 . rcases hr with e | e | e
   . have:=hb.b;have:=hs.1.1;omega
   . have:=hb.m;have:=hs.1.1;omega
   exact hs.1.2 e
 . have:=(lD k hk).1
   rcases hr with e | e | e
   . have:=hb.b;omega
   . have:=hb.m;omega
   exact(h.no k e).2 hk
 rcases ho.2 k hk with e | e
 . exact h.no k e
 exact⟨by omega,fun e2=>by have:=(lD k e2).2;omega⟩
theorem BlIn.lies(h:BlIn p D B bB bM b7 SC WR l V E X)(hb:BlB D B bB bM b7 WR){w2 w3 W4:Ba}{V' v:Au}{i:Nat}{word:List Rd}{views:List (List Int)}{A2 A3:Bb}{c2 c3:Nat}(h2:Ao X.heap.size X w2)(ho:BdOn bB bM V w2 V' w3)(h4:Ao w3.heap.size w3 W4)
  (hw:RAtS (fun k=>X.heap.size<=k) w2 A2 word) (hv:LAtS (fun k=>(w2.heap.size<=k/\V'.ownBlock≠J k)\/v.ownBlock=J k) w3 A3 views) (cm:∀k,v.ownBlock=J k->w2.heap.size<=k) (UR:∀k,V'.ownBlock=J k->v.ownBlock≠J k) (Dk:word.length<=c2) :
  ZW.lies (fun k=>(D<=k/\V'.ownBlock≠J k)/\E.ownBlock≠J k) W4 [O U i,I A2 word.length c2,I A3 views.length c3] ⟨i,word,views⟩:=by
 have hs:=h2.size;have hD:=h.big hb;have lD:=h.out.lt;have Hd:=h.bd.own.lt;refine⟨A2,c2,A3,c3,rfl,?_,?_,Dk⟩
 . have h5:RAtS (fun k=>X.heap.size<=k/\k<w2.heap.size) w2 A2 word:=hw.mono fun k hk hs=>⟨hs,hk⟩
   have h6:=h5.keep (ho.1.keep fun k _ hs hr=>by
    rcases hr with e | e | e
    . have:=hb.b;omega
    . have:=hb.m;omega
    . have:=(Hd k e).2;omega)
   have h7:RAtS (fun k=>(D<=k/\V'.ownBlock≠J k)/\E.ownBlock≠J k) w3 A2 word:=h6.mono fun k _ hs=>⟨⟨by omega,fun e=>by
    rcases ho.2 k e with e | e
    . have:=(Hd k e).2;omega
    . omega⟩,fun e=>by have:=(lD k e).2;omega⟩
   exact h7.on h4
 have h7 : LAtS (fun k => (D <= k /\ V'.ownBlock ≠ J k) /\ E.ownBlock ≠ J k) w3 A3 views := hv.mono fun k _ hs => by
  rcases hs with hs | hs
  . exact⟨⟨by omega,hs.2⟩,fun e=>by have:=(lD k e).2;omega⟩
  . have:=cm k hs
    exact⟨⟨by omega,fun e=>UR k e hs⟩,fun e=>by have:=(lD k e).2;omega⟩
 exact h7.on h4
theorem BlIn.next(h:BlIn p D B bB bM b7 SC WR l V E X)(hb:BlB D B bB bM b7 WR){w2 w3 W4 w5:Ba}{V':Au}{x:Nat×List Rd}{cs:List Au}{aD:List (List Au)}{g' cap:Nat}(h2:Ao X.heap.size X w2)(ho:BdOn bB bM V w2 V' w3)(h4:Ao w3.heap.size w3 W4)
  (hd:BdIn B bB bM p.t.n V' (zm (zo p l).1 p.t.n.toNat (zW p x.1) x.2 x.2.length).1 w3)
  (U2:∀E':Au,(SC E).setIfInBounds 9 E'=SC E')
  (bh:aD.length=(zo p l).2.length) (bq:∀(i:Nat) (h1:i<aD.length) (h2:i<(zo p l).2.length),ZW.lies (fun k=>(D<=k/\V'.ownBlock≠J k)/\E.ownBlock≠J k) W4 aD[i] (zo p l).2[i])
  (hX:ZW.lies (fun k=>(D<=k/\V'.ownBlock≠J k)/\E.ownBlock≠J k) W4 cs ⟨x.1,x.2,(zm (zo p l).1 p.t.n.toNat (zW p x.1) x.2 x.2.length).2⟩)
  (hr:OwnR kXn w5 D (I (J ⟨g',0,Z⟩) ((zo p l).2.length+1) cap) ((zo p l).2.length+1) (aD.flatten++cs)) (hg:W4.grownBy w5 E.ownBlock) (bz:E.ownBlock=J g'\/g'=W4.heap.size) :
  BlIn p D B bB bM b7 SC WR (l++[x]) V' (I (J ⟨g',0,Z⟩) ((zo p l).2.length+1) cap) (w5.setCell ⟨b7,9,Z⟩ (I (J ⟨g',0,Z⟩) ((zo p l).2.length+1) cap)) /\
   KeepsFrom D X (w5.setCell ⟨b7,9,Z⟩ (I (J ⟨g',0,Z⟩) ((zo p l).2.length+1) cap)) /\
   Wrote (fun k=>k=bB\/k=bM\/k=b7\/D<=k) X (w5.setCell ⟨b7,9,Z⟩ (I (J ⟨g',0,Z⟩) ((zo p l).2.length+1) cap)):=by
 have hs:=h2.size;have hD:=h.big hb;have fE:=ho.1.size;have iQ:=h4.size;have lD:=h.out.lt;have Hd:=h.bd.own.lt;obtain⟨_,fm⟩:=h.outn hb h2 ho;have cJ:=hr.lt g' rfl;have aA:=hb.lo;obtain⟨e1,e2,e3⟩:bB<D/\bM<D/\b7<D:=⟨hb.b,hb.m,hb.s⟩;have KO:∀k,k<D->E.ownBlock≠J k:=fun k hk e=>by have:=(lD k e).1;omega
 have Su:∀k,V'.ownBlock=J k->D<=k:=fun k e=>(fm k e).1
 have hW:Wrote (fun k=>k=bB\/k=bM\/k=b7\/V.ownBlock=J k\/E.ownBlock=J k) X (w5.setCell ⟨b7,9,Z⟩ (I (J ⟨g',0,Z⟩) ((zo p l).2.length+1) cap)):=by
  refine((((Wrote.of_below (R:=fun k=>k=bB\/k=bM\/k=b7\/V.ownBlock=J k\/E.ownBlock=J k) h2).trans ho.1 fun k _ hr=>?_).trans (Wrote.of_below (R:=fun _=>False) h4) fun _ _ h=>h.elim).trans (Wrote.of_grown (R:=fun k=>E.ownBlock=J k) hg fun _ e _=>e) fun k _ e=>?_).trans (Wrote.of_grown (R:=fun k=>k=b7) (yu w5 b7 9 _) fun k e _=>by cases e;rfl) fun k _ e=>?_
  . rcases hr with e | e | e
    . exact .inl e
    . exact .inr (.inl e)
    exact .inr (.inr (.inr (.inl e)))
  . exact .inr (.inr (.inr (.inr e)))
  exact .inr (.inr (.inl e))
 have aK:w5.heap[b7]?=J (Ah (SC E) 36 (0,0)):=by
  refine(hg.block b7 (by omega) fun e=>KO b7 e3 e.symm).trans ((h4.block b7 (by omega)).trans ((ho.1.block b7 (by omega) fun hr=>?_).trans ((h2.block b7 (by omega)).trans h.sys)));rcases hr with e | e | e
  . exact hb.bs e.symm
  . exact hb.ms e.symm
  have:=(h.no b7 e).1;omega
 have FH:=((hd.on h4).grown hg (fun e=>KO bB e1 e) (fun e=>KO bM e2 e) (fun k hk e=>(fm k hk).2 e)).set (g:=b7) (fun e=>hb.bs e.symm) (fun e=>hb.ms e.symm) (fun e=>by have:=Su b7 e;omega) 9 (I (J ⟨g',0,Z⟩) ((zo p l).2.length+1) cap);have dt:=xI p l x;refine⟨⟨?_,?_,?_,?_,?_⟩,?_,hW.more fun k _ hr=>?_⟩
 . refine h.wr.trans hW fun k hk hr=>?_
   have:=hb.d;rcases hr with e | e | e | e | e
   . exact .inl e
   . exact .inr (.inl e)
   . exact .inr (.inr e)
   . have:=(h.no k e).1;omega
   have:=(lD k e).1;omega
 . rw[dt];exact FH
 . rw[Lk w5 b7 9 _ _ _ aK,U2]
 . rw[dt]
   have h8:=OwnX.app zy bh bq hX hr hg bz;refine h8.kept zy (yu w5 b7 9 _) (.inr (fun e=>?_)) (fun k e=>.inl fun hs=>?_)
   . have:g'=b7:=by simpa[Value.ownBlock] using e
     omega
   cases e;have:=hs.1;omega
 . intro k hk
   refine⟨Su k hk,fun e=>?_⟩;have:g'=k:=by simpa[Value.ownBlock] using e
   subst this;rcases bz with e | e
   . exact(fm g' hk).2 e
   have:=(hd.own.lt g' hk).2;omega
 . refine⟨hW.size,fun k o hk cI Sd=>(hW.block k (zd cI) fun hr=>?_).trans cI⟩
   rcases hr with e | e | e | e | e
   . omega
   . omega
   . omega
   . rcases h.bd.own.2 with ⟨hn,_⟩ | ⟨g,aF,cur,nQ,_,ph,_⟩
     . rw[hn] at e;cases e
     rw[nQ] at e;cases e;rw[ph] at cI;cases cI;cases Sd
   obtain⟨Y',_,oT,_⟩:=h.out;rcases oT.2 with ⟨hn,_⟩ | ⟨g,aF,cur,nQ,_,ph,_⟩
   . rw[hn] at e;cases e
   rw[nQ] at e;cases e;rw[ph] at cI;cases cI;cases Sd
 rcases hr with e | e | e | e | e
 . exact .inl e
 . exact .inr (.inl e)
 . exact .inr (.inr (.inl e))
 . exact .inr (.inr (.inr (h.no k e).1))
 exact .inr (.inr (.inr (lD k e).1))
end
end
end Go.Proofs.YtkledihebeidlaaGreatDoor
