/- Merged. -/
import Derived.Test.YtkmbdfdaffmhjaaGreatUi
open Go.Proofs.Tryz
open Go.Value renaming int->O,slice->I,bool->Ah,agg->Ai,pointer->Aj
open Go.IntKind renaming i64->U
open Option renaming none->Z,some->J
open Go.Obj renaming cells->Ag
open Go.Ending renaming returned->Ak
open Go.Proofs.Tryz renaming prog->Al,underlying39->Pn
open Go.RowKit renaming Below->Am,intOf->Ar,Hid->As
open Go renaming Calls->An,Value->Au
open Bool renaming true->Av,false->Aw
namespace Go.Proofs.YtkmbdfdaffmhjaaGreat
set_option maxRecDepth 100000
set_option maxHeartbeats 20000000
section
open Go.RowKit Go.Shelf
attribute [local go_sem] Oper.semAt_some
theorem vV{w:Ba}{g:Nat}{a0 a1 a2 a3 a4 a5 a6 a7 a8 a9:Au}{t:TypeId}(h:w.heap[g]?=J (Ag #[a0,a1,a2,a3,a4,a5,a6,a7,a8,a9] t (0,0)))(v0 v1 v2 v3 v4 v5 v6 v7 v8 v9:Au) :
  ∃W,((((((((((w.setCell ⟨g,0,Z⟩ v0).setCell ⟨g,1,Z⟩ v1).setCell ⟨g,2,Z⟩ v2).setCell ⟨g,3,Z⟩ v3).setCell ⟨g,4,Z⟩ v4).setCell ⟨g,5,Z⟩ v5).setCell ⟨g,6,Z⟩ v6).setCell ⟨g,7,Z⟩ v7).setCell ⟨g,8,Z⟩ v8).setCell ⟨g,9,Z⟩ v9)=W/\W.heap[g]?=J (Ag #[v0,v1,v2,v3,v4,v5,v6,v7,v8,v9] t (0,0))/\(∀k,k≠g->W.heap[k]?=w.heap[k]?)/\(∀B,B<=g->Am B w W)/\W.heap.size=w.heap.size:=by
 refine⟨_,rfl,?_,fun k hk=>?_,fun B hB=>?_,by simp[World.setCell]⟩
 . skip
   have k0:(w.setCell ⟨g,0,Z⟩ v0).heap[g]?=J (Ag #[v0,a1,a2,a3,a4,a5,a6,a7,a8,a9] t (0,0)):=Lk _ g 0 _ _ v0 h;have k1:((w.setCell ⟨g,0,Z⟩ v0).setCell ⟨g,1,Z⟩ v1).heap[g]?=J (Ag #[v0,v1,a2,a3,a4,a5,a6,a7,a8,a9] t (0,0)):=Lk _ g 1 _ _ v1 k0;have k2:(((w.setCell ⟨g,0,Z⟩ v0).setCell ⟨g,1,Z⟩ v1).setCell ⟨g,2,Z⟩ v2).heap[g]?=J (Ag #[v0,v1,v2,a3,a4,a5,a6,a7,a8,a9] t (0,0)):=Lk _ g 2 _ _ v2 k1;have k3:((((w.setCell ⟨g,0,Z⟩ v0).setCell ⟨g,1,Z⟩ v1).setCell ⟨g,2,Z⟩ v2).setCell ⟨g,3,Z⟩ v3).heap[g]?=J (Ag #[v0,v1,v2,v3,a4,a5,a6,a7,a8,a9] t (0,0)):=Lk _ g 3 _ _ v3 k2;have k4:(((((w.setCell ⟨g,0,Z⟩ v0).setCell ⟨g,1,Z⟩ v1).setCell ⟨g,2,Z⟩ v2).setCell ⟨g,3,Z⟩ v3).setCell ⟨g,4,Z⟩ v4).heap[g]?=J (Ag #[v0,v1,v2,v3,v4,a5,a6,a7,a8,a9] t (0,0)):=Lk _ g 4 _ _ v4 k3;have k5:((((((w.setCell ⟨g,0,Z⟩ v0).setCell ⟨g,1,Z⟩ v1).setCell ⟨g,2,Z⟩ v2).setCell ⟨g,3,Z⟩ v3).setCell ⟨g,4,Z⟩ v4).setCell ⟨g,5,Z⟩ v5).heap[g]?=J (Ag #[v0,v1,v2,v3,v4,v5,a6,a7,a8,a9] t (0,0)):=Lk _ g 5 _ _ v5 k4;have k6:(((((((w.setCell ⟨g,0,Z⟩ v0).setCell ⟨g,1,Z⟩ v1).setCell ⟨g,2,Z⟩ v2).setCell ⟨g,3,Z⟩ v3).setCell ⟨g,4,Z⟩ v4).setCell ⟨g,5,Z⟩ v5).setCell ⟨g,6,Z⟩ v6).heap[g]?=J (Ag #[v0,v1,v2,v3,v4,v5,v6,a7,a8,a9] t (0,0)):=Lk _ g 6 _ _ v6 k5
   have k7:((((((((w.setCell ⟨g,0,Z⟩ v0).setCell ⟨g,1,Z⟩ v1).setCell ⟨g,2,Z⟩ v2).setCell ⟨g,3,Z⟩ v3).setCell ⟨g,4,Z⟩ v4).setCell ⟨g,5,Z⟩ v5).setCell ⟨g,6,Z⟩ v6).setCell ⟨g,7,Z⟩ v7).heap[g]?=J (Ag #[v0,v1,v2,v3,v4,v5,v6,v7,a8,a9] t (0,0)):=Lk _ g 7 _ _ v7 k6;have k8:(((((((((w.setCell ⟨g,0,Z⟩ v0).setCell ⟨g,1,Z⟩ v1).setCell ⟨g,2,Z⟩ v2).setCell ⟨g,3,Z⟩ v3).setCell ⟨g,4,Z⟩ v4).setCell ⟨g,5,Z⟩ v5).setCell ⟨g,6,Z⟩ v6).setCell ⟨g,7,Z⟩ v7).setCell ⟨g,8,Z⟩ v8).heap[g]?=J (Ag #[v0,v1,v2,v3,v4,v5,v6,v7,v8,a9] t (0,0)):=Lk _ g 8 _ _ v8 k7;have k9:((((((((((w.setCell ⟨g,0,Z⟩ v0).setCell ⟨g,1,Z⟩ v1).setCell ⟨g,2,Z⟩ v2).setCell ⟨g,3,Z⟩ v3).setCell ⟨g,4,Z⟩ v4).setCell ⟨g,5,Z⟩ v5).setCell ⟨g,6,Z⟩ v6).setCell ⟨g,7,Z⟩ v7).setCell ⟨g,8,Z⟩ v8).setCell ⟨g,9,Z⟩ v9).heap[g]?=J (Ag #[v0,v1,v2,v3,v4,v5,v6,v7,v8,v9] t (0,0)):=Lk _ g 9 _ _ v9 k8;exact k9
 . exact(Le _ ⟨g,9,Z⟩ v9 k hk).trans ((Le _ ⟨g,8,Z⟩ v8 k hk).trans ((Le _ ⟨g,7,Z⟩ v7 k hk).trans ((Le _ ⟨g,6,Z⟩ v6 k hk).trans ((Le _ ⟨g,5,Z⟩ v5 k hk).trans ((Le _ ⟨g,4,Z⟩ v4 k hk).trans ((Le _ ⟨g,3,Z⟩ v3 k hk).trans ((Le _ ⟨g,2,Z⟩ v2 k hk).trans ((Le _ ⟨g,1,Z⟩ v1 k hk).trans (Le _ ⟨g,0,Z⟩ v0 k hk)))))))))
 have b0:=(Ll B w).setCell (p:=⟨g,0,Z⟩) hB v0;have b1:=b0.setCell (p:=⟨g,1,Z⟩) hB v1;have b2:=b1.setCell (p:=⟨g,2,Z⟩) hB v2;have b3:=b2.setCell (p:=⟨g,3,Z⟩) hB v3;have b4:=b3.setCell (p:=⟨g,4,Z⟩) hB v4;have b5:=b4.setCell (p:=⟨g,5,Z⟩) hB v5;have b6:=b5.setCell (p:=⟨g,6,Z⟩) hB v6;have b7:=b6.setCell (p:=⟨g,7,Z⟩) hB v7;have b8:=b7.setCell (p:=⟨g,8,Z⟩) hB v8;have b9:=b8.setCell (p:=⟨g,9,Z⟩) hB v9;exact b9
def okTry(n:Int)(d:Nat)(f:Fm):Prop:=inD d f/\qy n d f=0/\(zR d f).1<=12/\(zR d f).2<=6
def RetTry(p:Pb)(l:List Fm)(d:Nat)(w:Ba)(e:Ending)(w':Ba):Prop:=∃(T:Sy) (AC SV AV AX:Bb) (kc ks kv kx:Nat) (b:Bool),e=Ak (.tuple #[.agg (T.vs_ AC kc SV ks AV kv AX kx),Ah b])/\Am w.heap.size w w' /\
 (b=Av->kj p=Av/\T=(zY p).1/\SyAt w' w'.heap.size AC SV AV AX T/\∀f∈l,okTry p.t.n d f)
theorem RetTry.zero{p:Pb}{l:List Fm}{d:Nat}{w w':Ba}(h:Am w.heap.size w w'):RetTry p l d w (Ak (.tuple #[Ai #[O U 0,O U 0,O U 0,I Z 0 0,O U 0,I Z 0 0,O U 0,O U 0,I Z 0 0,I Z 0 0],Ah Aw])) w':=⟨qo,Z,Z,Z,Z,0,0,0,0,Aw,rfl,h,fun h=>(by cases h)⟩
theorem YR(p:Pb)(hl:Y0 p)(A SV AL:Bb)(kc ks cl d:Nat)(l:List Fm)(aJ:l.length<=1000)(w:Ba)(hA:CAt w w.heap.size A p.t.cases)(hS:SAt w w.heap.size SV p.a.sts)(hL:FsAt w w.heap.size (d+1) AL l) :
  An Al 8 #[.agg (p.vs A kc SV ks),I AL l.length cl] w (RetTry p l d w):=by
 obtain⟨wa,ic,da,mY,oW⟩:=zn w (p.vs A kc SV ks) 29;obtain⟨w1,ab,db,mX,p'⟩:=zn wa #[O U 0,O U 0,O U 0,I Z 0 0,O U 0,I Z 0 0,O U 0,O U 0,I Z 0 0,I Z 0 0] 39;have hB:Am w.heap.size w w1:=oW.trans (p'.mono (by omega));have da:w1.heap[w.heap.size]?=J (Ag (p.vs A kc SV ks) 29 (0,0)):=Lb p' (by omega) da;rw[mY] at db;have ce:w1.heap.size=w.heap.size+2:=by omega
 have EM:As (∀X,Am w1.heap.size w1 X->CAt X w.heap.size A p.t.cases/\SAt X w.heap.size SV p.a.sts):=fun X hX=>⟨hA.keep (Lc hB hX),hS.keep (Lc hB hX)⟩
 have UC:=zH (right_any p hl A kc SV ks w1 ((hA.keep hB).more hB.size) ((hS.keep hB).more hB.size));have Bp:As (∀X,Am w1.heap.size w1 X->FsAt X X.heap.size (d+1) AL l):=fun X hX=>(((hL.keep hB).more hB.size).keep hX).more hX.size
 have mP:As (∀f∈l,inD d f):=Qr (f:=Fm.mk ⟨0,0,0,0,0⟩ l) hL;have Ds:=zH (fun (h:kj p=Av) (X:Ba) (hX:Am w1.heap.size w1 X)=>YJ p (few_x (by unfold kj at h;rw[L8] at h;exact h.1)).1 A kc SV ks X w.heap.size (by have:=hX.size;omega) (EM.out X hX).1 (EM.out X hX).2)
 have th:As (kj p=Av->(zY p).2=0/\(zY p).1.n=p.t.n):=fun h=>by
  unfold kj at h;rw[L8,Pd] at h;refine⟨h.2,?_⟩
  by_cases h0:zZ p=0
  case neg=>rw[xn h0] at h;exact absurd h.2 h0
  case pos=>
   by_cases h1:4096<yt p
   . rw[xA h0 h1] at h;cases h.2
   . rw[qA h0 (by omega)];rfl
 have bD:As (∀X,Am w1.heap.size w1 X->X.heap[w.heap.size]?=J (Ag #[O U p.t.n,O U p.t.ins,O U p.t.outs,I A p.t.cases.length kc,O U p.a.n,I SV p.a.sts.length ks,O U p.k] 29 (0,0))/\X.heap[w.heap.size+1]?=J (Ag #[O U 0,O U 0,O U 0,I Z 0 0,O U 0,I Z 0 0,O U 0,O U 0,I Z 0 0,I Z 0 0] 39 (0,0))):=fun X hX=>⟨Lb hX (by omega) da,Lb hX (by omega) db⟩
 unfold Pb.vs at ic UC Ds ⊢;have AZ:=zH ic;have ag:=zH ab;have HB:=zH hB;have HZ:=zH ce;obtain⟨rb,VA⟩:=Kj (kj p);have rk:=zH VA;rw[VA] at UC Ds th;obtain⟨D0,D1⟩:=bD.out w1 (Ll _ _);obtain⟨p0,p1,p2,p3,p4,p5,p6,_⟩:=Kg (D0);clear ic ab da db mY mX oW p' hB hA hS hL hl VA D0 D1;go_enter func8,ntmps8;go_upto_region 1 with fail
 rw[AZ.out,ag.out];go_wp2_with fail;refine UC.out.mono ?_;rintro e w2 ⟨rfl,ae⟩;have G2:=zH ae;obtain⟨D0,D1⟩:=bD.out _ G2.out;clear ae UC p0 p1 p2 p3 p4 p5 p6
 cases rb with
 | false=>
  have E1:=zH D1;obtain⟨r0,r1,r2,r3,r4,r5,r6,r7,r8,r9⟩:=zM (D1);have g0:=zi (D1) 0;have g1:=zi (D1) 1;have g2:=zi (D1) 2;have g3:=zi (D1) 3;have g4:=zi (D1) 4;have g5:=zi (D1) 5;have g6:=zi (D1) 6;have g7:=zi (D1) 7;have g8:=zi (D1) 8;have g9:=zi (D1) 9;have ck:=zH (Lc HB.out G2.out);clear D0 D1 Ds th rk bD Bp mP EM;go_wp2_with fail;obtain⟨WF,dP,f1,f2,f3,f4⟩:=vV E1.out (O U 0) (O U 0) (O U 0) (I Z 0 0) (O U 0) (I Z 0 0) (O U 0) (O U 0) (I Z 0 0) (I Z 0 0);rw[dP]
  (try simp only[Exit.inBlock,Exit.then])
  refine LP (yf (P:=Al) rfl _ _ (w.heap.size+1) 39 _ (0,0) _ rfl f1 Pn rfl (by kernel_rfl) _ rfl) rfl ?_;exact RetTry.zero (ck.out.trans (f3 _ (by omega)))
 | true=>
 clear D0 D1;go_wp2_with fail
 go_loopw [18] (fun i wr=>∃k:Nat,k<=l.length/\i=O U (k:Int)/\As (∀j (hj:j<l.length),j<k->okTry p.t.n d l[j])/\As (Am w1.heap.size w1 wr)) (fun i _=>l.length-(Ar i).toNat)
 case atStart=>exact⟨0,by omega,rfl,fun j _ hj=>absurd hj (by omega),G2⟩
 obtain⟨k,hk,rfl,dJ,bz⟩:=hrel;have ns:IntKind.i64.wrap ((k:Int)+1)=((k+1:Nat):Int):=by rw[Lo];omega
 by_cases hlt:k<l.length
 . obtain⟨bf,of,eA,tZ,DK⟩:=Bp.out wr bz.out (by omega)
   obtain⟨A',c',rM,M4⟩:=DK k hlt;obtain⟨x,hx⟩:=Kj (l[k]);have cx:inD d x:=by rw[<-hx];exact mP.out _ (Lh hlt)
   rw[hx] at rM M4
   have GP:As (qy p.t.n d x=0->(zR d x).1<=12->(zR d x).2<=6->∀j (hj:j<l.length),j<k+1->okTry p.t.n d l[j]):=fun h1 h2 h3 j hj FD=>by
    by_cases e:j=k
    . subst e;rw[hx];exact⟨cx,h1,h2,h3⟩
    . exact dJ.out j hj (by omega)
   have pA:=zH (fun (X:Ba) (hX:Am wr.heap.size wr X)=>few38_any d x A' c' X ((M4.keep hX).more hX.size));have SY:=zH (fun (hz:(zR d x).1<140) (X:Ba) (hX:Am wr.heap.size wr X)=>ug p.t.n d x A' c' X ((M4.keep hX).more hX.size) (by omega));have nf:=zH (fun (hz:(zR d x).1<140) (X:Ba) (hX:Am wr.heap.size wr X)=>Y3 d x A' c' X ((M4.keep hX).more hX.size) (by omega));obtain⟨M,hM⟩:=Kj (qy p.t.n d x);obtain⟨Ae,hZ⟩:=Kj (zR d x);rw[hM,hZ] at GP;rw[hM,hZ] at SY;rw[hZ] at pA nf;obtain⟨Z1,Z2⟩:=Ae;have hZ2:Z2<=Z1:=by have:=jb d x;rw[hZ] at this;exact this
   dsimp only at GP SY pA nf;obtain⟨⟨h0,h1,h2,h3,h4⟩,xl⟩:=x;have hc:∀j' v,#[O U h0,O U h1,O U h2,O U h3,O U h4,I A' xl.length c'][j']?=J v->wr.cell? ⟨bf,of+k*6+j',Z⟩=J v:=rM;have z0:wr.cell? ⟨bf,of+k*6,Z⟩=J (O U h0):=hc 0 _ rfl;have z1:wr.cell? ⟨bf,of+k*6+1,Z⟩=J (O U h1):=hc 1 _ rfl;have z2:wr.cell? ⟨bf,of+k*6+2,Z⟩=J (O U h2):=hc 2 _ rfl;have z3:wr.cell? ⟨bf,of+k*6+3,Z⟩=J (O U h3):=hc 3 _ rfl;have z4:wr.cell? ⟨bf,of+k*6+4,Z⟩=J (O U h4):=hc 4 _ rfl;have z5:wr.cell? ⟨bf,of+k*6+5,Z⟩=J (I A' xl.length c'):=hc 5 _ rfl;have dg:(0:Int)<=(k:Int):=by omega
   have aM:(k:Int)<(l.length:Int):=by omega
   have pj:w1.heap.size<=wr.heap.size:=bz.out.size;simp only[Fm.vs,Fm.args,Fm.h] at pA SY nf;clear rM M4 DK hc cx hM hZ hx dJ;subst eA;go_upto_region 6 with fail
   obtain⟨W5,dQ,d5,cY,am⟩:=zn wr #[O U h0,O U h1,O U h2,O U h3,O U h4,I A' xl.length c'] 32;rw[dQ];have B5:=zH am;have G5:=zH (bz.out.trans (am.mono pj));have HC:=zH (pA.out W5 am);have HFB:As (∀X,Am W5.heap.size W5 X->X.heap[wr.heap.size]?=J (Ag #[O U h0,O U h1,O U h2,O U h3,O U h4,I A' xl.length c'] 32 (0,0))):=fun X hX=>Lb hX (by omega) d5
   have q0:=zh (bD.out _ G5.out).1 0 rfl;obtain⟨y0,y1,y2,y3,y4,y5,_⟩:=Ki (d5);clear dQ d5 am z0 z1 z2 z3 z4 z5 pA cY;have WY:=B5.out.size;go_wp2_with fail;refine HC.out.mono ?_;rintro e w6 ⟨b6,rfl,hz6,cB⟩;have G6:=zH (Lc G5.out cB);have B6:=zH (B5.out.trans (cB.mono WY));have F6:=zH cB;clear HC cB q0 y0 y1 y2 y3 y4 y5
   cases b6 with
   | false=>
    have dJ:As True:=trivial;have E1:=zH (bD.out _ G6.out).2;obtain⟨r0,r1,r2,r3,r4,r5,r6,r7,r8,r9⟩:=zM (E1.out);have g0:=zi (E1.out) 0;have g1:=zi (E1.out) 1;have g2:=zi (E1.out) 2;have g3:=zi (E1.out) 3;have g4:=zi (E1.out) 4;have g5:=zi (E1.out) 5;have g6:=zi (E1.out) 6;have g7:=zi (E1.out) 7;have g8:=zi (E1.out) 8;have g9:=zi (E1.out) 9;have ck:=zH (Lc HB.out G6.out);clear Ds th rk bD Bp mP EM dJ;go_wp2_with fail;obtain⟨WF,dP,f1,f2,f3,f4⟩:=vV E1.out (O U 0) (O U 0) (O U 0) (I Z 0 0) (O U 0) (I Z 0 0) (O U 0) (O U 0) (I Z 0 0) (I Z 0 0);rw[dP]
    (try simp only[Exit.inBlock,Exit.then])
    refine LP (yf (P:=Al) rfl _ _ (w.heap.size+1) 39 _ (0,0) _ rfl f1 Pn rfl (by kernel_rfl) _ rfl) rfl ?_;exact RetTry.zero (ck.out.trans (f3 _ (by omega)))
   | true=>
   have DB:=hz6 rfl;have HC:=zH (SY.out DB w6 B6.out);have q0:=zh (bD.out _ G6.out).1 0 rfl;have MY:=HFB.out _ F6.out;obtain⟨y0,y1,y2,y3,y4,y5,_⟩:=Ki (MY);clear SY MY;go_wp2_with fail;refine HC.out.mono ?_;rintro e w7 ⟨rfl,dE⟩;have G7:=zH (Lc G6.out dE);have B7:=zH (Lc B6.out dE);have F7:=zH (Lc F6.out dE);clear HC dE q0 y0 y1 y2 y3 y4 y5
   by_cases hM:M=0
   case neg=>
    have e0:(M != 0)=Av:=by simpa using hM
    have dJ:As True:=trivial;have E1:=zH (bD.out _ G7.out).2;obtain⟨r0,r1,r2,r3,r4,r5,r6,r7,r8,r9⟩:=zM (E1.out);have g0:=zi (E1.out) 0;have g1:=zi (E1.out) 1;have g2:=zi (E1.out) 2;have g3:=zi (E1.out) 3;have g4:=zi (E1.out) 4;have g5:=zi (E1.out) 5;have g6:=zi (E1.out) 6;have g7:=zi (E1.out) 7;have g8:=zi (E1.out) 8;have g9:=zi (E1.out) 9;have ck:=zH (Lc HB.out G7.out);clear Ds th rk bD Bp mP EM dJ;go_wp2_with fail;obtain⟨WF,dP,f1,f2,f3,f4⟩:=vV E1.out (O U 0) (O U 0) (O U 0) (I Z 0 0) (O U 0) (I Z 0 0) (O U 0) (O U 0) (I Z 0 0) (I Z 0 0);rw[dP]
    (try simp only[Exit.inBlock,Exit.then])
    refine LP (yf (P:=Al) rfl _ _ (w.heap.size+1) 39 _ (0,0) _ rfl f1 Pn rfl (by kernel_rfl) _ rfl) rfl ?_;exact RetTry.zero (ck.out.trans (f3 _ (by omega)))
   subst hM;have HC:=zH (nf.out DB w7 B7.out);have MY:=HFB.out _ F7.out;obtain⟨y0,y1,y2,y3,y4,y5,_⟩:=Ki (MY);clear nf MY;go_wp2_with fail;refine HC.out.mono ?_;rintro e w8 ⟨rfl,eD⟩;have G8:=zH (Lc G7.out eD);clear HC eD y0 y1 y2 y3 y4 y5
   by_cases h12:12<Z1
   . have Ep:(12:Int)<(Z1:Int):=by omega
     have dJ:As True:=trivial;have E1:=zH (bD.out _ G8.out).2;obtain⟨r0,r1,r2,r3,r4,r5,r6,r7,r8,r9⟩:=zM (E1.out);have g0:=zi (E1.out) 0;have g1:=zi (E1.out) 1;have g2:=zi (E1.out) 2;have g3:=zi (E1.out) 3;have g4:=zi (E1.out) 4;have g5:=zi (E1.out) 5;have g6:=zi (E1.out) 6;have g7:=zi (E1.out) 7;have g8:=zi (E1.out) 8;have g9:=zi (E1.out) 9;have ck:=zH (Lc HB.out G8.out);clear Ds th rk bD Bp mP EM dJ;go_wp2_with fail;obtain⟨WF,dP,f1,f2,f3,f4⟩:=vV E1.out (O U 0) (O U 0) (O U 0) (I Z 0 0) (O U 0) (I Z 0 0) (O U 0) (O U 0) (I Z 0 0) (I Z 0 0);rw[dP]
     (try simp only[Exit.inBlock,Exit.then])
     refine LP (yf (P:=Al) rfl _ _ (w.heap.size+1) 39 _ (0,0) _ rfl f1 Pn rfl (by kernel_rfl) _ rfl) rfl ?_;exact RetTry.zero (ck.out.trans (f3 _ (by omega)))
   have Ep:¬(12:Int)<(Z1:Int):=by omega
   by_cases h6:6<Z2
   . have e6:(6:Int)<(Z2:Int):=by omega
     have dJ:As True:=trivial;have E1:=zH (bD.out _ G8.out).2;obtain⟨r0,r1,r2,r3,r4,r5,r6,r7,r8,r9⟩:=zM (E1.out);have g0:=zi (E1.out) 0;have g1:=zi (E1.out) 1;have g2:=zi (E1.out) 2;have g3:=zi (E1.out) 3;have g4:=zi (E1.out) 4;have g5:=zi (E1.out) 5;have g6:=zi (E1.out) 6;have g7:=zi (E1.out) 7;have g8:=zi (E1.out) 8;have g9:=zi (E1.out) 9;have ck:=zH (Lc HB.out G8.out);clear Ds th rk bD Bp mP EM dJ;go_wp2_with fail;obtain⟨WF,dP,f1,f2,f3,f4⟩:=vV E1.out (O U 0) (O U 0) (O U 0) (I Z 0 0) (O U 0) (I Z 0 0) (O U 0) (O U 0) (I Z 0 0) (I Z 0 0);rw[dP]
     (try simp only[Exit.inBlock,Exit.then])
     refine LP (yf (P:=Al) rfl _ _ (w.heap.size+1) 39 _ (0,0) _ rfl f1 Pn rfl (by kernel_rfl) _ rfl) rfl ?_;exact RetTry.zero (ck.out.trans (f3 _ (by omega)))
   have e6:¬(6:Int)<(Z2:Int):=by omega
   have nW:=zH (GP.out (by simp) (by omega) (by omega));go_wp2_with fail
   go_roundw
   case rel=>exact⟨k+1,by omega,by go_num,nW,G8⟩
   simp[Ar];omega
 obtain rfl:l.length=k:=by omega
 have aM:¬(l.length:Int)<(l.length:Int):=by omega
 have HC:=zH (Ds.out (by simp) wr bz.out);obtain⟨sP,Tw⟩:=th.out (by simp);obtain⟨RB,hRB⟩:=Kj (zY p);rw[hRB] at HC sP Tw;have eG:As (RB.1=(zY p).1):=by rw[As,hRB]
 obtain⟨T,r⟩:=RB;dsimp only at sP Tw HC eG;subst sP;have Gy:=zH Tw;obtain⟨D0,D1⟩:=bD.out _ bz.out;obtain⟨p0,p1,p2,p3,p4,p5,p6,_⟩:=Kg (D0);clear D0 D1 hRB Ds th Bp mP EM Tw;go_wp2_with fail;refine HC.out.mono ?_;rintro e w7 ⟨A2,fK,fR,fJ,AV,kv,AX,kx,rfl,C1,_,_,dE⟩;have G7:=zH (Lc bz.out dE);have fH:=zH C1;have EA:As (w1.heap.size<=wr.heap.size):=bz.out.size;unfold Sy.vs_;clear dE C1 HC p0 p1 p2 p3 p4 p5 p6;dsimp only;go_upto_region 13 with fail
 obtain⟨w8,KM,d8,sc,eD⟩:=zn w7 #[O U T.p.t.n,O U T.p.t.ins,O U T.p.t.outs,I A2 T.p.t.cases.length fK,O U T.p.a.n,I fR T.p.a.sts.length fJ,O U T.p.k,O U T.n,I AV T.vs.length kv,I AX T.xs.length kx] 39;rw[KM];have hd8:Am w8.heap.size w8 w8.drew:=(Ll _ w8).drew;have h78:Am w7.heap.size w7 w8.drew:=eD.trans (hd8.mono (by omega));have G8:=zH (Lc G7.out h78);have GG:As (w1.heap.size<=w7.heap.size/\w8.heap.size=w7.heap.size+1):=⟨G7.out.size,sc⟩;have HSM:As (∀k,k<w7.heap.size->w8.heap[k]?=w7.heap[k]?):=fun k hk=>h78.block k hk
 have aS:As (w8.drew.heap[w7.heap.size]?=J (Ag #[O U T.p.t.n,O U T.p.t.ins,O U T.p.t.outs,I A2 T.p.t.cases.length fK,O U T.p.a.n,I fR T.p.a.sts.length fJ,O U T.p.k,O U T.n,I AV T.vs.length kv,I AX T.xs.length kx] 39 (0,0))/\w8.drew.heap[w.heap.size]?=J (Ag #[O U p.t.n,O U p.t.ins,O U p.t.outs,I A p.t.cases.length kc,O U p.a.n,I SV p.a.sts.length ks,O U p.k] 29 (0,0))):=⟨d8,(bD.out _ G8.out).1⟩;have E1:As (w8.heap[w.heap.size+1]?=J (Ag #[O U 0,O U 0,O U 0,I Z 0 0,O U 0,I Z 0 0,O U 0,O U 0,I Z 0 0,I Z 0 0] 39 (0,0))):=(bD.out _ G8.out).2;have ck:As (Am w.heap.size w w8):=HB.out.trans ((Lc G7.out eD).mono HB.out.size);obtain⟨r0,r1,r2,r3,r4,r5,r6,r7,r8,r9⟩:=zM (E1.out);have g0:=zi (E1.out) 0;have g1:=zi (E1.out) 1;have g2:=zi (E1.out) 2;have g3:=zi (E1.out) 3;have g4:=zi (E1.out) 4;have g5:=zi (E1.out) 5;have g6:=zi (E1.out) 6;have g7:=zi (E1.out) 7;have g8:=zi (E1.out) 8;have g9:=zi (E1.out) 9;clear KM d8 sc eD hd8 h78 G8;have hxx:((T.n:Int)==p.t.n)=Av:=by rw[Gy.out];simp
 by_cases h16:T.xs.length<=16
 . have Gk:(T.xs.length:Int)<=16:=by omega
   refine zr [(0,Av),(1,Av),(2,Av),(3,Av),(4,Av),(5,Av),(6,Av),(7,Av),(8,Av),(9,Av),(10,Av),(11,Av),(12,Av),(13,Av),(14,Av),(15,Av),(16,Av),(17,Av),(18,Aw),(19,Aw)] (fun X=>X.heap[w7.heap.size]?=J (Ag #[O U T.p.t.n,O U T.p.t.ins,O U T.p.t.outs,I A2 T.p.t.cases.length fK,O U T.p.a.n,I fR T.p.a.sts.length fJ,O U T.p.k,O U T.n,I AV T.vs.length kv,I AX T.xs.length kx] 39 (0,0))/\X.heap[w.heap.size]?=J (Ag #[O U p.t.n,O U p.t.ins,O U p.t.outs,I A p.t.cases.length kc,O U p.a.n,I SV p.a.sts.length ks,O U p.k] 29 (0,0))) (by kernel_rfl) (by kernel_rfl) aS.out ?_
   repeat
    apply zk rfl
    . rintro K' aa X ⟨u1,u2⟩
      obtain⟨x0,x1,x2,x3,x4,x5,x6,x7,x8,x9⟩:=zM (u1);have v0:=zh u2 0 rfl;rw[Gy.out] at x7;clear u1 u2;go_simp;exact aa
   refine zu rfl ?_;intro K' aa;go_simp;obtain⟨WF,dP,f1,f2,f3,f4⟩:=vV E1.out (O U T.p.t.n) (O U T.p.t.ins) (O U T.p.t.outs) (I A2 T.p.t.cases.length fK) (O U T.p.a.n) (I fR T.p.a.sts.length fJ) (O U T.p.k) (O U p.t.n) (I AV T.vs.length kv) (I AX T.xs.length kx);rw[dP];have Hr:=HZ.out;have sN:=GG.out;have SD:As (WF.drew.heap[w7.heap.size]?=J (Ag #[O U T.p.t.n,O U T.p.t.ins,O U T.p.t.outs,I A2 T.p.t.cases.length fK,O U T.p.a.n,I fR T.p.a.sts.length fJ,O U T.p.k,O U T.n,I AV T.vs.length kv,I AX T.xs.length kx] 39 (0,0))/\WF.drew.heap[w.heap.size]?=J (Ag #[O U p.t.n,O U p.t.ins,O U p.t.outs,I A p.t.cases.length kc,O U p.a.n,I SV p.a.sts.length ks,O U p.k] 29 (0,0))):=⟨(f2 _ (by omega)).trans aS.out.1,(f2 _ (by omega)).trans aS.out.2⟩;refine aa _ _ SD.out ?_;clear aa K';refine zu rfl ?_;intro K' aa;go_simp;refine aa _ _ SD.out ?_;refine zz ?_;clear aa K';go_wp2_with fail
   (try simp only[Exit.inBlock,Exit.then])
   refine LP (yf (P:=Al) rfl _ _ (w.heap.size+1) 39 _ (0,0) _ rfl (show WF.drew.heap[w.heap.size+1]?=_ from f1) Pn rfl (by kernel_rfl) _ rfl) rfl ?_;have FW:Am w.heap.size w8 WF.drew:=(f3 _ (by omega)).drew;refine⟨T,A2,fR,AV,AX,fK,fJ,kv,kx,Av,by unfold Sy.vs_;rw[Gy.out];rfl,ck.out.trans FW,fun _=>⟨rk.out,eG.out,?_,fun f hf=>?_⟩⟩
   . have hz:=HZ.out
     have fC:=GG.out;have pI:=EA.out;refine fH.out WF.drew (by show w7.heap.size<=WF.heap.size;omega) fun k aM fU=>(f2 k (by omega)).trans (HSM.out k fU)
   obtain⟨i,hi,rfl⟩:=LT hf;exact dJ.out i hi hi
 have Gk:¬(T.xs.length:Int)<=16:=by omega
 refine zr [(0,Av),(1,Av),(2,Av),(3,Av),(4,Av),(5,Av),(6,Av),(7,Av),(8,Av),(9,Av),(10,Av),(11,Av),(12,Av),(13,Av),(14,Av),(15,Av),(16,Av),(17,Av),(18,Aw),(19,Aw)] (fun X=>X.heap[w7.heap.size]?=J (Ag #[O U T.p.t.n,O U T.p.t.ins,O U T.p.t.outs,I A2 T.p.t.cases.length fK,O U T.p.a.n,I fR T.p.a.sts.length fJ,O U T.p.k,O U T.n,I AV T.vs.length kv,I AX T.xs.length kx] 39 (0,0))/\X.heap[w.heap.size]?=J (Ag #[O U p.t.n,O U p.t.ins,O U p.t.outs,I A p.t.cases.length kc,O U p.a.n,I SV p.a.sts.length ks,O U p.k] 29 (0,0))) (by kernel_rfl) (by kernel_rfl) aS.out ?_
 repeat
  apply zk rfl
  . rintro K' aa X ⟨u1,u2⟩
    obtain⟨x0,x1,x2,x3,x4,x5,x6,x7,x8,x9⟩:=zM (u1);have v0:=zh u2 0 rfl;rw[Gy.out] at x7;clear u1 u2;go_simp;exact aa
 refine zu rfl ?_;intro K' aa;go_simp;obtain⟨WF,dP,f1,f2,f3,f4⟩:=vV E1.out (O U T.p.t.n) (O U T.p.t.ins) (O U T.p.t.outs) (I A2 T.p.t.cases.length fK) (O U T.p.a.n) (I fR T.p.a.sts.length fJ) (O U T.p.k) (O U p.t.n) (I AV T.vs.length kv) (I AX T.xs.length kx);rw[dP];have Hr:=HZ.out;have sN:=GG.out;have SD:As (WF.drew.heap[w7.heap.size]?=J (Ag #[O U T.p.t.n,O U T.p.t.ins,O U T.p.t.outs,I A2 T.p.t.cases.length fK,O U T.p.a.n,I fR T.p.a.sts.length fJ,O U T.p.k,O U T.n,I AV T.vs.length kv,I AX T.xs.length kx] 39 (0,0))/\WF.drew.heap[w.heap.size]?=J (Ag #[O U p.t.n,O U p.t.ins,O U p.t.outs,I A p.t.cases.length kc,O U p.a.n,I SV p.a.sts.length ks,O U p.k] 29 (0,0))):=⟨(f2 _ (by omega)).trans aS.out.1,(f2 _ (by omega)).trans aS.out.2⟩;refine aa _ _ SD.out ?_;clear aa K';refine zu rfl ?_;intro K' aa;go_simp;refine aa _ _ SD.out ?_;refine zz ?_;clear aa K';go_wp2_with fail
 (try simp only[Exit.inBlock,Exit.then])
 refine LP (yf (P:=Al) rfl _ _ (w.heap.size+1) 39 _ (0,0) _ rfl (show WF.drew.heap[w.heap.size+1]?=_ from f1) Pn rfl (by kernel_rfl) _ rfl) rfl ?_;have FW:Am w.heap.size w8 WF.drew:=(f3 _ (by omega)).drew;refine⟨T,A2,fR,AV,AX,fK,fJ,kv,kx,Aw,by unfold Sy.vs_;rw[Gy.out];rfl,ck.out.trans FW,fun _=>⟨rk.out,eG.out,?_,fun f hf=>?_⟩⟩
 . have hz:=HZ.out
   have fC:=GG.out;have pI:=EA.out;refine fH.out WF.drew (by show w7.heap.size<=WF.heap.size;omega) fun k aM fU=>(f2 k (by omega)).trans (HSM.out k fU)
 obtain⟨i,hi,rfl⟩:=LT hf;exact dJ.out i hi hi
end
section
open Go.RowKit
theorem sizS_congr{R R':Fm->Nat×Nat}{l:List Fm}(h:∀x∈l,R x=R' x):zP R l=zP R' l:=by
 unfold zP
 generalize ((1,0):Nat×Nat)=a
 induction l generalizing a with
 | nil=>rfl
 | cons x l ih=>
  rw[N7,N7,h x (by simp)];exact ih (fun y hy=>h y (by simp[hy])) _
theorem sizF_up:∀ {d:Nat} {f:Fm},inD d f->zR (d+1) f=zR d f
 | 0,f,h=>by
  have h:f.args=[]:=h;show((zP (zR 0) f.args).1,(zP (zR 0) f.args).2+1)=((zP (fun _=>(0,0)) f.args).1,(zP (fun _=>(0,0)) f.args).2+1);rw[h];rfl
 | d+1,f,h=>by
  show((zP (zR (d+1)) f.args).1,(zP (zR (d+1)) f.args).2+1)=((zP (zR d) f.args).1,(zP (zR d) f.args).2+1);rw[sizS_congr fun x hx=>sizF_up (h x hx)]
theorem Zu{d d':Nat}{f:Fm}(h:inD d f)(hd:d<=d'):zR d' f=zR d f:=by
 induction hd with
 | refl=>rfl
 | step cG ih=>rw[sizF_up (inD_le h cG),ih]
theorem Ja(n:Nat):∀ {d:Nat} {f:Fm},inD d f->yW n (d+1) f=yW n d f
 | 0,f,h=>by
  have h:f.args=[]:=h;show uG n (yW n 0) f=uG n (fun _=>0) f;unfold uG;rw[h];rfl
 | d+1,f,h=>by
  show uG n (yW n (d+1)) f=uG n (yW n d) f;unfold uG;rw[Ps fun x hx=>Ja n (h x hx)]
theorem uF(n:Nat){d d':Nat}{f:Fm}(h:inD d f)(hd:d<=d'):yW n d' f=yW n d f:=by
 induction hd with
 | refl=>rfl
 | step cG ih=>rw[Ja n (inD_le h cG),ih]
structure OkF(n d:Nat)(f:Fm)(a b:Nat):Prop where
 deep:inD d f
 nod:yW n d f=0
 size:(zR d f).1<=a
 depth:(zR d f).2<=b
theorem OkF.more{n d a b:Nat}{f:Fm}(h:OkF n d f a b){a' b':Nat}(ha:a<=a')(hb:b<=b'):OkF n d f a' b':=
 ⟨h.deep,h.nod,Lu h.size ha,Lu h.depth hb⟩
theorem OkF.one{n d a b:Nat}{f:Fm}(h:OkF n d f a b){op p g:Int}(hn:qI n ⟨op,p,0,0,g⟩ 1=0):OkF n (d+1) (f1 op p g f) (a+1) (b+1):=by
 refine⟨?_,?_,?_,?_⟩
 . intro x hx
   have:x=f:=by simpa[f1,Fm.args] using hx
   rw[this];exact h.deep
 . show(if qI n ⟨op,p,0,0,g⟩ 1≠0 then _ else YC [yW n d f])=0
   rw[Lg (by rw[hn];simp),h.nod];rfl
 . show 1+(zR d f).1<=a+1
   have:=h.size;omega
 show max 0 (zR d f).2+1<=b+1;have:=h.depth;omega
theorem OkF.knows{n d a b:Nat}{f:Fm}(h:OkF n d f a b){q:Nat}(hq:q<n):OkF n (d+1) (f1 10 q 0 f) (a+1) (b+1):=h.one (by
 have h1:(0:Int)<=(q:Int)/\(q:Int)<=(n:Int)-1:=by omega
 simp[qI,arN,usP,usO,usV,usG];omega)
theorem OkF.group{n d a b:Nat}{f:Fm}(h:OkF n d f a b){op g:Int}(ho:op=11\/op=12\/op=13)(hg:1<=g/\g<=2^n-1):OkF n (d+1) (f1 op 0 g f) (a+1) (b+1):=h.one (by
 have h1:¬(g<1\/(2:Int)^n-1<g):=by omega
 rcases ho with rfl | rfl | rfl<;>simp[qI,arN,usP,usO,usV,usG]<;>omega)
theorem OkF.fml{n d a b:Nat}{f:Fm}(h:OkF n d f a b)(hn:1<=n/\n<=5)(ha:a<=128)(hb:b<=24):qy (n:Int) d f=0:=by
 unfold qy;have h1:=h.size;have h2:=h.depth;rw[Lg (by omega)];have:uW (zR d f)=0:=by unfold uW;rw[Lg (by omega),Lg (by omega)]
 rw[this,Lg (by simp),Lm,h.nod]
end
section
open Go.RowKit
def Vf(s:Sy)(out:List Int)(n a b:Nat)(f:Fm)(A:List Bool):Prop:=∃d,OkF n d f a b/\qk s out d f=A
section
variable {s:Sy} {out:List Int} {n a b a' b':Nat} {f k:Fm} {A B:List Bool}
theorem Vf.at_(h:Vf s out n a b f A){D:Nat}(hD:inD D f):qk s out D f=A:=by
 obtain⟨d,h1,rfl⟩:=h;rcases Nat.le_total d D with h2 | h2
 . exact XT s out h1.deep h2
 exact(XT s out hD h2).symm
theorem Vf.len(h:Vf s out n a b f A):A.length=ptn s:=by obtain⟨d,_,rfl⟩:=h;exact ZM ..
theorem Vf.more(h:Vf s out n a b f A)(ha:a<=a')(hb:b<=b'):Vf s out n a' b' f A:=by obtain⟨d,h1,h2⟩:=h;exact⟨d,h1.more ha hb,h2⟩
theorem Vf.com(h:Vf s out n a b f A){g:Int}(hg:1<=g/\g<=2^n-1):Vf s out n (a+1) (b+1) (f1 13 0 g f) (yq (ptn s) (evG s g) A (ptn s)):=by obtain⟨d,h1,rfl⟩:=h;exact⟨d+1,h1.group (.inr (.inr rfl)) hg,rfl⟩
end
end
section
open Go.RowKit Go.Shelf
attribute [local go_sem] Oper.semAt_some
structure TopW(s:Sy)(K N:Nat):Prop where
 lo:LowS s
 few:yU s.p
 ver:yc s=0
 fine:Fine s K N
 p1:1<=ptn s
 p7:ptn s<=700
theorem TopW.of{s:Sy}(hs:LowS s)(hf:yU s.p)(hv:yc s=0):∃K N,TopW s K N:=by
 obtain⟨_,K,N,hF⟩:=yF hf hv;have hp:=hF.n1;have hn:=hF.n
 obtain⟨f1,f2,_⟩:=xC (s:=s) (g:=0) hf (by
  unfold zQ;rw[Lg (by rw[hv];simp),Lg];have:(0:Int)<2^s.n.toNat:=Int.pow_pos (by decide)
  omega)
 exact⟨K,N,hs,hf,hv,hF,f1,f2⟩
end
section
open Go.RowKit
section
variable (F G:Fm) (v u:Au) (w:Ba) (hF:FmA w F v) (hG:FmA w G u)
include hF
theorem tryGrA(op:Int)(bZ:op=11\/op=12\/op=13)(g:Int):An Al 10 #[O U op,O U g,v] w (RetFa (f1 op 0 g F) w):=(tryGr_any op bZ g F v w _ hF).mono fun _ _ h=>h.all
include hG
end
theorem topW_of{p:Pb}(hl:Y0 p)(h:kj p=Av):∃K N,TopW (zY p).1 K N/\(zY p).1.p=p/\(zY p).1=qM p/\p.t.n=(N:Int):=by
 have h2:=h;unfold kj at h2;rw[L8,Pd] at h2;have hf:=(few_x h2.1).1
 have hb:zY p=(qM p,0):=by
  by_cases h0:zZ p=0
  case neg=>rw[xn h0] at h2;exact absurd h2.2 h0
  by_cases h1:4096<yt p
  . rw[xA h0 h1] at h2;cases h2.2
  rw[qA h0 (by omega)]
 have hp:(zY p).1.p=p:=by rw[hb];rfl
 have hv:yc (zY p).1=0:=by
  unfold yc;rw[hp,Lg (by simpa using h2.2),Lj rfl]
 obtain⟨K,N,hT⟩:=TopW.of (gc hl hf) (by rw[hp];exact hf) hv;refine⟨K,N,hT,hp,by rw[hb],?_⟩;have:=hT.fine.pn;rw[hp] at this;exact this
theorem okTry.vf{s:Sy}{n:Int}{N d:Nat}{f:Fm}(h:okTry n d f)(hn:n=(N:Int)):Vf s [] N 12 6 f (qk s [] d f):=by
 have h1:=XD h.2.1;rw[hn,Lm] at h1;exact⟨d,⟨h.1,h1,h.2.2.1,h.2.2.2⟩,rfl⟩
end
section
def wisC1:Cs:=⟨[0,0],[[0,0]],[]⟩
def wisC2:Cs:=⟨[0,1],[[0,0]],[]⟩
def wisMv:Mv:=⟨⟨2,1,2,0,0,0,0⟩,0⟩
def vE:Pb:=⟨⟨2,2,1,[wisC1,wisC2]⟩,⟨2,[[wisMv]]⟩,1⟩
def jC:Sy:=(zY vE).1
def jD:Fm:=.mk ⟨1,1,0,1,0⟩ []
theorem wis_few:qf vE=Av:=by decide +kernel
theorem ZJ:yU vE:=(few_x wis_few).1
theorem wis_ok:(zY vE).2=0:=by decide +kernel
theorem wis_low:Y0 vE:=by
 refine⟨⟨by decide,fun c hc=>?_⟩,by decide,fun l hl=>?_⟩
 . have:c=wisC1\/c=wisC2:=by simpa[vE] using hc
   rcases this with rfl | rfl
   . refine⟨by decide,by decide,by decide,fun v hv=>?_,fun v hv=>?_⟩
     . have:v=[0,0]:=by simpa[wisC1] using hv
       subst this;decide
     simp[wisC1] at hv
   refine⟨by decide,by decide,by decide,fun v hv=>?_,fun v hv=>?_⟩
   . have:v=[0,0]:=by simpa[wisC2] using hv
     subst this;decide
   simp[wisC2] at hv
 have:l=[wisMv]:=by simpa[vE] using hl
 subst this;decide
theorem QE:LowS jC:=gc wis_low ZJ
theorem wiss_p:jC.p=vE:=by decide +kernel
theorem wiss_ver:yc jC=0:=by decide +kernel
theorem Y7:yU jC.p:=by rw[wiss_p];exact ZJ
theorem wiss_pt:ptn jC=4/\jC.n=2:=by decide +kernel
theorem wis_one:qk jC [] 1 (f1 10 1 0 jD)=[Aw,Aw,Av,Av]:=by decide +kernel
theorem wis_none:qk jC [] 1 (f1 10 0 0 jD)=[Aw,Aw,Aw,Aw]:=by decide +kernel
end
section
open Go.RowKit Go.Shelf
attribute [local go_sem] Oper.semAt_some
theorem tev_at{s:Sy}{K N:Nat}(hT:TopW s K N){f:Fm}{d:Nat}(h1:OkF N d f 128 24){D:Nat}(hD:inD D f):tevE s [] D f=(qk s [] d f,0)/\(zR D f).1<=1000000:=by
 have e1:zR D f=zR d f:=by rw[<-Zu hD (Pc d D),Zu h1.deep (PB d D)]
 have e2:yW N D f=yW N d f:=by rw[<-uF N hD (Pc d D),uF N h1.deep (PB d D)]
 have e3:qk s [] D f=qk s [] d f:=by rw[<-XT s [] hD (Pc d D),XT s [] h1.deep (PB d D)]
 have dJ:OkF N D f 128 24:=⟨hD,by rw[e2];exact h1.nod,by rw[e1];exact h1.size,by rw[e1];exact h1.depth⟩;have hn:=hT.fine.pn;have WM:=dJ.fml ⟨hT.fine.n1,hT.fine.n5⟩ (by omega) (by omega);refine⟨?_,by have:=dJ.size;omega⟩;unfold tevE;rw[Lg (by rw[hT.ver];simp),Lg (by simp),Lg (by rw[hn,WM];simp),e3]
theorem wis_top:∃K,TopW jC K 2:=by
 obtain⟨K,N,h⟩:=TopW.of QE Y7 wiss_ver;have h2:=h.fine.n;rw[wiss_pt.2] at h2;obtain rfl:N=2:=by omega
 exact⟨K,h⟩
theorem wis_okf:OkF 2 0 jD 1 1:=⟨rfl,by decide +kernel,by decide +kernel,by decide +kernel⟩
theorem wis_ok1:OkF 2 1 (f1 10 1 0 jD) 128 24:=(OkF.knows (q:=1) wis_okf (by decide)).more (by omega) (by omega)
theorem wis_ok0:OkF 2 1 (f1 10 0 0 jD) 128 24:=(OkF.knows (q:=0) wis_okf (by decide)).more (by omega) (by omega)
theorem QF(F:Fm)(R:List Bool)(dJ:OkF 2 1 F 128 24)(hR:qk jC [] 1 F=R)(hl:R.length=4)(v:Au)(A SV AV AX:Bb)(kc ks kv kx:Nat)(w:Ba)(hS:SyAt w w.heap.size A SV AV AX jC)(hF:FmA w F v) :
  An Al 24 #[.agg (jC.vs_ A kc SV ks AV kv AX kx),Ai #[I Z 0 0],v] w fun e w'=>∃A c,e=Ak (.tuple #[I A 4 c,O U 0])/\BAt w' w'.heap.size A R/\Am w.heap.size w w':=by
 obtain⟨K,hT⟩:=wis_top;obtain⟨d,AF,cf,rfl,hA⟩:=hF;have hA:=hA.at_;obtain⟨h1,h2⟩:=tev_at hT dJ (Qr hA);have hC:=Xb jC QE Y7 [] d F h2 A SV AV AX AF Z kc ks kv kx cf 0 w hS (fun h=>absurd h (by simp)) hA;rw[h1,hR] at hC;refine hC.mono ?_;rintro e w' ⟨A',c',rfl,hb,_,hw⟩;dsimp only;rw[hl];exact⟨A',c',rfl,hb,hw⟩
theorem QJ(w:Ba):An Al 7 #[] w fun e w'=>e=Ak (Ah Av)/\Am w.heap.size w w':=by
 obtain⟨a0,Oh,e0,rB,fP⟩:=zn w #[O U 0,O U 0] 3;obtain⟨a1,fw,e1,av,aF⟩:=zn a0 #[O U 0,O U 0] 3;obtain⟨a2,pV,e2,cM,ae⟩:=zn a1 #[I (J ⟨w.heap.size+1,0,Z⟩) 2 2] 50;obtain⟨a3,Of,e3,cz,ak⟩:=zn a2 #[O U 0,O U 1] 3;obtain⟨a4,CZ,e4,iy,aD⟩:=zn a3 #[O U 0,O U 0] 3;obtain⟨a5,ha5,e5,cY,am⟩:=zn a4 #[I (J ⟨w.heap.size+1+1+1+1,0,Z⟩) 2 2] 50;obtain⟨a6,T0,e6,fD,cB⟩:=zn a5 #[I (J ⟨w.heap.size,0,Z⟩) 2 2,I (J ⟨w.heap.size+1+1,0,Z⟩) 1 1,I Z 0 0,I (J ⟨w.heap.size+1+1+1,0,Z⟩) 2 2,I (J ⟨w.heap.size+1+1+1+1+1,0,Z⟩) 1 1,I Z 0 0] 71;obtain⟨a7,ha7,e7,fC,dE⟩:=zn a6 #[O U 2,O U 2,O U 1,I (J ⟨w.heap.size+1+1+1+1+1+1,0,Z⟩) 2 2] 24;obtain⟨a8,ha8,e8,sc,eD⟩:=zn a7 #[O U 2,O U 1,O U 2,O U 0,O U 0,O U 0,O U 0,O U 0] 78;obtain⟨a9,ha9,e9,sO,dL⟩:=zn a8 #[I (J ⟨w.heap.size+1+1+1+1+1+1+1+1,0,Z⟩) 1 1] 79;obtain⟨mH,Og,rO,pH,ct⟩:=zn a9 #[O U 2,I (J ⟨w.heap.size+1+1+1+1+1+1+1+1+1,0,Z⟩) 1 1] 27;rw[rB] at e1 av;rw[av] at e2 cM;rw[cM] at e3 cz;rw[cz] at e4 iy;rw[iy] at e5 cY;rw[cY] at e6 fD;rw[fD] at e7 fC;rw[fC] at e8 sc;rw[sc] at e9 sO;rw[sO] at rO pH
 have D0:As (mH.heap[w.heap.size]?=J (Ag #[O U 0,O U 0] 3 (0,0))):=Lb ct (by omega) (Lb dL (by omega) (Lb eD (by omega) (Lb dE (by omega) (Lb cB (by omega) (Lb am (by omega) (Lb aD (by omega) (Lb ak (by omega) (Lb ae (by omega) (Lb aF (by omega) (e0))))))))));have D1:As (mH.heap[w.heap.size+1]?=J (Ag #[O U 0,O U 0] 3 (0,0))):=Lb ct (by omega) (Lb dL (by omega) (Lb eD (by omega) (Lb dE (by omega) (Lb cB (by omega) (Lb am (by omega) (Lb aD (by omega) (Lb ak (by omega) (Lb ae (by omega) (e1)))))))));have D2:As (mH.heap[w.heap.size+1+1]?=J (Ag #[I (J ⟨w.heap.size+1,0,Z⟩) 2 2] 50 (0,0))):=Lb ct (by omega) (Lb dL (by omega) (Lb eD (by omega) (Lb dE (by omega) (Lb cB (by omega) (Lb am (by omega) (Lb aD (by omega) (Lb ak (by omega) (e2))))))))
 have D3:As (mH.heap[w.heap.size+1+1+1]?=J (Ag #[O U 0,O U 1] 3 (0,0))):=Lb ct (by omega) (Lb dL (by omega) (Lb eD (by omega) (Lb dE (by omega) (Lb cB (by omega) (Lb am (by omega) (Lb aD (by omega) (e3)))))));have D4:As (mH.heap[w.heap.size+1+1+1+1]?=J (Ag #[O U 0,O U 0] 3 (0,0))):=Lb ct (by omega) (Lb dL (by omega) (Lb eD (by omega) (Lb dE (by omega) (Lb cB (by omega) (Lb am (by omega) (e4))))));have D5:As (mH.heap[w.heap.size+1+1+1+1+1]?=J (Ag #[I (J ⟨w.heap.size+1+1+1+1,0,Z⟩) 2 2] 50 (0,0))):=Lb ct (by omega) (Lb dL (by omega) (Lb eD (by omega) (Lb dE (by omega) (Lb cB (by omega) (e5)))));have D6:As (mH.heap[w.heap.size+1+1+1+1+1+1]?=J (Ag #[I (J ⟨w.heap.size,0,Z⟩) 2 2,I (J ⟨w.heap.size+1+1,0,Z⟩) 1 1,I Z 0 0,I (J ⟨w.heap.size+1+1+1,0,Z⟩) 2 2,I (J ⟨w.heap.size+1+1+1+1+1,0,Z⟩) 1 1,I Z 0 0] 71 (0,0))):=Lb ct (by omega) (Lb dL (by omega) (Lb eD (by omega) (Lb dE (by omega) (e6))))
 have D7:As (mH.heap[w.heap.size+1+1+1+1+1+1+1]?=J (Ag #[O U 2,O U 2,O U 1,I (J ⟨w.heap.size+1+1+1+1+1+1,0,Z⟩) 2 2] 24 (0,0))):=Lb ct (by omega) (Lb dL (by omega) (Lb eD (by omega) (e7)));have D8:As (mH.heap[w.heap.size+1+1+1+1+1+1+1+1]?=J (Ag #[O U 2,O U 1,O U 2,O U 0,O U 0,O U 0,O U 0,O U 0] 78 (0,0))):=Lb ct (by omega) (Lb dL (by omega) (e8));have D9:As (mH.heap[w.heap.size+1+1+1+1+1+1+1+1+1]?=J (Ag #[I (J ⟨w.heap.size+1+1+1+1+1+1+1+1,0,Z⟩) 1 1] 79 (0,0))):=Lb ct (by omega) (e9);have D10:As (mH.heap[w.heap.size+1+1+1+1+1+1+1+1+1+1]?=J (Ag #[O U 2,I (J ⟨w.heap.size+1+1+1+1+1+1+1+1+1,0,Z⟩) 1 1] 27 (0,0))):=rO;have HB:As (Am w.heap.size w mH):=((((((((((fP).trans (aF.mono (by omega))).trans (ae.mono (by omega))).trans (ak.mono (by omega))).trans (aD.mono (by omega))).trans (am.mono (by omega))).trans (cB.mono (by omega))).trans (dE.mono (by omega))).trans (eD.mono (by omega))).trans (dL.mono (by omega))).trans (ct.mono (by omega));have UV:=zH Oh;have Tb:=zH fw;have Hk:=zH pV;have pg:=zH Of;have Hj:=zH CZ;have IV:=zH ha5;have IU:=zH T0;have HA7:=zH ha7;have HA8:=zH ha8;have HA9:=zH ha9;have Ta:=zH Og;have HS:=zH pH
 clear Oh e0 fP fw e1 aF pV e2 ae Of e3 ak CZ e4 aD ha5 e5 am T0 e6 cB ha7 e7 dE ha8 e8 eD ha9 e9 dL Og rO ct rB av cM cz iy cY fD fC sc sO pH
 have Ud:CAt mH mH.heap.size (J ⟨w.heap.size+1+1+1+1+1+1,0,Z⟩) vE.t.cases:=by
  have i0:IAtS (fun _=>True) mH _ [0,0]:=uN trivial D0.out;have i1:IAtS (fun _=>True) mH _ [0,0]:=uN trivial D1.out;have i3:IAtS (fun _=>True) mH _ [0,1]:=uN trivial D3.out;have i4:IAtS (fun _=>True) mH _ [0,0]:=uN trivial D4.out;have l2:=Jk (v:=[0,0]) (S:=fun _=>True) trivial D2.out i1;have l5:=Jk (v:=[0,0]) (S:=fun _=>True) trivial D5.out i4
  exact fun _=>⟨_,0,rfl,zj D6.out,fun i hi=>by
   have h2:i=0\/i=1:=by have:i<2:=hi;omega
   rcases h2 with rfl | rfl
   . exact⟨_,_,_,zh D6.out 0 rfl,zh D6.out 1 rfl,zh D6.out 2 rfl,⟨_,2,rfl,i0.iat⟩,⟨_,1,rfl,l2.lat⟩,⟨Z,0,rfl,LAt.nil _ _ _⟩⟩
   . exact⟨_,_,_,zh D6.out 3 rfl,zh D6.out 4 rfl,zh D6.out 5 rfl,⟨_,2,rfl,i3.iat⟩,⟨_,1,rfl,l5.lat⟩,⟨Z,0,rfl,LAt.nil _ _ _⟩⟩⟩
 have T6:SAt mH mH.heap.size (J ⟨w.heap.size+1+1+1+1+1+1+1+1+1,0,Z⟩) vE.a.sts:=fun _=>⟨_,0,rfl,zj D9.out,fun i hi=>by
  obtain rfl:i=0:=by have:i<1:=hi;omega
  refine⟨_,1,zh D9.out 0 rfl,fun _=>⟨_,0,rfl,zj D8.out,fun i hi k u hu=>?_⟩⟩;obtain rfl:i=0:=by have:i<1:=hi;omega
  have hk8:k<8:=(Ln.1 hu).1;rw[<-hu];have h8:k=0\/k=1\/k=2\/k=3\/k=4\/k=5\/k=6\/k=7:=by omega
  rcases h8 with rfl | rfl | rfl | rfl | rfl | rfl | rfl | rfl
  all_goals exact zh D8.out _ rfl⟩
 have aR:=XN vE ZJ _ 2 _ 1 mH Ud T6;have HR:As (zY vE=(jC,0)):=Prod.ext rfl wis_ok;rw[HR.out] at aR;have oU:vE.vs (J ⟨w.heap.size+1+1+1+1+1+1,0,Z⟩) 2 (J ⟨w.heap.size+1+1+1+1+1+1+1+1+1,0,Z⟩) 1=#[O U 2,O U 2,O U 1,I (J ⟨w.heap.size+1+1+1+1+1+1,0,Z⟩) 2 2,O U 2,I (J ⟨w.heap.size+1+1+1+1+1+1+1+1+1,0,Z⟩) 1 1,O U 1]:=rfl;rw[oU] at aR;have dV:=zH aR;obtain⟨x0,x1,x2,x3,_⟩:=Ka (D7.out);obtain⟨y0,y1,_⟩:=Ke (D10.out);clear Ud T6 aR oU HR;go_enter func7,ntmps7;go_upto_region 3 with fail
 rw[UV.out,Tb.out,Hk.out,pg.out,Hj.out,IV.out,IU.out,HA7.out,HA8.out,HA9.out,Ta.out];go_wp2_with fail;refine dV.out.mono ?_;rintro e w2 ⟨A,kc,SV,ks,AV,kv,AX,kx,rfl,C1,_,_,ae⟩;dsimp only at C1 ⊢;obtain⟨w3,bL,d3,cz,ak⟩:=zn w2 (jC.vs_ A kc SV ks AV kv AX kx) 39;obtain⟨w4,fh,d4,iy,aD⟩:=zn w3 (jD.vs Z 0) 32;have FY:Am w2.heap.size w2 w4:=ak.trans (aD.mono (by omega));have d3:=Lb aD (by omega) d3;rw[cz] at d4 iy;have fB:=zH (HB.out.trans ((Lc ae FY).mono HB.out.size));have fH:As (∀X,Am w4.heap.size w4 X->SyAt X X.heap.size A SV AV AX jC):=fun X hX=>(C1.up FY).up hX
 have HFM:As (∀X,Am w4.heap.size w4 X->FmA X jD (.agg (jD.vs Z 0))):=fun X hX=>FmA.keep (FmA.of (d:=0) (show jD.args=[] from rfl)) hX
 have aS:As (∀X,Am w4.heap.size w4 X->X.heap[w2.heap.size]?=J (Ag (jC.vs_ A kc SV ks AV kv AX kx) 39 (0,0))/\X.heap[w2.heap.size+1]?=J (Ag (jD.vs Z 0) 32 (0,0))):=fun X hX=>⟨Lb hX (by omega) d3,Lb hX (by omega) d4⟩
 have ai:=zH (fun (v:Au) (X:Ba) (hX:Am w4.heap.size w4 X) (hv:FmA X (f1 10 1 0 jD) v)=>QF (f1 10 1 0 jD) _ wis_ok1 wis_one rfl v A SV AV AX kc ks kv kx X (fH.out X hX) hv);have be:=zH (fun (v:Au) (X:Ba) (hX:Am w4.heap.size w4 X) (hv:FmA X (f1 10 0 0 jD) v)=>QF (f1 10 0 0 jD) _ wis_ok0 wis_none rfl v A SV AV AX kc ks kv kx X (fH.out X hX) hv);have Ce:=zH (fun (X:Ba) (hX:Am w4.heap.size w4 X)=>(Y9 1 jD _ X (fun _=>True) (HFM.out X hX)).mono fun _ _ h=>h.all);have UK:=zH (fun (X:Ba) (hX:Am w4.heap.size w4 X)=>(Y9 0 jD _ X (fun _=>True) (HFM.out X hX)).mono fun _ _ h=>h.all);obtain⟨T,hT⟩:=Kj jC;simp only[hT] at fH aS ai be bL d3 ⊢;have cx:jD.vs Z 0=#[O U 1,O U 1,O U 0,O U 1,O U 0,I Z 0 0]:=rfl;rw[cx] at fh d4 Ce UK;simp only[cx] at aS;unfold RetFa at Ce UK;unfold Sy.vs_ at bL d3 aS ai be ⊢;have fy:=zH bL;have im:=zH fh;clear bL fh C1 ae ak aD FY dV d3 d4 hT cx HFM fH D0 UV D1 Tb D2 Hk D3 pg D4 Hj D5 IV D6 IU D7 HA7 D8 HA8 D9 HA9 D10 Ta x0 x1 x2 x3 y0 y1;go_upto_region 5 with fail
 rw[fy.out,im.out];have G4:As (Am w4.heap.size w4 w4):=Ll _ _;refine zr [(0,Av),(1,Av),(2,Av),(3,Aw),(4,Aw),(5,Av),(6,Av),(7,Av),(8,Av),(9,Av)] (fun X=>X.heap[w2.heap.size]?=J (Ag #[O U T.p.t.n,O U T.p.t.ins,O U T.p.t.outs,I A T.p.t.cases.length kc,O U T.p.a.n,I SV T.p.a.sts.length ks,O U T.p.k,O U T.n,I AV T.vs.length kv,I AX T.xs.length kx] 39 (0,0))/\X.heap[w2.heap.size+1]?=J (Ag #[O U 1,O U 1,O U 0,O U 1,O U 0,I Z 0 0] 32 (0,0))) (by kernel_rfl) (by kernel_rfl) (aS.out _ G4.out.drew) ?_
 repeat
  apply zk rfl
  . rintro K' aa X ⟨u1,u2⟩
    obtain⟨x0,x1,x2,x3,x4,x5,x6,x7,x8,x9⟩:=zM (u1);obtain⟨y0,y1,y2,y3,y4,y5,_⟩:=Ki (u2);clear u1 u2;go_simp;exact aa
 refine zu rfl ?_;intro K' aa;go_simp;refine(Ce.out _ G4.out.drew).mono ?_;rintro e w5 ⟨vw5,rfl,hv,hb⟩;have HV:=zH hv;have G5:As (Am w4.heap.size w4 w5):=G4.out.drew.trans (hb.mono G4.out.size);refine aa _ _ (aS.out _ G5.out) ?_;clear aa K' hb hv;refine zu rfl ?_;intro K' aa;go_simp;refine(ai.out _ w5 G5.out HV.out).mono ?_;rintro e w6 ⟨A6,c6,rfl,hr,hb⟩;have EF:=zH hr;have G6:=zH (Lc G5.out hb);refine aa _ _ (aS.out _ G6.out) ?_;clear aa K' hb hr
 repeat
  apply zk rfl
  . rintro K' aa X ⟨u1,u2⟩
    obtain⟨x0,x1,x2,x3,x4,x5,x6,x7,x8,x9⟩:=zM (u1);obtain⟨y0,y1,y2,y3,y4,y5,_⟩:=Ki (u2);clear u1 u2;go_simp;exact aa
 refine zz ?_;go_upto_region 6 with fail
 refine zr [(0,Av),(1,Av),(2,Av),(3,Aw),(4,Aw),(5,Av),(6,Av),(7,Av),(8,Av),(9,Av)] (fun X=>X.heap[w2.heap.size]?=J (Ag #[O U T.p.t.n,O U T.p.t.ins,O U T.p.t.outs,I A T.p.t.cases.length kc,O U T.p.a.n,I SV T.p.a.sts.length ks,O U T.p.k,O U T.n,I AV T.vs.length kv,I AX T.xs.length kx] 39 (0,0))/\X.heap[w2.heap.size+1]?=J (Ag #[O U 1,O U 1,O U 0,O U 1,O U 0,I Z 0 0] 32 (0,0))) (by kernel_rfl) (by kernel_rfl) (aS.out _ G6.out.drew) ?_
 repeat
  apply zk rfl
  . rintro K' aa X ⟨u1,u2⟩
    obtain⟨x0,x1,x2,x3,x4,x5,x6,x7,x8,x9⟩:=zM (u1);obtain⟨y0,y1,y2,y3,y4,y5,_⟩:=Ki (u2);clear u1 u2;go_simp;exact aa
 refine zu rfl ?_;intro K' aa;go_simp;refine(UK.out _ G6.out.drew).mono ?_;rintro e w7 ⟨vw7,rfl,hv,hb⟩;have HV:=zH hv;have HL7:=zH (((show BAt w6.drew w6.drew.heap.size A6 [Aw,Aw,Av,Av] from EF.out).keep hb).more hb.size);have G7:As (Am w4.heap.size w4 w7):=G6.out.drew.trans (hb.mono G6.out.size);refine aa _ _ (aS.out _ G7.out) ?_;clear aa K' hb hv;refine zu rfl ?_;intro K' aa;go_simp;refine(be.out _ w7 G7.out HV.out).mono ?_;rintro e w8 ⟨A8,c8,rfl,hr,hb⟩;have HM8:=zH hr;have HL8:=zH ((HL7.out.keep hb).more hb.size);have G8:=zH (Lc G7.out hb);refine aa _ _ (aS.out _ G8.out) ?_;clear aa K' hb hr
 repeat
  apply zk rfl
  . rintro K' aa X ⟨u1,u2⟩
    obtain⟨x0,x1,x2,x3,x4,x5,x6,x7,x8,x9⟩:=zM (u1);obtain⟨y0,y1,y2,y3,y4,y5,_⟩:=Ki (u2);clear u1 u2;go_simp;exact aa
 refine zz ?_;obtain⟨w9,KL,d9,sO,dL⟩:=zn w8 #[Ah Aw,Ah Aw,Ah Av,Ah Av] 4
 have Hy:BAt w9 w9.heap.size (J ⟨w8.heap.size,0,Z⟩) [Aw,Aw,Av,Av]:=fun _=>⟨_,0,rfl,zj d9,fun i hi=>by
  have h4:i=0\/i=1\/i=2\/i=3:=by have:i<4:=hi;omega
  rcases h4 with rfl | rfl | rfl | rfl<;>exact zh d9 _ rfl⟩
 have HC:=zH (uR A6 (J ⟨w8.heap.size,0,Z⟩) c6 4 [Aw,Aw,Av,Av] [Aw,Aw,Av,Av] w9 w9.heap.size (Ld _) ((HL8.out.keep dL).more dL.size) Hy (by decide) (by decide));rw[show decide (([Aw,Aw,Av,Av]:List Bool)=[Aw,Aw,Av,Av])=Av by decide] at HC;have HM9:=zH ((HM8.out.keep dL).more dL.size);have Uz:=zH KL;have G9:=zH (Lc G8.out dL);have O9:=zH sO;clear KL d9 sO dL Hy Ce UK ai be;go_wp2_with fail;rw[Uz.out];refine HC.out.mono ?_;rintro e wx ⟨rfl,n9,rfl⟩;obtain⟨v9,Tr⟩:=Kj (w9.drewN n9);have dL:Am w9.heap.size w9 v9:=by rw[<-Tr];exact yy (Ll _ _) n9
 have EQ:=zH (Lc G9.out dL);have HM10:=zH ((HM9.out.keep dL).more dL.size);obtain⟨wa,ic,da,mY,ta⟩:=zn v9 (xM [Aw,Aw,Aw,Aw]) 4
 have hqa:BAt wa wa.heap.size (J ⟨v9.heap.size,0,Z⟩) [Aw,Aw,Aw,Aw]:=fun _=>⟨_,0,rfl,zj da,fun i hi=>by
  have h4:i=0\/i=1\/i=2\/i=3:=by have:i<4:=hi;omega
  rcases h4 with rfl | rfl | rfl | rfl<;>exact zh da _ rfl⟩
 have dv:=zH (uR A8 (J ⟨v9.heap.size,0,Z⟩) c8 4 [Aw,Aw,Aw,Aw] [Aw,Aw,Aw,Aw] wa wa.heap.size (Ld _) ((HM10.out.keep ta).more ta.size) hqa (by decide) (by decide));rw[show decide (([Aw,Aw,Aw,Aw]:List Bool)=[Aw,Aw,Aw,Aw])=Av by decide] at dv;have fl:∀W:Ba,(Instr.makeSlice 58 (O U 4) (O U 4)).run Al W=.ok (I (J ⟨W.heap.size,0,Z⟩) 4 4) (W.alloc (Ag (xM (List.replicate 4 Aw)) 4)):=fun W=>xm 4 (by decide) W
 have AZ:=zH ic;have GA:=zH (Lc EQ.out ta);rw[Tr];clear ic da mY ta hqa HC dL;go_wp2_with fail;rw[AZ.out];refine dv.out.mono ?_;rintro e wx ⟨rfl,Ti,rfl⟩;have ck:As (Am w.heap.size w (wa.drewN Ti)):=yy (Lc fB.out GA.out) Ti;go_wp2_with fail;go_ret;exact⟨rfl,ck.out⟩
end
section
open Go.RowKit Go.Shelf
theorem Vf.tev{s:Sy}{K N:Nat}(hT:TopW s K N){f:Fm}{A:List Bool}(h:Vf s [] N 128 24 f A){D:Nat}(hD:inD D f):tevE s [] D f=(A,0)/\(zR D f).1<=1000000:=by
 have hA:=h.at_ hD;obtain⟨d,h1,h2⟩:=h;have e1:zR D f=zR d f:=by rw[<-Zu hD (Pc d D),Zu h1.deep (PB d D)]
 have e2:yW N D f=yW N d f:=by rw[<-uF N hD (Pc d D),uF N h1.deep (PB d D)]
 have dJ:OkF N D f 128 24:=⟨hD,by rw[e2];exact h1.nod,by rw[e1];exact h1.size,by rw[e1];exact h1.depth⟩;have hn:=hT.fine.pn;have WM:=dJ.fml ⟨hT.fine.n1,hT.fine.n5⟩ (by omega) (by omega);refine⟨?_,by have:=dJ.size;omega⟩;unfold tevE;rw[Lg (by rw[hT.ver];simp),Lg (by simp),Lg (by rw[hn,WM];simp),hA]
end
section
theorem best_near{f:List Int}{d:Int}{n:Nat}{ps:List Nat}{cls:Nat->List Int}(hl:∀p∈ps,(cls p).length=n)(hp:ps.Pairwise (·<·)){i:Nat}(h:∃k,k<n/\qB ps cls i k/\f.getD k 0=d) :
  (yO f d n (zU ps cls i)).1<n/\f.getD (yO f d n (zU ps cls i)).1 0=d/\(yO f d n (zU ps cls i)).2∈ps/\(cls (yO f d n (zU ps cls i)).2).getD (yO f d n (zU ps cls i)).1 0=(cls (yO f d n (zU ps cls i)).2).getD i 0:=by
 obtain⟨k,hk,⟨p,DM,lD⟩,nF⟩:=h;obtain⟨h1,h2⟩:=gh f d n (zU ps cls i) (n,0) (nbr_asc hp i);change (∀t∈zU ps cls i,f.getD t.1 0=d->(yO f d n (zU ps cls i)).1<=t.1) at h1;change yO f d n (zU ps cls i)=(n,0)\/(yO f d n (zU ps cls i)∈_/\_) at h2;have hm:(k,p)∈zU ps cls i:=(kB hl).2 ⟨hk,DM,lD.symm⟩;have h3:=h1 _ hm nF;rcases h2 with e | ⟨j1,j2,j3,j4⟩
 . rw[e] at h3;simp at h3;omega
 obtain⟨k1,k2,k3⟩:=(kB hl).1 j1;exact⟨k1,j2,k2,k3⟩
def Zs(w:List (Nat×Nat))(i:Nat):List Nat:=i::w.map (·.1)
theorem walk_ok{f:List Int}{n:Nat}{ps:List Nat}{cls:Nat->List Int}(hl:∀p∈ps,(cls p).length=n)(hp:ps.Pairwise (·<·))
  (hs:∀i,i<n->0<f.getD i 0->∃k,k<n/\qB ps cls i k/\f.getD k 0=f.getD i 0-1):∀(d i:Nat),i<n->f.getD i 0=(d:Int) ->
  (∀j,j<=d->(Zs (yZ f n (zU ps cls) d i) i).getD j 0<n/\f.getD ((Zs (yZ f n (zU ps cls) d i) i).getD j 0) 0=(d:Int)-j) /\
  (∀j,j<d->((yZ f n (zU ps cls) d i).getD j (0,0)).2∈ps/\(cls ((yZ f n (zU ps cls) d i).getD j (0,0)).2).getD ((Zs (yZ f n (zU ps cls) d i) i).getD (j+1) 0) 0=(cls ((yZ f n (zU ps cls) d i).getD j (0,0)).2).getD ((Zs (yZ f n (zU ps cls) d i) i).getD j 0) 0)
 | 0,i,hi,hf=>by
  refine⟨fun j hj=>?_,fun j hj=>by omega⟩;have:j=0:=by omega
  subst this;exact⟨hi,by rw[show((Zs (yZ f n (zU ps cls) 0 i) i).getD 0 0)=i from rfl,hf];simp⟩
 | d+1,i,hi,hf=>by
  obtain⟨k,hk,ha,nF⟩:=hs i hi (by omega);obtain⟨b1,b2,b3,b4⟩:=best_near (f:=f) (d:=(d:Int)) hl hp ⟨k,hk,ha,by omega⟩;obtain⟨i1,i2⟩:=walk_ok hl hp hs d _ b1 b2;rw[yZ]
  generalize yO f (d:Int) n (zU ps cls i)=b at *
  refine⟨fun j hj=>?_,fun j hj=>?_⟩
  . cases j with
    | zero=>exact⟨hi,by rw[show(Zs (b::yZ f n (zU ps cls) d b.1) i).getD 0 0=i from rfl,hf];simp⟩
    | succ j=>
     obtain⟨c1,c2⟩:=i1 j (by omega);rw[show(Zs (b::yZ f n (zU ps cls) d b.1) i).getD (j+1) 0=(Zs (yZ f n (zU ps cls) d b.1) b.1).getD j 0 from rfl];exact⟨c1,by rw[c2];omega⟩
  . cases j with
    | zero=>exact⟨b3,b4⟩
    | succ j=>exact i2 j (by omega)
theorem Xe{f:Nat->Int}:∀(m i:Nat),(∀k,i<=k->k<i+m->f k=0)->qF f m i=0
 | 0,_,_=>rfl
 | m+1,i,h=>by
  rw[qF,Lg (by simpa using h i (by omega) (by omega))];exact Xe m (i+1) fun k h1 h2=>h k (by omega) (by omega)
theorem uP(n:Nat)(aH:Nat->Nat->Prop)(L:List Nat):(jl n aH L).length=n/\Far n aH (fun i=>i∈L) (fun i=>(jl n aH L).getD i 0):=by
 obtain⟨f,hl,hf⟩:=far_ex n aH (fun i=>i∈L);rw[uQ hl hf];exact⟨hl,hf⟩
structure Wlk(s:Sy)(g:Int)(set:List Bool)(pt:Nat)(f:List Int)(W:List (Int×Int)):Prop where
 len:(W.length:Int)=f.getD pt 0+1
 le:W.length<=set.length
 pos:1<=W.length
 first:(W.getD 0 (0,0)).1=(pt:Int)
 at_:∀j,j<W.length->∃a:Nat,(W.getD j (0,0)).1=(a:Int)/\a<set.length/\f.getD a 0=(W.length:Int)-1-j/\set.getD a Aw=decide ((j:Int)<(W.length:Int)-1)
 ver:qN s g set W=0
theorem wlk_of{s:Sy}{g:Int}{set:List Bool}(hx:yU s.p)(hg:zw s g set=0){pt:Nat}(fE:pt<ptn s)(h0:0<=(jl (ptn s) (xN s g) (yv set)).getD pt 0) :
  Wlk s g set pt (jl (ptn s) (xN s g) (yv set)) (xu (jl (ptn s) (xN s g) (yv set)) (ptn s) (zU (psG s g) (ya s)) pt):=by
 obtain⟨hr,dR⟩:=xz hg;obtain⟨_,l8,_⟩:=xC hx hr;obtain⟨nD,BM⟩:=uP (ptn s) (xN s g) (yv set)
 generalize jl (ptn s) (xN s g) (yv set)=f at *
 obtain⟨d,hd⟩:=Lp h0;have WS:f.getD pt 0<(ptn s:Int):=Qt (f:=fun i=>f.getD i 0) BM.step fE;have aA:∀p∈psG s g,(ya s p).length=ptn s:=fun p _=>uT s p
 obtain⟨w1,w2⟩:=walk_ok aA (psG_asc s g) BM.step d pt fE hd;have mU:(xu f (ptn s) (zU (psG s g) (ya s)) pt).length=d+1:=by unfold xu gI;rw[Lx,LG,vh,hd];rfl
 have hT:(f.getD pt 0).toNat=d:=by omega
 have hW:∀j,j<d+1->(xu f (ptn s) (zU (psG s g) (ya s)) pt).getD j (0,0)=((((Zs (yZ f (ptn s) (zU (psG s g) (ya s)) d pt) pt).getD j 0:Nat):Int),if j=0 then -1 else (((yZ f (ptn s) (zU (psG s g) (ya s)) d pt).getD (j-1) (0,0)).2:Int)):=by
  intro j hj;unfold xu Zs;rw[hT]
  cases j with
  | zero=>rfl
  | succ j=>
   have Wp:j<(yZ f (ptn s) (zU (psG s g) (ya s)) d pt).length:=by rw[vh];omega
   rw[Lg (by omega),RY,RY,ND];unfold gI;rw[Lf,Lf,Lf,NJ,NJ,Li Wp]
   rfl
 have hL:((xu f (ptn s) (zU (psG s g) (ya s)) pt).length:Int)=(d:Int)+1:=by rw[mU];push_cast;rfl
 have hAt:∀j,j<(xu f (ptn s) (zU (psG s g) (ya s)) pt).length->∃a:Nat,((xu f (ptn s) (zU (psG s g) (ya s)) pt).getD j (0,0)).1=(a:Int)/\a<set.length/\f.getD a 0=((xu f (ptn s) (zU (psG s g) (ya s)) pt).length:Int)-1-j/\set.getD a Aw=decide ((j:Int)<((xu f (ptn s) (zU (psG s g) (ya s)) pt).length:Int)-1):=by
  intro j hj;rw[mU] at hj;obtain⟨c1,c2⟩:=w1 j (by omega);refine⟨_,by rw[hW j hj],by omega,by rw[c2,hL];omega,?_⟩;rw[hL];have hz:=BM.zero _ c1;rw[c2,jX] at hz;have hlt:(Zs (yZ f (ptn s) (zU (psG s g) (ya s)) d pt) pt).getD j 0<set.length:=by omega
  cases hb:set.getD ((Zs (yZ f (ptn s) (zU (psG s g) (ya s)) d pt) pt).getD j 0) Aw with
  | false=>have:=hz.2 ⟨hlt,hb⟩;exact(Lv (by omega)).symm
  | true=>
   refine(Lw ?_).symm;have:¬((d:Int)-j=0):=fun e=>by have:=(hz.1 e).2;rw[hb] at this;cases this
   omega
 refine⟨by rw[hL,hd],by rw[mU];omega,by rw[mU];omega,by rw[hW 0 (by omega)];rfl,hAt,?_⟩;unfold qN;rw[Lg (by simpa using hg),Lg (by omega),Lg (by omega)]
 have oM:qF (QG (ptn s) (psG s g) (ya s) (xu f (ptn s) (zU (psG s g) (ya s)) pt)) (xu f (ptn s) (zU (psG s g) (ya s)) pt).length 0=0:=by
  refine Xe _ _ fun k _ hk=>?_
  rw[mU] at hk;unfold QG;rw[hW k (by omega)];obtain⟨c1,c2⟩:=w1 k (by omega);rw[Lg (by dsimp only;omega)]
  cases k with
  | zero=>rfl
  | succ k=>
   obtain⟨e1,e2⟩:=w2 k (by omega);have h1:=hW k (by omega);have aM:¬(k+1=0):=by omega
   simp only[if_neg aM,Nat.add_sub_cancel];rw[h1];simp only[Int.toNat_natCast];rw[Lg (fun hh=>hh (by unfold yr;exact LS.2 ⟨_,e1,rfl⟩)),Lg (fun hh=>hh e2)]
 rw[oM,Lg (by simp)];obtain⟨a,a1,a2,a3,a4⟩:=hAt ((xu f (ptn s) (zU (psG s g) (ya s)) pt).length-1) (by omega);rw[a1,Lm,a4,Lg];rw[Pd];omega
theorem Xw{s:Sy}{g:Int}{set:List Bool}(dR:set.length=ptn s):jj (ptn s) (xN s g) set=(jl (ptn s) (xN s g) (yv set)).map fun d=>decide (d<0):=by
 obtain⟨nD,BM⟩:=uP (ptn s) (xN s g) (yv set);exact Jw dR BM nD (XR s g)
theorem rfu_facts{s:Sy}{g:Int}{set:List Bool}(hx:yU s.p)(hg:zw s g set=0){pt:Nat}(fE:pt<ptn s) :
  ∃W is F H,jM s g pt set=((W,is),0)/\kM s g set=(H,0)/\je s g set=(F,0)/\F.length=ptn s/\H.length=ptn s/\H.getD pt Aw=!is/\(is=Aw->W=[]/\F.getD pt 0=-1)/\(is=Av->Wlk s g set pt F W):=by
 obtain⟨_,dR⟩:=xz hg;obtain⟨nD,BM⟩:=uP (ptn s) (xN s g) (yv set);have hw:=wlk_of hx hg fE;have hge:=BM.ge pt fE;have hh:=Xw (g:=g) dR;have e2:kM s g set=(jj (ptn s) (xN s g) set,0):=by unfold kM;rw[Lg (by simpa using hg)]
 have e3:je s g set=(jl (ptn s) (xN s g) (yv set),0):=by unfold je;rw[Lg (by simpa using hg)]
 have hH:(jj (ptn s) (xN s g) set).getD pt Aw=decide ((jl (ptn s) (xN s g) (yv set)).getD pt 0<0):=by
  rw[hh,Lf,NJ,ye (by omega),Li (by omega)];rfl
 by_cases h0:(jl (ptn s) (xN s g) (yv set)).getD pt 0<0
 . refine⟨[],Aw,_,_,?_,e2,e3,nD,qZ _ _ _,by rw[hH,Lw h0];rfl,fun _=>⟨rfl,by omega⟩,fun h=>by cases h⟩
   unfold jM;rw[Lg (by simpa using hg),Lg (by omega),Lm,Lj h0]
 refine⟨_,Av,_,_,?_,e2,e3,nD,qZ _ _ _,by rw[hH,Lv h0];rfl,(fun h=>by cases h),fun _=>hw (by omega)⟩;unfold jM;rw[Lg (by simpa using hg),Lg (by omega),Lm,Lg h0]
end
section
open Go.RowKit
theorem cw_facts{s:Sy}{K N:Nat}(hT:TopW s K N){g:Int}{set:List Bool}(hl:set.length=ptn s)(hg:0<=g/\g<2^N)(cI:psG s g≠[]) :
  zw s g set=0/\∃F:List Int,je s g set=(F,0)/\kM s g set=(yq (ptn s) (evG s g) set (ptn s),0)/\F.length=ptn s /\
   (∀M,xv (ptn s) (evG s g) set (M+1)=xv (ptn s) (evG s g) set M->∀i,i<ptn s->(uC (ptn s) (evG s g) set M).getD i 0=if F.getD i 0<0 then (ptn s:Int) else F.getD i 0-1) /\
   ∀pt:Nat,pt<ptn s->∃(W:List (Int×Int)) (is:Bool),jM s g (pt:Int) set=((W,is),0)/\(yq (ptn s) (evG s g) set (ptn s)).getD pt Aw=!is/\W.length<=1000/\(is=Av->qN s g set W=0/\(W.length:Int)=F.getD pt 0+1/\0<=F.getD pt 0):=by
 have si:zw s g set=0:=by
  have Tx:zQ s g=0:=by
   unfold zQ;rw[Lg (by rw[hT.ver];simp),Lg];rw[hT.fine.n,Lm];omega
  unfold zw;rw[Lg (by rw[Tx];simp),Lg (by simpa using hl)]
 refine⟨si,?_⟩;obtain⟨nD,BM⟩:=uP (ptn s) (xN s g) (yv set);have hh:=Xw (g:=g) hl;have e3:je s g set=(jl (ptn s) (xN s g) (yv set),0):=by unfold je;rw[Lg (by simpa using si)]
 have hH:∀i,i<ptn s->(jj (ptn s) (xN s g) set).getD i Aw=decide ((jl (ptn s) (xN s g) (yv set)).getD i 0<0):=fun i hi=>by
  rw[hh,Lf,NJ,ye (by omega),Li (by omega)];rfl
 have Mm:yq (ptn s) (evG s g) set (ptn s)=jj (ptn s) (xN s g) set:=by
  refine bools_ext (n:=ptn s) (qH _) (qZ _ _ _) fun i hi=>?_
  rw[hH i hi,Pd];exact now_held cI hl BM now_stop hi
 refine⟨_,e3,?_,nD,fun M hM i hi=>out_lev cI hl BM hM hi,fun pt fE=>?_⟩
 . rw[Mm]
   unfold kM;rw[Lg (by simpa using si)]
 obtain⟨W,is,F,H,h1,h2,h3,h4,h5,h6,h7,h8⟩:=rfu_facts hT.few si fE;have TA:=hT.p7;rw[e3] at h3;have eF:F=jl (ptn s) (xN s g) (yv set):=(Prod.mk.inj h3).1.symm
 have eH:H=jj (ptn s) (xN s g) set:=by
  have:kM s g set=(jj (ptn s) (xN s g) set,0):=by unfold kM;rw[Lg (by simpa using si)]
  rw[this] at h2;exact(Prod.mk.inj h2).1.symm
 subst eF;subst eH;refine⟨W,is,h1,by rw[Mm];exact h6,?_,fun hi=>?_⟩
 . cases is with
   | false=>rw[(h7 rfl).1];simp
   | true=>have:=(h8 rfl).le;omega
 have hw:=h8 hi;have iG:=hw.len;have iS:=hw.pos;exact⟨hw.ver,iG,by omega⟩
end
section
open Go.RowKit Go.Shelf
attribute [local go_sem] Oper.semAt_some
theorem Jn(s:Sy)(hs:LowS s)(hf:yU s.p)(g:Int)(set:List Bool)(A SV AV AX AB:Bb)(kc ks kv kx kb:Nat)(dR:set.length<=1000000)(w:Ba)(hS:SyAt w w.heap.size A SV AV AX s)(bG:BAt w w.heap.size AB set) :
  An Al 26 #[.agg (s.vs_ A kc SV ks AV kv AX kx),O U g,I AB set.length kb] w (RetLv s g set w):=by
 obtain⟨w1,ab,d0,av,hB⟩:=zn w (s.vs_ A kc SV ks AV kv AX kx) 39;have HO:=zH (ub s hs hf g set A SV AV AX AB kc ks kv kx kb dR w1 (hS.up hB));have lW:As (∀X,Am w1.heap.size w1 X->BAt X X.heap.size AB set):=fun X hX=>(((bG.keep hB).more hB.size).keep hX).more hX.size
 have HC:As (zw s g set=0->∃(G M:Nat),g=(G:Int)/\M<=ptn s/\xv (ptn s) (evG s g) set (M+1)=xv (ptn s) (evG s g) set M/\(∀m,m<M->xv (ptn s) (evG s g) set (m+1)≠xv (ptn s) (evG s g) set m)/\set.length=ptn s/\1<=ptn s/\ptn s<=700/\(∀m,(xv (ptn s) (evG s g) set m).length=ptn s) /\
   ∀(bw:Nat) (x:List Bool) (hx:x.length=ptn s) (AQ:Bb) (cQ:Nat) (X:Ba),KwAt X X.heap.size bw (ptn s) s.n.toNat (ya s)->BAt X X.heap.size AQ x->An Al 43 #[Aj (J ⟨bw,0,Z⟩),O U (G:Int),I AQ (ptn s) cQ] X fun e w'=>∃g':Nat,e=Ak (I (J ⟨g',0,Z⟩) (ptn s) (ptn s))/\X.heap.size<=g'/\BRow w' g' (evG s g x)/\Am X.heap.size X w'):=fun h=>by
  obtain⟨G,hg,hG,hN,cZ,l8,hl,cI⟩:=kN hf h;obtain⟨M,m1,m2,m3⟩:=XY (F:=xv (ptn s) (evL (ptn s) (ya s) (psG s g)) set) (Yl hl) (levS_falls hl);refine⟨G,M,hg,m1,m2,m3,hl,cZ,l8,Yl hl,fun bw x hx AQ cQ X hK hB=>?_⟩;unfold evG;rw[cI];have:=kS bw (ptn s) s.n.toNat (ya s) cZ (by omega) hN G hG AQ cQ x hx X hK hB;unfold RetB at this;rwa[qS] at this
 have eb:As (∀x,(evG s g x).length=ptn s):=fun x=>qS _ _ _ _
 unfold RetOp at HO;unfold RetLv;obtain⟨E,hE⟩:=Kj (zw s g set);rw[hE] at HO HC ⊢;obtain⟨n,hn⟩:=Kj (ptn s);rw[hn] at HO HC eb ⊢;obtain⟨EV,hEV⟩:=Kj (evG s g);rw[hEV] at HC eb ⊢;have cW:As (∀m,kV n (xv n EV set m) (EV (xv n EV set m))=xv n EV set (m+1)):=fun _=>rfl
 have ni:As (∀m,(xF n EV set m).length=n):=fun m=>outS_len _ _ _ m
 have rl:As (∀k j,j<n->(xF n EV set (k+1)).getD j 0=if (xv n EV set k).getD j Aw then (k:Int) else (xF n EV set k).getD j 0):=fun k j h=>by
  rw[xF,ye (by simpa using h),Ny,Pe]
 have HOR:As (∀k j,j<n->(uC n EV set k).getD j 0=if (xv n EV set k).getD j Aw then (n:Int) else (xF n EV set k).getD j 0):=fun k j h=>by
  unfold uC;rw[ye (by simpa using h),Ny,Pe]
 have HORL:As (∀k,(uC n EV set k).length=n):=fun k=>by show _=_;simp[uC]
 have Dk:As (xv n EV set 0=set):=rfl;have UF:As (xF n EV set 0=List.replicate n (-1)):=rfl;unfold Sy.vs_ at ab d0 HO ⊢;have ag:=zH ab;have HB:=zH hB;clear ab d0 hB hS bG hs hf hE hn hEV;go_enter func26,ntmps26;go_wp2_with fail;rw[ag.out];go_wp2_with fail;refine HO.out.mono ?_;rintro e w2 ⟨ae,eo⟩;have au:=zH ae;rcases eo with ⟨h0,rfl⟩ | ⟨rfl,bw,rfl,hK⟩
 . have e0:(E != 0)=Av:=by simpa using h0
   go_wp2_with fail
   go_ret2
   exact⟨Lc HB.out au.out,.inl ⟨h0,rfl⟩⟩
 obtain⟨G,M,rfl,m1,m2,m3,hl,cZ,l8,hLL,hc⟩:=HC.out rfl;have tt:=zH (hc bw);have HM:=zH (And.intro m1 (And.intro m2 m3));have fY:=zH hLL;have HK:=zH hK;have HSL:=zH hl;have U1:=hK.size;have hlK:=hK.lt;have aA:=fun (X:Ba) (hX:BAt X X.heap.size AB set)=>clone_kBl AB n kb (set.map Ah) X (by rw[LG,hl,NT]) (by rw[<-hl];exact hX.raw) (fun u hu=>by obtain⟨x,_,rfl⟩:=LS.1 hu;rfl) (by omega)
 have i9:=zH aA;obtain⟨wa,ic,da,mY,oW⟩:=zn w2 #[O U (-1)] 3;have HRP:=zH (gO n w2.heap.size cZ (by omega) (-1) wa da);have AZ:=zH ic;have HBa:=zH oW;rw[hl];clear HC hc m1 m2 m3 hK hl hLL aA ic da oW;go_wp2_with fail;rw[AZ.out];refine HRP.out.mono ?_;rintro e w3 ⟨eU,rfl,oR,iR,ak⟩;have FJ:w2.heap.size<=eU:=by omega
 have lP:=zH iR;have aC:=zH (HBa.out.trans (ak.mono (by omega)));have Vx:=aC.out.size;have UR:=zH (i9.out w3 (lW.out w3 (Lc au.out aC.out)));go_wp2_with fail;refine UR.out.mono ?_;rintro e w4 ⟨v4,rfl,CC,aD⟩;obtain⟨A4,c4,rfl,_,_,_⟩:=CC.form;have S8:As (BAt w4 w4.heap.size A4 (xv n EV set 0)):=by rw[Dk.out];exact BAt.of_own CC HSL.out (fun _ _=>rfl) (Ld _)
 have mL:As (RowAt w4 eU (xF n EV set 0)):=by rw[UF.out];exact Lb aD lP.out.lt lP.out
 have fB:=zH (aC.out.trans (aD.mono Vx));obtain⟨LV,hLV⟩:=Kj (xv n EV set);rw[hLV] at S8 fY cW rl HOR HM;go_wp2_with fail
 go_loopw [11,12] (fun o i wr=>∃(k:Nat) (AQ:Bb) (cQ:Nat),k<=M/\i=O U (k:Int)/\o=I AQ n cQ/\As (BAt wr wr.heap.size AQ (LV k))/\As (RowAt wr eU (xF n EV set k))/\As (Am w2.heap.size w2 wr)) (fun _ i _=>M+1-(Ar i).toNat)
 case atStart=>exact⟨0,A4,c4,by omega,rfl,rfl,S8,mL,fB⟩
 obtain⟨k,AQ,cQ,hk,rfl,rfl,ta,Hx,bz⟩:=hrel;have Cv:=bz.out.size;have HC:=zH (tt.out (LV k) (fY.out k) AQ cQ wr ((HK.out.keep bz.out).more Cv) ta.out);go_wp2_with fail;refine HC.out.mono ?_;rintro e w5 ⟨g5,rfl,bY,cP,am⟩;have S7:=zH ((ta.out.keep am).more am.size);have mh:As (RowAt w5 eU (xF n EV set k)):=Lb am Hx.out.lt Hx.out;have aT:=zH (bz.out.trans (am.mono Cv));have TY:=wP AQ (J ⟨g5,0,Z⟩) cQ n n (by omega) (LV k) (EV (LV k)) (fY.out k) (eb.out _) w5 S7.out (cP.at_ cP.lt);unfold RetB at TY;rw[cW.out,fY.out] at TY;have HC6:=zH TY;go_wp2_with fail;refine HC6.out.mono ?_;rintro e w6 ⟨g6,rfl,fF,rD,cB⟩;have sI:=zH ((S7.out.keep cB).more cB.size);have rm:As (RowAt w6 eU (xF n EV set k)):=Lb cB mh.out.lt mh.out;have tg:=zH rD;have dw:=zH (Lc aT.out cB);have WJ:g6≠eU:=by have:=mh.out.lt;omega
 have nG:=uR (J ⟨g6,0,Z⟩) AQ n cQ (LV (k+1)) (LV k) w6 w6.heap.size (Ld _) (rD.at_ rD.lt) sI.out (by rw[fY.out];omega) (by rw[fY.out];omega);rw[fY.out,fY.out] at nG;have Cf:=zH nG;go_wp2_with fail;refine Cf.out.mono ?_;rintro e w7 ⟨rfl,q,rfl⟩;have pD:=zH (dw.out.trans (yy (Ll _ _) q));have S6:As (BAt (w6.drewN q) (w6.drewN q).heap.size AQ (LV k)):=sI.out.keep (yy (Ll _ _) q);have Bf:As (BRow (w6.drewN q) g6 (LV (k+1))):=tg.out;have tk:As (RowAt (w6.drewN q) eU (xF n EV set k)):=rm.out;obtain⟨wN,hwN⟩:=Kj (w6.drewN q);rw[hwN] at pD S6 Bf tk ⊢;obtain⟨w6,rfl⟩:∃x,x=wN:=⟨_,rfl⟩;have sI:=S6;have rm:=tk;have tg:=Bf;have dw:=pD;obtain⟨bq,oq,rfl,hbq,zq⟩:=sI.out.at_ 0 (by rw[fY.out];omega);have o7:=zH (row_ne rm.out zq);have U1:=((HK.out.keep dw.out)).size;have hs26:=dw.out.size
 by_cases eZ:LV (k+1)=LV k
 · have MH : k = M := by
    refine Ng fun az=>?_
    exact HM.out.2.2 k (by omega) eZ
   subst MH;have e0:decide (LV (k+1)=LV k)=Av:=Lw eZ;rw[e0];obtain⟨nw,pM⟩:=Kj (uC n EV set k);have sE:As (nw.length=n):=by rw[<-pM];exact HORL.out k
   have Dg:As (∀j,j<n->nw.getD j 0=if (LV k).getD j Aw then (n:Int) else (xF n EV set k).getD j 0):=fun j h=>by
    subst pM;exact HOR.out k j h
   have GQ:=zH pM;go_wp2_with fail;obtain⟨wL,rfl⟩:∃x,x=w6:=⟨_,rfl⟩
   go_loopw [53] (fun i wr=>∃j:Nat,j<=n/\i=O U (j:Int)/\As (RowAt wr eU (jI nw (xF n EV set k) j))/\As (∀z,z≠eU->wr.heap[z]?=wL.heap[z]?)/\As (Am w2.heap.size wL wr)/\wL.heap.size<=wr.heap.size) (fun i _=>n-(Ar i).toNat)
   case atStart=>exact⟨0,by omega,rfl,by rw[Xp];exact rm,fun _ _=>rfl,Ll _ _,Ld _⟩
   obtain⟨j,hj,rfl,ah,lE,cu,sb⟩:=hrel
   by_cases hlt:j<n
   . obtain⟨b1,o1,e1,aF,z0⟩:=sI.out.at_ j (by rw[fY.out];exact hlt)
     cases e1
     have z0:=(LL (lE.out _ o7.out)).trans z0;have iC:=Dg.out j hlt;have dB:j<(xF n EV set k).length:=by rw[ni.out];exact hlt
     have pm:nw.length=(xF n EV set k).length:=by rw[sE.out,ni.out]
     rw[ye (by rw[pm];exact dB),zA (by rw[fY.out];exact hlt),ye dB] at iC;have ie:=uJ pm j;have y0:=ah.out.cell j (by rw[ie];exact dB);have f0:=ah.out.froz j;rw[Qk pm dB] at y0;have DW:(0:Int)<=(j:Int):=by omega
     have BK:(j:Int)<(n:Int):=by omega
     obtain⟨x,hx⟩:=Kj ((LV k)[j]'(by rw[fY.out];exact hlt));rw[hx] at z0 iC;obtain⟨ol,iU⟩:=Kj ((xF n EV set k)[j]'dB);rw[iU] at iC y0
     cases x with
     | true=>
      rw[Lj rfl] at iC;have cH:=ah.out.set j (n:Int);rw[<-iC,Yk pm dB,iC] at cH;have cF:=zH cH;have GO:As (∀z,z≠eU->(wr.setCell ⟨eU,j,Z⟩ (O U (n:Int))).heap[z]?=wL.heap[z]?):=fun z hz=>(Le wr ⟨eU,j,Z⟩ _ z hz).trans (lE.out z hz)
      have dH:=zH (cu.out.setCell (p:=⟨eU,j,Z⟩) (by show w2.heap.size<=eU;exact FJ) (O U (n:Int)));have HSJ:wL.heap.size<=(wr.setCell ⟨eU,j,Z⟩ (O U (n:Int))).heap.size:=by simpa[World.setCell] using sb
      go_wp2_with fail
      go_roundw
      case rel=>exact⟨j+1,by omega,by go_num,cF,GO,dH,HSJ⟩
      case measure=>simp[Ar];omega
     | false=>
      rw[Lg (by simp)] at iC;have cF:As (RowAt wr eU (jI nw (xF n EV set k) (j+1))):=by rw[<-Xq pm dB (by rw[iC,iU])];exact ah
      go_wp2_with fail
      go_roundw
      case rel=>exact⟨j+1,by omega,by go_num,cF,lE,cu,sb⟩
      case measure=>simp[Ar];omega
   obtain rfl:n=j:=by omega
   have cF:As (RowAt wr eU nw):=by have h:=ah.out;rwa[Ji (by rw[sE.out,ni.out]) (by rw[ni.out])] at h
   have rY:=zH (HB.out.trans ((au.out.trans ((dw.out.trans cu.out).mono au.out.size)).mono HB.out.size));have pQ:w.heap.size<=eU:=by have:=HB.out.size;have:=au.out.size;omega
   have Pj:As (RowAt wr eU (uC n EV set k)):=by rw[GQ.out];exact cF
   go_wp2_with fail
   go_ret2
   exact⟨rY.out,k,eU,rfl,HM.out.2.1,HM.out.2.2,pQ,Pj.out⟩
 have MH : k < M := by
  refine Ng fun az=>?_
  have:k=M:=by omega
  subst this;exact eZ HM.out.2.1
 have e0:decide (LV (k+1)=LV k)=Aw:=Lv eZ;rw[e0];obtain⟨mv,Fu⟩:∃mv:Int,(k:Int)=mv:=⟨_,rfl⟩;obtain⟨nw,pM⟩:=Kj (xF n EV set (k+1));have sE:As (nw.length=n):=by rw[<-pM];exact ni.out (k+1)
 have Dg:As (∀j,j<n->nw.getD j 0=if (LV k).getD j Aw then mv else (xF n EV set k).getD j 0):=fun j h=>by
  subst pM;rw[<-Fu];exact rl.out k j h
 have GQ:=zH pM;have IJ:=zH Fu;rw[Fu];go_wp2_with fail;obtain⟨wL,rfl⟩:∃x,x=w6:=⟨_,rfl⟩
 go_loopw [53] (fun i wr=>∃j:Nat,j<=n/\i=O U (j:Int)/\As (RowAt wr eU (jI nw (xF n EV set k) j))/\As (∀z,z≠eU->wr.heap[z]?=wL.heap[z]?)/\As (Am w2.heap.size wL wr)/\wL.heap.size<=wr.heap.size) (fun i _=>n-(Ar i).toNat)
 case atStart=>exact⟨0,by omega,rfl,by rw[Xp];exact rm,fun _ _=>rfl,Ll _ _,Ld _⟩
 obtain⟨j,hj,rfl,ah,lE,cu,sb⟩:=hrel
 by_cases hlt:j<n
 . obtain⟨b1,o1,e1,aF,z0⟩:=sI.out.at_ j (by rw[fY.out];exact hlt)
   cases e1
   have z0:=(LL (lE.out _ o7.out)).trans z0;have iC:=Dg.out j hlt;have dB:j<(xF n EV set k).length:=by rw[ni.out];exact hlt
   have pm:nw.length=(xF n EV set k).length:=by rw[sE.out,ni.out]
   rw[ye (by rw[pm];exact dB),zA (by rw[fY.out];exact hlt),ye dB] at iC;have ie:=uJ pm j;have y0:=ah.out.cell j (by rw[ie];exact dB);have f0:=ah.out.froz j;rw[Qk pm dB] at y0;have DW:(0:Int)<=(j:Int):=by omega
   have BK:(j:Int)<(n:Int):=by omega
   obtain⟨x,hx⟩:=Kj ((LV k)[j]'(by rw[fY.out];exact hlt));rw[hx] at z0 iC;obtain⟨ol,iU⟩:=Kj ((xF n EV set k)[j]'dB);rw[iU] at iC y0
   cases x with
   | true=>
    rw[Lj rfl] at iC;have cH:=ah.out.set j mv;rw[<-iC,Yk pm dB,iC] at cH;have cF:=zH cH;have GO:As (∀z,z≠eU->(wr.setCell ⟨eU,j,Z⟩ (O U mv)).heap[z]?=wL.heap[z]?):=fun z hz=>(Le wr ⟨eU,j,Z⟩ _ z hz).trans (lE.out z hz)
    have dH:=zH (cu.out.setCell (p:=⟨eU,j,Z⟩) (by show w2.heap.size<=eU;exact FJ) (O U mv));have HSJ:wL.heap.size<=(wr.setCell ⟨eU,j,Z⟩ (O U mv)).heap.size:=by simpa[World.setCell] using sb
    go_wp2_with fail
    go_roundw
    case rel=>exact⟨j+1,by omega,by go_num,cF,GO,dH,HSJ⟩
    case measure=>simp[Ar];omega
   | false=>
    rw[Lg (by simp)] at iC;have cF:As (RowAt wr eU (jI nw (xF n EV set k) (j+1))):=by rw[<-Xq pm dB (by rw[iC,iU])];exact ah
    go_wp2_with fail
    go_roundw
    case rel=>exact⟨j+1,by omega,by go_num,cF,lE,cu,sb⟩
    case measure=>simp[Ar];omega
 obtain rfl:n=j:=by omega
 have cF:As (RowAt wr eU nw):=by have h:=ah.out;rwa[Ji (by rw[sE.out,ni.out]) (by rw[ni.out])] at h
 have HR9:As (BRow wr g6 (LV (k+1))):=(lE.out g6 WJ).trans tg.out;have HBA9:As (BAt wr wr.heap.size (J ⟨g6,0,Z⟩) (LV (k+1))):=HR9.out.at_ HR9.out.lt;have HRO9:As (RowAt wr eU (xF n EV set (k+1))):=by rw[GQ.out];exact cF
 have HB9:=zH (dw.out.trans cu.out);have Fu:=IJ.out;have DT:=HM.out.1;have ns:IntKind.i64.wrap ((k:Int)+1)=(k:Int)+1:=by rw[Lo];omega
 subst Fu;go_wp2_with fail
 go_roundw
 case rel=>exact⟨k+1,_,_,by omega,by go_num,rfl,HBA9,HRO9,HB9⟩
 simp[Ar];omega
theorem contI_any(A:Bb)(cap:Nat)(xs:List Int)(x:Int)(w:Ba)(B:Nat)(hA:IAt w B A xs)(hl:xs.length<=17592186044416) :
  An Al 47 #[I A xs.length cap,O U x] w fun e w'=>e=Ak (Ah (decide (x∈xs)))/\w'=w:=by
 by_cases h0:xs.length=0
 . have e1:xs=[]:=LJ h0
   subst e1;exact(Tryz.slices_Contains_int_empty A cap x w).mono fun e w' h=>⟨by simpa using h.1,h.2⟩
 obtain⟨b,o,rfl,hb,hc⟩:=hA (by omega);refine(Tryz.slices_Contains_int b o xs.length cap xs x w (Ld _) (by omega) (fun j hj=>?_)).mono fun e w' h=>⟨?_,h.2⟩
 . rw[Lf,Li hj];exact hc j hj
 rw[h.1,LK];exact zy (by rw[NL];simp)
theorem scan_step(F:Nat->Int)(m k:Nat)(hm:0<m):qF F m k=if F k≠0 then F k else qF F (m-1) (k+1):=by
 obtain⟨m,rfl⟩:∃m',m=m'+1:=⟨m-1,by omega⟩
 rfl
theorem J8(s:Sy)(hs:LowS s)(hf:yU s.p)(g:Int)(set:List Bool)(walk:List (Int×Int))(A SV AV AX AB AT:Bb)(kc ks kv kx kb kt:Nat)(w:Ba)(hS:SyAt w w.heap.size A SV AV AX s)(bG:BAt w w.heap.size AB set)(On:TAt w w.heap.size AT walk)(dR:set.length<=1000000)(lA:walk.length<=1000000) :
  An Al 30 #[.agg (s.vs_ A kc SV ks AV kv AX kx),O U g,I AB set.length kb,I AT walk.length kt] w fun e w'=>e=Ak (O U (qN s g set walk))/\Am w.heap.size w w':=by
 obtain⟨w1,ab,d0,av,hB⟩:=zn w (s.vs_ A kc SV ks AV kv AX kx) 39;have HR:=zH (jU s hs hf g set A SV AV AX AB kc ks kv kx kb w1 (hS.up hB) ((bG.keep hB).more hB.size) dR);have HF:=zH (fun h=>xC (s:=s) (g:=g) hf h);have HG:=zH (fun h=>xz (s:=s) (g:=g) (set:=set) h);have be:As (zw s g set≠0->qN s g set walk=zw s g set):=fun h=>Lj h
 have ai:As (zw s g set=0->walk.length=0->qN s g set walk=16):=fun h h1=>by unfold qN;rw[Lg (by simpa using h),Lj h1]
 have aj:As (zw s g set=0->walk.length≠0->65536<walk.length->qN s g set walk=5):=fun h h1 h2=>by unfold qN;rw[Lg (by simpa using h),Lg h1,Lj h2]
 have ax:As (zw s g set=0->walk.length≠0->¬65536<walk.length->qN s g set walk=if qF (QG (ptn s) (psG s g) (ya s) walk) walk.length 0≠0 then qF (QG (ptn s) (psG s g) (ya s) walk) walk.length 0
   else if set.getD (walk.getD (walk.length-1) (0,0)).1.toNat Aw=Av then 18 else 0):=fun h h1 h2=>by unfold qN;rw[Lg (by simpa using h),Lg h1,Lg h2]
 unfold YO stC xx at HR;unfold Sy.vs_ at ab d0 HR ⊢;obtain⟨r,hr⟩:=Kj (zw s g set);rw[hr] at HR HG be ai aj ax;obtain⟨R,de⟩:=Kj (qN s g set walk);rw[de] at be ai aj ax ⊢;have ag:=zH ab;have HB:=zH hB;have cj:=zH bG;have eG:=zH On;obtain⟨p0,p1,p2,p3,p4,p5,p6,p7,p8,p9⟩:=zM d0;clear ab d0 hB hS hr de hs hf bG On;go_enter func30,ntmps30;go_wp2_with fail;rw[ag.out];go_wp2_with fail;refine HR.out.mono ?_;rintro e w2 ⟨ae,(⟨az,rfl⟩ | ⟨h0,Ap,kp,bC,bM,AO,cO,rfl,Ei⟩)⟩
 . have au:=zH (HB.out.trans (ae.mono (by omega)))
   have hR:As (R=r):=be.out az;have e0:(r != 0)=Av:=by simpa using az
   clear p0 p1 p2 p3 p4 p5 p6 p7 p8 p9 ae HR ag HF be ai aj ax az HG;go_wp2_with fail;obtain⟨w3,bL,d3,cz,aG⟩:=zn w2 #[O U 0,I Z 0 0,.map Z,.map Z] 101;rw[bL];go_wp2_with fail;go_ret;exact⟨by rw[hR.out];rfl,Lc au.out aG⟩
 have au:=zH (HB.out.trans (ae.mono (by omega)));have GE:=zH Ei;have te:As (walk.length=0->R=16):=ai.out h0;have fd:As (walk.length≠0->65536<walk.length->R=5):=aj.out h0;have BQ:=zH (ax.out h0);obtain⟨g1,g2⟩:=HG.out h0;obtain⟨f1,f2,f3⟩:=HF.out g1;have lU:As (∀p,(ya s p).length=ptn s):=fun p=>uT s p
 subst h0;obtain⟨PN,iL⟩:=Kj (ptn s);obtain⟨PS,lh⟩:=Kj (psG s g);obtain⟨cm,ik⟩:=Kj (ya s);rw[iL,lh,ik] at BQ GE;rw[iL,ik] at lU;rw[iL] at f1 f2 g2;rw[lh] at f3;have lQ:=zH iL;have rT:=zH lh;have CS:=ae.size;clear p0 p1 p2 p3 p4 p5 p6 p7 p8 p9 ae HR ag HF be ai aj ax iL lh ik g1 HG Ei;go_upto_region 2 with fail
 rw[lQ.out,rT.out];obtain⟨w3,bL,d3,cz,aG⟩:=zn w2 #[O U (PN:Int),I Ap PS.length kp,.map (J bC),.map (J bM)] 101;rw[bL];have Gt:=zH d3;have aC:=zH (Lc au.out aG);have cW:=zH ((GE.out w3 fun k _ hk=>aG.block k hk).1.more aG.size);clear bL d3 aG au lQ rT GE
 by_cases oQ:walk.length=0
 . have hR:As (R=16):=te.out oQ
   have e0:((walk.length:Int)==0)=Av:=by rw[oQ];rfl
   have e1:(walk.length:Int)=0:=by omega
   clear te fd BQ;go_wp2_with fail;go_ret;exact⟨by rw[hR.out];rfl,aC.out⟩
 have e0:((walk.length:Int)==0)=Aw:=by rw[P6];omega
 have e1:¬(walk.length:Int)=0:=by omega
 by_cases iG:65536<walk.length
 . have hR:As (R=5):=fd.out oQ iG
   have e2:(65536:Int)<(walk.length:Int):=by omega
   clear te fd BQ;go_wp2_with fail;go_ret;exact⟨by rw[hR.out];rfl,aC.out⟩
 have hR:=zH (BQ.out oQ iG);have e2:¬(65536:Int)<(walk.length:Int):=by omega
 have Dk:=zH oQ;have Gu:As (∀i,QG PN PS cm walk i=if (walk.getD i (0,0)).1<0\/(PN:Int)<=(walk.getD i (0,0)).1 then 6 else if i=0 then (if (walk.getD i (0,0)).2≠-1 then 3 else 0) else if (walk.getD i (0,0)).2∉yr PS then 2 else if (cm (walk.getD i (0,0)).2.toNat).getD (walk.getD i (0,0)).1.toNat 0≠(cm (walk.getD i (0,0)).2.toNat).getD (walk.getD (i-1) (0,0)).1.toNat 0 then 18 else 0):=fun _=>rfl
 obtain⟨F,hF⟩:=Kj (QG PN PS cm walk);rw[hF] at hR Gu;clear te fd BQ hF oQ;go_wp2_with fail;clear e0 e1 e2
 go_loopw [36] (fun i wr=>∃k:Nat,k<=walk.length/\i=O U (k:Int)/\As (qF F walk.length 0=qF F (walk.length-k) k)/\As (∀j,j<k->0<=(walk.getD j (0,0)).1/\(walk.getD j (0,0)).1<(PN:Int))/\As (Am w3.heap.size w3 wr)) (fun i _=>walk.length-(Ar i).toNat)
 case atStart=>exact⟨0,by omega,rfl,rfl,fun j hj=>absurd hj (by omega),Ll _ _⟩
 obtain⟨k,hk,rfl,oM,Ty,hb⟩:=hrel
 by_cases hlt:k<walk.length
 . obtain⟨b,off,eA,aY,z0,z1⟩:=(eG.out.keep (Lc aC.out hb.out)).at_ k hlt
   subst eA;have aP:=hb.out.size;have sN:=scan_step F (walk.length-k) k (by omega);rw[show walk.length-k-1=walk.length-(k+1) by omega] at sN;have rQ:=zH (oM.out.trans sN);have nF:=Gu.out k;have WD:walk.getD k (0,0)=walk[k]:=by rw[Lf,Li hlt];rfl
   rw[WD] at nF;obtain⟨⟨y0,y1⟩,hy⟩:∃y,walk[k]=y:=⟨_,rfl⟩;rw[hy] at nF z0 z1;have MP:walk.getD k (0,0)=(y0,y1):=WD.trans hy;have rX:=zH nF;have IQ:=zH MP;have dg:(0:Int)<=(k:Int):=by omega
   have aM:(k:Int)<(walk.length:Int):=by omega
   simp only at z0 z1;clear sN nF WD MP hy oM;go_upto_region 11 with fail
   obtain⟨W1,dj,d13,hs13,nK⟩:=zn wr #[O U y0,O U y1] 106;rw[dj];have ew:=zH (hb.out.trans (nK.mono aP));have d9:=La ew.out Gt.out;have x0:=zh d9 0 rfl;obtain⟨t0,t1,_⟩:=Ke d13;have SU:=zH d13;have Hc:=zH d9;clear z0 z1 dj d13 d9 nK
   by_cases sP:y0<0\/(PN:Int)<=y0
   . have oy:F k=6:=rX.out.trans (Lj sP)
     have oV:As (R=6):=by
      have h9:=rQ.out;rw[oy,Lj (by decide)] at h9;rw[As,hR.out,h9,Lj (by decide)]
     clear hR rX rQ oy
     by_cases h1:y0<0
     . go_wp2_with fail
       go_ret;exact⟨by rw[oV.out];rfl,Lc aC.out ew.out⟩
     have h2:(PN:Int)<=y0:=by omega
     go_wp2_with fail;go_ret;exact⟨by rw[oV.out];rfl,Lc aC.out ew.out⟩
   have h1:¬y0<0:=by omega
   have h2:¬(PN:Int)<=y0:=by omega
   have PX:As (∀j,j<k+1->0<=(walk.getD j (0,0)).1/\(walk.getD j (0,0)).1<(PN:Int)):=fun j hj=>by
    by_cases e:j=k
    . subst e
      rw[IQ.out];exact⟨by show 0<=y0;omega,by show y0<_;omega⟩
    . exact Ty.out j (by omega)
   have li:F k=if k=0 then (if y1≠-1 then 3 else 0) else if y1∉yr PS then 2 else if (cm y1.toNat).getD y0.toNat 0≠(cm y1.toNat).getD (walk.getD (k-1) (0,0)).1.toNat 0 then 18 else 0:=rX.out.trans (Lg sP)
   by_cases MI:k=0
   . subst MI
     rw[Lj rfl] at li
     by_cases hm:y1=-1
     . subst hm
       have oy:F 0=0:=li
       have GF:As (qF F walk.length 0=qF F (walk.length-(0+1)) (0+1)):=by
        have h9:=rQ.out;rwa[oy,Lg (by simp)] at h9
       clear rX rQ li oy;go_wp2_with fail;refine zr [(0,Av),(1,Av),(2,Av),(3,Av),(4,Av),(5,Av),(6,Av),(7,Av),(8,Av),(9,Av),(10,Av),(11,Av),(12,Av),(13,Av),(14,Av),(15,Av),(16,Av),(17,Av),(18,Av),(19,Av),(20,Av),(21,Av),(22,Av),(23,Av),(24,Av),(25,Av),(26,Av),(27,Av)] (fun X=>X=W1.drew) (by kernel_rfl) (by kernel_rfl) rfl ?_
       repeat
        apply zk rfl
        . rintro K' aa X rfl
          go_simp;exact aa
       refine zz ?_;have EN:=zH (ew.out.drew);obtain⟨W5,dQ⟩:=Kj W1.drew;rw[dQ] at EN ⊢;clear dQ;go_wp2_with fail
       go_roundw
       case rel=>exact⟨0+1,by omega,by go_num,GF,PX,EN⟩
       simp[Ar];omega
     have oy:F 0=3:=li.trans (Lj hm)
     have oV:As (R=3):=by
      have h9:=rQ.out;rw[oy,Lj (by decide)] at h9;rw[As,hR.out,h9,Lj (by decide)]
     have q1:(y1 != -1)=Av:=by simpa using hm
     clear rX rQ li oy hR;go_wp2_with fail;go_ret;exact⟨by rw[oV.out];rfl,Lc aC.out ew.out⟩
   rw[Lg MI] at li;have MG:(0:Int)<(k:Int):=by omega
   have Wc:((k:Int)==0)=Aw:=by rw[P6];omega
   have hkz2:¬(k:Int)=0:=by omega
   have Ff:=cW.out.keep ew.out;have VH:=contI_any Ap kp (yr PS) y1 W1 w3.heap.size Ff.procs (by rw[zK];omega);rw[zK] at VH;have P1:=zH VH;have x1:=zh Hc.out 1 rfl;have HSTW:=zH Ff;have iS:=Ty.out (k-1) (by omega);obtain⟨bt2,ot2,OQ,WX,Dw,ER⟩:=(eG.out.keep (Lc aC.out ew.out)).at_ (k-1) (by omega);have MO:walk.getD (k-1) (0,0)=walk[k-1]:=by rw[Lf,Li (by omega)];rfl
   rw[MO] at li iS;obtain⟨⟨v0,v1⟩,hv⟩:∃v,walk[k-1]=v:=⟨_,rfl⟩;rw[hv] at li iS Dw ER;simp only at li iS Dw ER
   cases OQ
   clear Ff VH ER MO hv
   by_cases cx:y1∈yr PS
   case neg=>
    have oy:F k=2:=li.trans (Lj cx)
    have oV:As (R=2):=by
     have h9:=rQ.out;rw[oy,Lj (by decide)] at h9;rw[As,hR.out,h9,Lj (by decide)]
    have M6:decide (y1∈yr PS)=Aw:=Lv cx;rw[M6] at P1;clear rX rQ li oy hR cx M6 Dw iS;go_wp2_with fail;refine P1.out.mono ?_;rintro e W4 ⟨rfl,rfl⟩;go_wp2_with fail;go_ret;exact⟨by rw[oV.out];rfl,Lc aC.out ew.out⟩
   case pos=>
   have M6:decide (y1∈yr PS)=Av:=Lw cx;rw[M6] at P1;rw[Lg (not_not_intro cx)] at li;obtain⟨p,Mg,lD⟩:∃p,p∈PS/\(p:Int)=y1:=by simpa[yr] using cx
   subst lD;obtain⟨yn,rfl⟩:=Lp (show 0<=y0 by omega);obtain⟨vn,rfl⟩:=Lp iS.1;rw[Lm,Lm,Lm] at li;have lw:yn<(cm p).length:=by rw[lU.out];omega
   have dr:vn<(cm p).length:=by rw[lU.out];have:=iS.2;omega
   obtain⟨m1,f1',nP,fq⟩:=HSTW.out.cl;obtain⟨A1,c1,e1,iM⟩:=fq p Mg;have Hs:∀W:Ba,(zeroValue 50).run Al W=.ok (I Z 0 0) W:=fun W=>by kernel_rfl
   have rz:Al.underlying 93=J (.map 3 50):=Rk;have dS:=(show MapOf (O U) W1.drew bC m1 f1' from nP).look yC rz (Hs _) (p:Int);rw[e1] at dS;simp only[Option.getD_some] at dS;obtain⟨bc1,oc1,eC1,hbc1,i1⟩:=iM.at_ yn lw;obtain⟨bc2,oc2,eC2,hbc2,i2⟩:=iM.at_ vn dr;subst eC1
   cases eC2
   rw[<-ye lw 0] at i1;rw[<-ye dr 0] at i2;have j1:W1.drew.cell? ⟨bc1,oc1+yn,Z⟩=J (O U ((cm p).getD yn 0)):=i1;have j2:W1.drew.cell? ⟨bc1,oc1+vn,Z⟩=J (O U ((cm p).getD vn 0)):=i2;have j3:W1.drew.cell? ⟨b,off+(k-1)*2,Z⟩=J (O U (vn:Int)):=Dw;have j4:W1.drew.cell? ⟨wr.heap.size,0,Z⟩=J (O U (yn:Int)):=zh SU.out 0 rfl;have j5:W1.drew.cell? ⟨wr.heap.size,1,Z⟩=J (O U (p:Int)):=zh SU.out 1 rfl;have j6:W1.drew.cell? ⟨w2.heap.size,2,Z⟩=J (.map (J bC)):=zh Hc.out 2 rfl;obtain⟨q,hq⟩:=Kj ((cm p).getD yn 0);obtain⟨u,hu⟩:=Kj ((cm p).getD vn 0);rw[hq] at j1 li;rw[hu] at j2 li;have ns:IntKind.i64.wrap ((k:Int)-1)=(k:Int)-1:=by rw[Lo];omega
   have Wl:(0:Int)<=(k:Int)-1:=by omega
   have Wj:(1:Int)<=(k:Int):=by omega
   have Wk:(k:Int)-1<(walk.length:Int):=by omega
   have DV:((k:Int)-1).toNat=k-1:=by omega
   have hy00:(0:Int)<=(yn:Int):=by omega
   have hy01:(yn:Int)<(PN:Int):=by omega
   have Vo:(0:Int)<=(vn:Int):=by omega
   have Vn:(vn:Int)<(PN:Int):=by have:=iS.2;omega
   clear nP fq e1 iM Hs rz i1 i2 Dw hq hu lw dr cx M6 iS
   by_cases VB:q=u
   . subst VB
     have oy:F k=0:=li.trans (Lg (by simp))
     have GF:As (qF F walk.length 0=qF F (walk.length-(k+1)) (k+1)):=by
      have h9:=rQ.out;rwa[oy,Lg (by simp)] at h9
     clear rX rQ li oy;go_wp2_with fail;refine P1.out.mono ?_;rintro e W4 ⟨rfl,oA⟩;obtain rfl:=oA.symm;go_wp2_with fail;refine zr [(0,Av),(1,Av),(2,Av),(3,Av),(4,Av),(5,Av),(6,Av),(7,Av),(8,Av),(9,Av),(10,Av),(11,Av),(12,Av),(13,Av),(14,Av),(15,Av),(16,Av),(17,Av),(18,Av),(19,Av),(20,Av),(21,Av),(22,Av),(23,Av),(24,Av),(25,Av),(26,Av),(27,Av)] (fun X=>X=W1.drew) (by kernel_rfl) (by kernel_rfl) rfl ?_
     repeat
      apply zk rfl
      . rintro K' aa X rfl
        go_simp;exact aa
     refine zz ?_;have EN:=zH (ew.out.drew);obtain⟨W5,dQ⟩:=Kj W1.drew;rw[dQ] at EN ⊢;clear j1 j2 j3 j4 j5 j6 dS dQ;go_wp2_with fail
     go_roundw
     case rel=>exact⟨k+1,by omega,by go_num,GF,PX,EN⟩
     simp[Ar];omega
   have oy:F k=18:=li.trans (Lj VB)
   have oV:As (R=18):=by
    have h9:=rQ.out;rw[oy,Lj (by decide)] at h9;rw[As,hR.out,h9,Lj (by decide)]
   have q1:(q != u)=Av:=by simpa using VB
   clear rX rQ li oy hR;go_wp2_with fail;refine P1.out.mono ?_;rintro e W4 ⟨rfl,oA⟩;obtain rfl:=oA.symm;go_wp2_with fail;refine zr [(0,Av),(1,Av),(2,Av),(3,Av),(4,Av),(5,Av),(6,Av),(7,Av),(8,Av),(9,Av),(10,Av),(11,Av),(12,Av),(13,Av),(14,Av),(15,Av),(16,Av),(17,Av),(18,Av),(19,Av),(20,Av),(21,Av),(22,Av),(23,Av),(24,Av),(25,Av),(26,Av),(27,Av)] (fun X=>X=W1.drew) (by kernel_rfl) (by kernel_rfl) rfl ?_
   repeat
    apply zk rfl
    . rintro K' aa X rfl
      go_simp;exact aa
   refine zz ?_;have EN:=zH (ew.out.drew);obtain⟨W5,dQ⟩:=Kj W1.drew;rw[dQ] at EN ⊢;clear j1 j2 j3 j4 j5 j6 dS dQ;go_wp2_with fail;go_ret;exact⟨by rw[oV.out];rfl,Lc aC.out EN.out⟩
 obtain rfl:k=walk.length:=by omega
 have rB:qF F walk.length 0=0:=by
  have h9:=oM.out;rw[Nq] at h9;exact h9
 have oV:R=if set.getD (walk.getD (walk.length-1) (0,0)).1.toNat Aw=Av then 18 else 0:=hR.out.trans (by rw[Lg (by rw[rB];simp)]);have oQ:=Dk.out;have iS:=Ty.out (walk.length-1) (by omega);have MO:walk.getD (walk.length-1) (0,0)=walk[walk.length-1]:=by rw[Lf,Li (by omega)];rfl
 obtain⟨bt2,ot2,OQ,WX,Dw,ER⟩:=(eG.out.keep (Lc aC.out hb.out)).at_ (walk.length-1) (by omega);rw[MO] at oV iS;obtain⟨⟨v0,v1⟩,hv⟩:∃v,walk[walk.length-1]=v:=⟨_,rfl⟩;rw[hv] at oV iS Dw ER;simp only at oV iS Dw ER;subst OQ;obtain⟨vn,rfl⟩:=Lp iS.1;rw[Lm] at oV;have mV:vn<set.length:=by have:=iS.2;omega
 obtain⟨bb1,ob1,eB1,hbb1,yb⟩:=(cj.out.keep (Lc aC.out hb.out)).at_ vn mV;subst eB1;have CM:set.getD vn Aw=set[vn]:=by rw[Lf,Li mV];rfl
 rw[CM] at oV;obtain⟨bv,Ec⟩:=Kj (set[vn]);rw[Ec] at oV yb;have GH:=zH oV;have Wl:(0:Int)<=(walk.length:Int)-1:=by omega
 have Wj:(1:Int)<=(walk.length:Int):=by omega
 have Wk:(walk.length:Int)-1<(walk.length:Int):=by omega
 have DV:((walk.length:Int)-1).toNat=walk.length-1:=by omega
 have Vo:(0:Int)<=(vn:Int):=by omega
 have Vn:(vn:Int)<(set.length:Int):=by omega
 have hv02:(vn:Int)<(PN:Int):=iS.2;clear oV hR oM Ty MO hv CM Ec rB ER iS hlt
 cases bv with
 | true=>
  go_wp2_with fail;go_ret;exact⟨by rw[GH.out];rfl,Lc aC.out hb.out⟩
 | false=>
  go_wp2_with fail;go_ret;exact⟨by rw[GH.out];rfl,Lc aC.out hb.out⟩
end
section
open Go.RowKit Go.Shelf
section
variable (s:Sy) (K N:Nat) (hT:TopW s K N) (A SV AV AX:Bb) (kc ks kv kx:Nat)
include hT
theorem eval_at(F:Fm)(B:List Bool)(hF:Vf s [] N 128 24 F B)(v:Au)(w:Ba)(hv:FmA w F v)(hS:SyAt w w.heap.size A SV AV AX s) :
  An Al 24 #[.agg (s.vs_ A kc SV ks AV kv AX kx),Ai #[I Z 0 0],v] w fun e w'=>∃(A':Bb) (c:Nat),e=Ak (.tuple #[I A' (ptn s) c,O U 0])/\BAt w' w'.heap.size A' B/\Am w.heap.size w w':=by
 obtain⟨d,AF,cf,rfl,hA⟩:=hv;obtain⟨h1,h2⟩:=hF.tev hT (Qr hA.at_);have hC:=Xb s hT.lo hT.few [] d F h2 A SV AV AX AF Z kc ks kv kx cf 0 w hS (fun h=>absurd h (by simp)) hA.at_;rw[h1] at hC;refine hC.mono ?_;rintro e w' ⟨A',c,rfl,hr,_,hb⟩;exact⟨A',c,by rw[<-hF.len],hr,hb⟩
variable (g:Int) (set:List Bool) (hl:set.length=ptn s) (AB:Bb) (kb:Nat) (w:Ba) (hS:SyAt w w.heap.size A SV AV AX s) (hB:BAt w w.heap.size AB set)
include hl hS hB
theorem held_at(NW:List Bool)(hh:kM s g set=(NW,0))(hn:NW.length=ptn s) :
  An Al 25 #[.agg (s.vs_ A kc SV ks AV kv AX kx),O U g,I AB (ptn s) kb] w fun e w'=>∃(A':Bb) (c:Nat),e=Ak (.tuple #[I A' (ptn s) c,O U 0])/\BAt w' w'.heap.size A' NW/\Am w.heap.size w w':=by
 have hp:=hT.p7;have hC:=held_any s hT.lo hT.few g set A SV AV AX AB kc ks kv kx kb w hS hB (by omega);rw[hh] at hC;unfold RetBA at hC;simp only[hn,hl] at hC;exact hC
theorem levels_at(hg:zw s g set=0) :
  An Al 26 #[.agg (s.vs_ A kc SV ks AV kv AX kx),O U g,I AB (ptn s) kb] w fun e w'=>∃(M gr:Nat),e=Ak (.tuple #[I (J ⟨gr,0,Z⟩) (ptn s) (ptn s),O U 0])/\xv (ptn s) (evG s g) set (M+1)=xv (ptn s) (evG s g) set M/\RowAt w' gr (uC (ptn s) (evG s g) set M)/\Am w.heap.size w w':=by
 have hp:=hT.p7;have hC:=Jn s hT.lo hT.few g set A SV AV AX AB kc ks kv kx kb (by omega) w hS hB;rw[hl] at hC;refine hC.mono ?_;rintro e w' ⟨hb,h | ⟨_,M,gr,h1,h2,_,_,h3⟩⟩
 . exact absurd hg h.1
 exact⟨M,gr,h1,h2,h3,hb⟩
theorem radius_at(F:List Int)(hr:je s g set=(F,0))(hn:F.length=ptn s) :
  An Al 27 #[.agg (s.vs_ A kc SV ks AV kv AX kx),O U g,I AB (ptn s) kb] w fun e w'=>∃(A':Bb) (c:Nat),e=Ak (.tuple #[I A' (ptn s) c,O U 0])/\IAt w' w'.heap.size A' F/\Am w.heap.size w w':=by
 have hp:=hT.p7;have hC:=Yc s hT.lo hT.few g set A SV AV AX AB kc ks kv kx kb w hS hB (by omega);rw[hr] at hC;unfold RetIA at hC;simp only[hn,hl] at hC;exact hC
theorem J5(pt:Int)(W:List (Int×Int))(b:Bool)(hw:jM s g pt set=((W,b),0)) :
  An Al 29 #[.agg (s.vs_ A kc SV ks AV kv AX kx),O U g,O U pt,I AB (ptn s) kb] w fun e w'=>∃(A':Bb) (c:Nat),e=Ak (.tuple #[I A' W.length c,Ah b,O U 0])/\TAt w' w'.heap.size A' W/\Am w.heap.size w w':=by
 have hp:=hT.p7;have hC:=QD s hT.lo hT.few g pt set A SV AV AX AB kc ks kv kx kb w hS hB (by omega);rw[hw] at hC;rw[hl] at hC;refine hC.mono ?_;rintro e w' ⟨A',c,h1,_,_,h2,h3⟩;exact⟨A',c,h1,h2,h3⟩
theorem verify_at(W:List (Int×Int))(AT:Bb)(kt:Nat)(hW:TAt w w.heap.size AT W)(hn:W.length<=1000)(hv:qN s g set W=0) :
  An Al 30 #[.agg (s.vs_ A kc SV ks AV kv AX kx),O U g,I AB (ptn s) kb,I AT W.length kt] w fun e w'=>e=Ak (O U 0)/\Am w.heap.size w w':=by
 have hp:=hT.p7;have hC:=J8 s hT.lo hT.few g set W A SV AV AX AB AT kc ks kv kx kb kt w hS hB hW (by omega) (by omega);rw[hv,hl] at hC;exact hC
end
theorem equal_at(A A':Bb)(c c' n:Nat)(NW:List Bool)(hn:NW.length=n)(h7:n<=700)(w:Ba)(h:BAt w w.heap.size A NW)(h':BAt w w.heap.size A' NW) :
  An Al 28 #[I A n c,I A' n c'] w fun e w'=>e=Ak (Ah Av)/\Am w.heap.size w w':=by
 subst hn;refine(uR A A' c c' NW NW w w.heap.size (Ld _) h h' (by omega) (by omega)).mono ?_;rintro e w' ⟨rfl,q,rfl⟩;exact⟨by rw[Lw rfl],yy (Ll _ _) q⟩
end
section
open Go.RowKit Go.Shelf
attribute [local go_sem] Oper.semAt_some
theorem bits_ne6{N G:Nat}(hN:N<=5)(hG:G<2^N)(h0:G≠0):zB G N≠[]:=by
 have h:∀N:Nat,N<6->∀G:Nat,G<32->G<2^N->G≠0->zB G N≠[]:=by decide +kernel
 refine h N (by omega) G ?_ hG h0;have:2^N<=2^5:=Nt (by decide) hN;omega
theorem Qm(p:Pb)(hl:Y0 p)(A SV AF:Bb)(kc ks cf df:Nat)(f:Fm)(n:Nat)(hn:n<256)(w:Ba)(hA:CAt w w.heap.size A p.t.cases)(hS:SAt w w.heap.size SV p.a.sts)(hF:FsAt w w.heap.size df AF f.args) :
  An Al 6 #[.agg (p.vs A kc SV ks),.agg (f.vs AF cf),.int .u8 (n:Int)] w fun e w'=>e=Ak (Ah Av)/\Am w.heap.size w w':=by
 obtain⟨wa,ic,da,mY,oW⟩:=zn w (p.vs A kc SV ks) 29;obtain⟨w3,bL,dc,oM,oC⟩:=zn wa (f.vs AF cf) 32;have hB:Am w.heap.size w w3:=oW.trans (oC.mono (by omega));have da:=Lb oC (by omega) da;rw[mY] at dc oM;have Bg:As (∀X,Am w3.heap.size w3 X->CAt X X.heap.size A p.t.cases/\SAt X X.heap.size SV p.a.sts):=fun X hX=>⟨(((hA.keep hB).more hB.size).keep hX).more hX.size,(((hS.keep hB).more hB.size).keep hX).more hX.size⟩
 have SN:As (∀X,Am w3.heap.size w3 X->FsAt X X.heap.size df AF f.args):=fun X hX=>(((hF.keep hB).more hB.size).keep hX).more hX.size
 have mQ:As (∀X,Am w3.heap.size w3 X->FmA X f (.agg (f.vs AF cf))):=fun X hX=>FmA.of (SN.out X hX)
 have bD:As (∀X,Am w3.heap.size w3 X->X.heap[w.heap.size]?=J (Ag (p.vs A kc SV ks) 29 (0,0))/\X.heap[w.heap.size+1]?=J (Ag (f.vs AF cf) 32 (0,0))):=fun X hX=>⟨Lb hX (by omega) da,Lb hX (by omega) dc⟩
 have iO:=zH (fun (X:Ba) (AL:Bb) (D:Nat) (hX:Am w3.heap.size w3 X) (hL:FsAt X X.heap.size (D+1) AL [f])=>YR p hl A SV AL kc ks 1 D [f] (by simp) X (Bg.out X hX).1 (Bg.out X hX).2 hL);have HLP:=zH hl;have HZ:=zH oM;unfold Pb.vs at ic bD iO ⊢;unfold Fm.vs at bL mQ bD ⊢;have AZ:=zH ic;have AS:=zH bL;have HB:=zH hB;clear ic bL da dc mY oW oC hB hA hS hF hl;go_enter func6,ntmps6;go_upto_region 1 with fail
 rw[AZ.out,AS.out];go_wp2_with fail;refine(QJ w3).mono ?_;rintro e w4 ⟨rfl,aD⟩;have G4:=zH aD;obtain⟨D0,D1⟩:=bD.out _ G4.out;obtain⟨p0,p1,p2,p3,p4,p5,p6,_⟩:=Kg (D0);obtain⟨q0,q1,q2,q3,q4,q5,_⟩:=Ki (D1);obtain⟨w5,dY,d5,cY,am⟩:=zn w4 #[O U f.h.op,O U f.h.p,O U f.h.o,O U f.h.v,O U f.h.g,I AF f.args.length cf] 32;have G5:=zH (Lc G4.out am);obtain⟨D,hD⟩:=fs_one (S:=fun _=>True) (F:=f) d5 trivial ((FsS.of (SN.out _ G5.out) (Ld _)).keep (Ld _) fun _ _ _=>⟨trivial,rfl⟩);have HC:=zH (iO.out w5 (J ⟨w4.heap.size,0,Z⟩) D G5.out hD.at_.deep);have mJ:=zH dY;clear dY d5 cY am hD D0 D1 aD iO Bg SN;unfold RetTry at HC;go_wp2_with fail;rw[mJ.out];refine HC.out.mono ?_;rintro e w6 ⟨T,AC,fR,AV,AX,fK,fJ,kv,kx,b,rfl,cB,dJ⟩;have G6:=zH (Lc G5.out cB);have tj:=zH dJ;clear cB dJ HC p0 p1 p2 p3 p4 p5 p6 q0 q1 q2 q3 q4 q5;obtain⟨w7,Cn,d7,fC,dE⟩:=zn w6 (T.vs_ AC fK fR fJ AV kv AX kx) 39;have G7:=zH (Lc G6.out dE)
 cases b with
 | false=>
  have ck:=zH (Lc HB.out G7.out);unfold Sy.vs_ at Cn ⊢;have Eu:=zH Cn;clear Cn d7 fC dE tj bD mQ;go_upto_region 4 with fail
  rw[Eu.out];go_wp2_with fail;go_ret;exact⟨rfl,ck.out⟩
 | true=>
 obtain⟨hr,hTe,C1,Ih⟩:=tj.out rfl;obtain⟨K,N,rN,Ol,hTb,nx⟩:=topW_of HLP.out hr;rw[<-hTe] at rN Ol;have KP:=(Ih f (by simp)).vf (s:=T) nx;obtain⟨AA,hAA⟩:=Kj (qk T [] D f);rw[hAA] at KP;have cZ:=rN.fine.n1;have nd:=rN.fine.n5;have Om:=rN.fine.n
 have h2b:(2:Int)<=(2:Int)^N/\(2:Int)^N<=32:=by
  obtain rfl | rfl | rfl | rfl | rfl:N=1\/N=2\/N=3\/N=4\/N=5:=by omega
  all_goals decide
 obtain⟨G0,Uc⟩:∃G0:Nat,(2:Int)^N-1=(G0:Int):=⟨((2:Int)^N-1).toNat,by omega⟩;obtain⟨r,rC⟩:=Kj (n % G0);have eM:r<G0:=by rw[<-rC];exact Sw _ (by omega)
 have Vz:Int.tmod (n:Int) ((2:Int)^N-1)=(r:Int):=by rw[Uc,<-rC];exact(Int.ofNat_tmod n G0).symm
 obtain⟨gg,ov⟩:=Kj (r+1);have MQ:(gg:Int)=(r:Int)+1:=by rw[<-ov];push_cast;rfl
 have nC:1<=(gg:Int)/\(gg:Int)<=(2:Int)^N-1:=by omega
 have pR:gg<32:=by omega
 have Mf:psG T (gg:Int)=zB gg N:=by unfold psG;rw[Lm,Om,Lm]
 have hgN:gg<2^N:=by
  have:((2^N:Nat):Int)=(2:Int)^N:=by push_cast;rfl
  omega
 have cI:psG T (gg:Int)≠[]:=by rw[Mf];exact bits_ne6 nd hgN (by omega)
 have En:AA.length=ptn T:=KP.len;have KO:=KP.more (a':=128) (b':=24) (by omega) (by omega);have oK:=(KP.com nC).more (a':=128) (b':=24) (by omega) (by omega);have hCW:=cw_facts rN (g:=(gg:Int)) En ⟨by omega,by omega⟩ cI;have iS:=rN.p1;have TA:=rN.p7;obtain⟨si,FR,L7,tT,hFl,Mz,EZ⟩:=hCW;obtain⟨NW,Az⟩:=Kj (yq (ptn T) (evG T (gg:Int)) AA (ptn T));have hNl:NW.length=ptn T:=by rw[<-Az];exact qH _
 rw[Az] at oK tT EZ;obtain⟨P,hP⟩:=Kj (ptn T);have d7w:=d7;have sA:=zH (fun (X:Ba) (hX:Am w7.heap.size w7 X)=>(C1.up dE).up hX);have SK:=zH (fun (X:Ba) (hX:Am w7.heap.size w7 X)=>mQ.out X (Lc G7.out hX));have E7:As (∀X,Am w7.heap.size w7 X->X.heap[w6.heap.size]?=J (Ag (T.vs_ AC fK fR fJ AV kv AX kx) 39 (0,0))):=fun X hX=>Lb hX (by omega) d7
 have E4:As (∀X,Am w7.heap.size w7 X->X.heap[w.heap.size+1]?=J (Ag #[O U f.h.op,O U f.h.p,O U f.h.o,O U f.h.v,O U f.h.g,I AF f.args.length cf] 32 (0,0))):=fun X hX=>(bD.out X (Lc G7.out hX)).2
 have Hn:=zH (fun (F:Fm) (B:List Bool) (hF:Vf T [] N 128 24 F B) (v:Au) (X:Ba) (hv:FmA X F v) (hX:Am w7.heap.size w7 X)=>eval_at T K N rN AC fR AV AX fK fJ kv kx F B hF v X hv (sA.out X hX));have IZ:=zH (fun (AB:Bb) (kb:Nat) (X:Ba) (hX:Am w7.heap.size w7 X) (hB:BAt X X.heap.size AB AA)=>held_at T K N rN AC fR AV AX fK fJ kv kx (gg:Int) AA En AB kb X (sA.out X hX) hB NW tT hNl);have IY:=zH (fun (AB:Bb) (kb:Nat) (X:Ba) (hX:Am w7.heap.size w7 X) (hB:BAt X X.heap.size AB AA)=>levels_at T K N rN AC fR AV AX fK fJ kv kx (gg:Int) AA En AB kb X (sA.out X hX) hB si);have IX:=zH (fun (AB:Bb) (kb:Nat) (X:Ba) (hX:Am w7.heap.size w7 X) (hB:BAt X X.heap.size AB AA)=>radius_at T K N rN AC fR AV AX fK fJ kv kx (gg:Int) AA En AB kb X (sA.out X hX) hB FR L7 hFl);have Hm:=zH (fun (pt:Int) (W:List (Int×Int)) (b:Bool) (hw:jM T (gg:Int) pt AA=((W,b),0)) (AB:Bb) (kb:Nat) (X:Ba) (hX:Am w7.heap.size w7 X) (hB:BAt X X.heap.size AB AA)=>J5 T K N rN AC fR AV AX fK fJ kv kx (gg:Int) AA En AB kb X (sA.out X hX) hB pt W b hw);have Dv:=zH (fun (W:List (Int×Int)) (hn:W.length<=1000) (hv:qN T (gg:Int) AA W=0) (AB:Bb) (kb:Nat) (AT:Bb) (kt:Nat) (X:Ba) (hX:Am w7.heap.size w7 X) (hB:BAt X X.heap.size AB AA) (hW:TAt X X.heap.size AT W)=>verify_at T K N rN AC fR AV AX fK fJ kv kx (gg:Int) AA En AB kb X (sA.out X hX) hB W AT kt hW hn hv);have GR:=zH Mz;have O4:=zH EZ
 have nZ:=zH (And.intro En (And.intro hNl hFl));have HV1:=zH KO;have HV2:=zH oK;rw[hP] at iS TA Hn IZ IY IX Hm Dv GR O4 nZ;unfold Sy.vs_ at Cn E7 d7w Hn IZ IY IX Hm Dv ⊢;have Eu:=zH Cn;have D7:=zH d7w;have Gy:=zH Om;have HN:=zH (And.intro cZ nd);have HP:=zH (And.intro iS TA);have GB:As (Am w.heap.size w w7):=Lc HB.out G7.out;have hgm:(n:Int) % (G0:Int)=(r:Int):=by rw[<-rC];push_cast;rfl
 have HGI:=zH MQ;clear Cn d7 d7w fC dE tj bD mQ hr hTe C1 Ih rN Ol hTb nx KP KO oK hAA Om cZ nd cI Mf hgN ov Mz EZ si L7 tT hFl hNl En Az hP iS TA pR nC;go_upto_region 6 with fail
 rw[Eu.out];have x7:=zh D7.out 7 rfl;rw[Gy.out] at x7;have E3:IntKind.i64.wrap ((2:Int)^N)=(2:Int)^N:=by rw[Lo];omega
 have DT:min N 64=N:=by have:=HN.out;omega
 have mX:IntKind.i64.wrap ((2:Int)^N-1)=(2:Int)^N-1:=by rw[Lo];omega
 have hwn:IntKind.i64.wrap (n:Int)=(n:Int):=by rw[Lo];omega
 have eK:IntKind.i64.wrap ((r:Int)+1)=(r:Int)+1:=by rw[Lo];omega
 have KH:IntKind.i64.wrap (r:Int)=(r:Int):=by rw[Lo];omega
 have H':¬(2:Int)^N-1=0:=by omega
 have VQ:¬(2:Int)^N=1:=by omega
 have IW:As (Am w7.heap.size w7 w7):=Ll _ _;have e7:=E7.out _ IW.out;have e4:=E4.out _ IW.out;obtain⟨y0,y1,y2,y3,y4,y5,y6,_⟩:=Kg (e7);have y8:=zh e7 8 rfl;have y9:=zh e7 9 rfl;obtain⟨z0,z1,z2,z3,z4,z5,_⟩:=Ki (e4);have HC:=zH (Hn.out f AA HV1.out _ w7 (SK.out _ IW.out) IW.out);clear e7 e4;go_upto_region 7 with fail
 rw[show(r:Int)+1=(gg:Int) from HGI.out.symm];clear x7;have y7:=zh (E7.out _ IW.out) 7 rfl;clear E3 mX hwn eK KH H' VQ Vz hgm Uc eM h2b rC MQ;go_wp2_with fail;refine HC.out.mono ?_;rintro e w8 ⟨A8,c8,rfl,Fj,eD⟩;have G8:=zH eD;have dq:As (∀X,Am w8.heap.size w8 X->BAt X X.heap.size A8 AA):=fun X hX=>(Fj.keep hX).more hX.size
 have mp:∀X,Am w8.heap.size w8 X->Am w7.heap.size w7 X:=fun X hX=>Lc G8.out hX
 have E7:=zH (fun (X:Ba) (hX:Am w8.heap.size w8 X)=>E7.out X (mp X hX));have E4:=zH (fun (X:Ba) (hX:Am w8.heap.size w8 X)=>E4.out X (mp X hX));have SK:=zH (fun (X:Ba) (hX:Am w8.heap.size w8 X)=>SK.out X (mp X hX));have Hn:=zH (fun (F:Fm) (B:List Bool) (hF:Vf T [] N 128 24 F B) (v:Au) (X:Ba) (hv:FmA X F v) (hX:Am w8.heap.size w8 X)=>Hn.out F B hF v X hv (mp X hX));have IZ:=zH (fun (kb:Nat) (X:Ba) (hX:Am w8.heap.size w8 X)=>IZ.out A8 kb X (mp X hX) (dq.out X hX));have IY:=zH (fun (kb:Nat) (X:Ba) (hX:Am w8.heap.size w8 X)=>IY.out A8 kb X (mp X hX) (dq.out X hX));have IX:=zH (fun (kb:Nat) (X:Ba) (hX:Am w8.heap.size w8 X)=>IX.out A8 kb X (mp X hX) (dq.out X hX));have Hm:=zH (fun (pt:Int) (W:List (Int×Int)) (b:Bool) (hw:jM T (gg:Int) pt AA=((W,b),0)) (kb:Nat) (X:Ba) (hX:Am w8.heap.size w8 X)=>Hm.out pt W b hw A8 kb X (mp X hX) (dq.out X hX));have Dv:=zH (fun (W:List (Int×Int)) (hn:W.length<=1000) (hv:qN T (gg:Int) AA W=0) (kb:Nat) (AT:Bb) (kt:Nat) (X:Ba) (hX:Am w8.heap.size w8 X) (hW:TAt X X.heap.size AT W)=>Dv.out W hn hv A8 kb AT kt X (mp X hX) (dq.out X hX) hW);have G0:As (Am w8.heap.size w8 w8):=Ll _ _;clear Fj eD HC y0 y1 y2 y3 y4 y5 y6 y7 y8 y9 z0 z1 z2 z3 z4 z5 mp sA IW D7 Eu;go_upto_region 8 with fail
 have aS:As (∀X,Am w8.heap.size w8 X->X.heap[w6.heap.size]?=J (Ag #[O U T.p.t.n,O U T.p.t.ins,O U T.p.t.outs,I AC T.p.t.cases.length fK,O U T.p.a.n,I fR T.p.a.sts.length fJ,O U T.p.k,O U T.n,I AV T.vs.length kv,I AX T.xs.length kx] 39 (0,0))/\X.heap[w.heap.size+1]?=J (Ag #[O U f.h.op,O U f.h.p,O U f.h.o,O U f.h.v,O U f.h.g,I AF f.args.length cf] 32 (0,0))):=fun X hX=>⟨E7.out X hX,E4.out X hX⟩
 refine zr [(0,Av),(1,Av),(2,Av),(3,Av),(4,Aw),(5,Aw),(6,Av),(7,Av),(8,Av),(9,Av),(10,Av)] (fun X=>X.heap[w6.heap.size]?=J (Ag #[O U T.p.t.n,O U T.p.t.ins,O U T.p.t.outs,I AC T.p.t.cases.length fK,O U T.p.a.n,I fR T.p.a.sts.length fJ,O U T.p.k,O U T.n,I AV T.vs.length kv,I AX T.xs.length kx] 39 (0,0))/\X.heap[w.heap.size+1]?=J (Ag #[O U f.h.op,O U f.h.p,O U f.h.o,O U f.h.v,O U f.h.g,I AF f.args.length cf] 32 (0,0))) (by kernel_rfl) (by kernel_rfl) (aS.out _ G0.out.drew) ?_;apply zk rfl
 . rintro K' aa X u
   have e:=u.1;obtain⟨x0,x1,x2,x3,x4,x5,x6,x7,x8,x9⟩:=zM (e);clear u e;go_simp;exact aa
 apply zk rfl
 . rintro K' aa X -
   go_simp;exact aa
 apply zk rfl
 . rintro K' aa X -
   go_simp;exact aa
 apply zk rfl
 . rintro K' aa X u
   have e:=u.2;obtain⟨x0,x1,x2,x3,x4,x5,_⟩:=Ki (e);clear u e;go_simp;exact aa
 refine zu rfl ?_;intro K' aa;go_simp;refine(tryGrA f _ _ (SK.out w8.drew G0.out.drew) 13 (by simp) (gg:Int)).mono ?_;rintro e mw1 ⟨mv1,rfl,hv,hb⟩;have OX:=zH hv;have Hl:As (Am w8.heap.size w8 mw1):=Lc G0.out.drew hb;refine aa _ _ (aS.out _ Hl.out) ?_;clear aa K' hb hv;refine zu rfl ?_;intro K' aa;go_simp;refine(Hn.out _ _ HV2.out _ mw1 OX.out Hl.out).mono ?_;rintro e wY ⟨AC8,cCOM,rfl,hbY,hb⟩;have GY:=zH (Lc Hl.out hb);have EO:=zH hbY;clear hbY;refine aa _ _ (aS.out _ GY.out) ?_;clear aa K' hb;clear OX;apply zk rfl
 . rintro K' aa X -
   go_simp;exact aa
 apply zk rfl
 . rintro K' aa X -
   go_simp;exact aa
 apply zk rfl
 . rintro K' aa X -
   go_simp;exact aa
 apply zk rfl
 . rintro K' aa X -
   go_simp;exact aa
 apply zk rfl
 . rintro K' aa X -
   go_simp;exact aa
 refine zz ?_;go_upto_region 9 with fail
 have UD:=HP.out;obtain⟨bc,oc,eAc,_,Ea⟩:=EO.out (by rw[nZ.out.2.1];omega);subst eAc;have mR:As (∀X,Am wY.heap.size wY X->BAt X X.heap.size (J ⟨bc,oc,Z⟩) NW):=fun X hX=>(EO.out.keep hX).more hX.size
 have G9:As (Am w8.heap.size w8 wY):=GY;have e7:=E7.out _ G9.out;obtain⟨y0,y1,y2,y3,y4,y5,y6,y7,y8,y9⟩:=zM (e7);have HC:=zH (IZ.out c8 wY G9.out);clear e7 UD;go_wp2_with fail;refine HC.out.mono ?_;rintro e w9 ⟨A9,c9,rfl,hr9,dL⟩;have EQ:=zH (Lc G9.out dL);have mR:=zH (fun (X:Ba) (hX:Am w9.heap.size w9 X)=>mR.out X (Lc dL hX));have UL:As (∀X,Am w9.heap.size w9 X->BAt X X.heap.size A9 NW):=fun X hX=>(hr9.keep hX).more hX.size
 have dv:=zH (IY.out c8 w9 EQ.out);clear hr9 dL HC y0 y1 y2 y3 y4 y5 y6 y7 y8 y9;have e7:=E7.out _ EQ.out;obtain⟨y0,y1,y2,y3,y4,y5,y6,y7,y8,y9⟩:=zM (e7);clear e7;go_wp2_with fail;refine dv.out.mono ?_;rintro e ed ⟨M,gr,rfl,hM,Fl,ct⟩;have G11:=zH (Lc EQ.out ct);have EE:=zH (GR.out M hM);have iH:=Fl.lt;have cX:As (∀X,Am ed.heap.size ed X->RowAt X gr (uC P (evG T (gg:Int)) AA M)):=fun X hX=>Lb hX iH Fl
 have mR:=zH (fun (X:Ba) (hX:Am ed.heap.size ed X)=>mR.out X (Lc ct hX));have UL:=zH (fun (X:Ba) (hX:Am ed.heap.size ed X)=>UL.out X (Lc ct hX));have HC3:=zH (IX.out c8 ed G11.out);clear Fl ct dv hM iH GR y0 y1 y2 y3 y4 y5 y6 y7 y8 y9;have e7:=E7.out _ G11.out;obtain⟨y0,y1,y2,y3,y4,y5,y6,y7,y8,y9⟩:=zM (e7);clear e7;go_wp2_with fail;refine HC3.out.mono ?_;rintro e Cj ⟨A11,c11,rfl,Fk,t'⟩;have G12:=zH (Lc G11.out t');have UD:=HP.out;obtain⟨br,Tg,eAr,_,l'⟩:=Fk (by rw[nZ.out.2.2];omega);subst eAr;have oE:As (∀X,Am Cj.heap.size Cj X->IAt X X.heap.size (J ⟨br,Tg,Z⟩) FR):=fun X hX=>(Fk.keep hX).more hX.size
 have cX:=zH (fun (X:Ba) (hX:Am Cj.heap.size Cj X)=>cX.out X (Lc t' hX));have mR:=zH (fun (X:Ba) (hX:Am Cj.heap.size Cj X)=>mR.out X (Lc t' hX));have UR:=zH (equal_at (J ⟨bc,oc,Z⟩) A9 cCOM c9 P NW nZ.out.2.1 UD.2 Cj (mR.out Cj (Ll _ _)) (UL.out Cj t'));clear Fk t' l' Ea HC3 UD UL y0 y1 y2 y3 y4 y5 y6 y7 y8 y9;go_wp2_with fail;refine UR.out.mono ?_;rintro e iu ⟨rfl,mA⟩;have G13:=zH (Lc G12.out mA);have oE:=zH (fun (X:Ba) (hX:Am iu.heap.size iu X)=>oE.out X (Lc mA hX));have cX:=zH (fun (X:Ba) (hX:Am iu.heap.size iu X)=>cX.out X (Lc mA hX));have mR:=zH (fun (X:Ba) (hX:Am iu.heap.size iu X)=>mR.out X (Lc mA hX));have tD:∀X,Am iu.heap.size iu X->Am w8.heap.size w8 X:=fun X hX=>Lc G13.out hX
 have E7:=zH (fun (X:Ba) (hX:Am iu.heap.size iu X)=>E7.out X (tD X hX));have Hm:=zH (fun (pt:Int) (W:List (Int×Int)) (b:Bool) (hw:jM T (gg:Int) pt AA=((W,b),0)) (kb:Nat) (X:Ba) (hX:Am iu.heap.size iu X)=>Hm.out pt W b hw kb X (tD X hX));have Dv:=zH (fun (W:List (Int×Int)) (hn:W.length<=1000) (hv:qN T (gg:Int) AA W=0) (kb:Nat) (AT:Bb) (kt:Nat) (X:Ba) (hX:Am iu.heap.size iu X) (hW:TAt X X.heap.size AT W)=>Dv.out W hn hv kb AT kt X (tD X hX) hW);have GB2:As (Am w.heap.size w iu):=GB.out.trans ((Lc G8.out G13.out).mono GB.out.size);obtain⟨Q,hQ⟩:=Kj (min P 40);have HQ:As (Q<=P/\Q<=40):=by rw[<-hQ];exact⟨Nat.min_le_left _ _,Nat.min_le_right _ _⟩
 have hQI:min (P:Int) 40=(Q:Int):=by rw[<-hQ];omega
 clear tD mA UR IZ IY IX Hn SK E4 hQ;go_wp2_with fail
 go_loopw [121] (fun i wr=>∃k:Nat,k<=Q/\i=O U (k:Int)/\As (Am iu.heap.size iu wr)) (fun i _=>Q-(Ar i).toNat)
 case atStart=>exact⟨0,by omega,rfl,Ll _ _⟩
 obtain⟨k,hk,rfl,bz⟩:=hrel;have ns:IntKind.i64.wrap ((k:Int)+1)=((k+1:Nat):Int):=by have:=HQ.out;rw[Lo];omega
 by_cases hlt:k<Q
 . have dg:(0:Int)<=(k:Int):=by omega
   have aM:(k:Int)<(Q:Int):=by omega
   have Wi:k<P:=by have:=HQ.out;omega
   have fU:(k:Int)<(P:Int):=by omega
   obtain⟨W,is,Tq,iC,mU,hww⟩:=O4.out k Wi;have HWW:=zH (And.intro mU hww);have e7:=E7.out _ bz.out;obtain⟨y0,y1,y2,y3,y4,y5,y6,y7,y8,y9⟩:=zM (e7);have HC:=zH (Hm.out (k:Int) W is Tq c8 wr bz.out)
   have hXC:NW[k]?=J (!is):=by
    rw[Lf] at iC;rw[Li (by have:=nZ.out;omega)] at iC ⊢;exact congrArg J iC
   have Ux:As (∀X,Am iu.heap.size iu X->X.cell? ⟨bc,oc+k,Z⟩=J (Ah (!is))):=fun X hX=>by
    obtain⟨b_,o_,e_,_,c_⟩:=(mR.out X hX).at_ k (by have:=nZ.out;omega);simp only[Option.some.injEq,Addr.mk.injEq,and_true] at e_;obtain⟨rfl,rfl⟩:=e_;rw[c_];rw[Li (by have:=nZ.out;omega)] at hXC;rw[NS hXC]
   clear Tq iC mU hww hXC e7;go_wp2_with fail;refine HC.out.mono ?_;rintro e mo ⟨A13,c13,rfl,Mb,nK⟩;have Tc:As (Am iu.heap.size iu mo):=Lc bz.out nK;have IE:=zH (fun (X:Ba) (hX:Am mo.heap.size mo X)=>(Mb.keep hX).more hX.size);clear Mb nK HC y0 y1 y2 y3 y4 y5 y6 y7 y8 y9
   cases is with
   | false=>
    have fP:(Aw==!false)=Aw:=rfl;go_upto_region 18 with fail
    have aS:As (∀X,Am iu.heap.size iu X->X.heap[w6.heap.size]?=J (Ag #[O U T.p.t.n,O U T.p.t.ins,O U T.p.t.outs,I AC T.p.t.cases.length fK,O U T.p.a.n,I fR T.p.a.sts.length fJ,O U T.p.k,O U T.n,I AV T.vs.length kv,I AX T.xs.length kx] 39 (0,0))/\X.cell? ⟨bc,oc+k,Z⟩=J (Ah (!false))):=fun X hX=>⟨E7.out X hX,Ux.out X hX⟩
    refine zr [(0,Av),(1,Av),(2,Av),(3,Av),(4,Av),(5,Av),(6,Av),(7,Av),(8,Av),(9,Av),(10,Av),(11,Av),(12,Av),(13,Av),(14,Av),(15,Av),(16,Av),(17,Aw),(18,Av),(19,Av),(20,Av),(21,Av),(22,Av),(23,Av),(24,Av),(25,Av),(26,Av),(27,Av),(28,Av),(29,Av),(30,Av),(31,Av),(32,Av),(33,Av),(34,Av),(35,Av),(36,Av),(37,Av),(38,Av),(39,Av),(40,Av),(41,Av),(42,Av)] (fun X=>X.heap[w6.heap.size]?=J (Ag #[O U T.p.t.n,O U T.p.t.ins,O U T.p.t.outs,I AC T.p.t.cases.length fK,O U T.p.a.n,I fR T.p.a.sts.length fJ,O U T.p.k,O U T.n,I AV T.vs.length kv,I AX T.xs.length kx] 39 (0,0))/\X.cell? ⟨bc,oc+k,Z⟩=J (Ah (!false))) (by kernel_rfl) (by kernel_rfl) (aS.out _ Tc.out.drew) ?_;apply zk rfl
    . rintro K' aa X -
      go_simp;exact aa
    apply zk rfl
    . rintro K' aa X -
      go_simp;exact aa
    apply zk rfl
    . rintro K' aa X -
      go_simp;exact aa
    apply zk rfl
    . rintro K' aa X -
      go_simp;exact aa
    apply zk rfl
    . rintro K' aa X -
      go_simp;exact aa
    apply zk rfl
    . rintro K' aa X -
      go_simp;exact aa
    apply zk rfl
    . rintro K' aa X -
      go_simp;exact aa
    apply zk rfl
    . rintro K' aa X u
      have z0:=u.2;clear u;go_simp;exact aa
    apply zk rfl
    . rintro K' aa X -
      go_simp;exact aa
    apply zk rfl
    . rintro K' aa X -
      go_simp;exact aa
    apply zk rfl
    . rintro K' aa X -
      go_simp;exact aa
    apply zk rfl
    . rintro K' aa X -
      go_simp;exact aa
    apply zk rfl
    . rintro K' aa X -
      go_simp;exact aa
    apply zk rfl
    . rintro K' aa X -
      go_simp;exact aa
    apply zk rfl
    . rintro K' aa X -
      go_simp;exact aa
    apply zk rfl
    . rintro K' aa X -
      go_simp;exact aa
    apply zk rfl
    . rintro K' aa X -
      go_simp;exact aa
    refine zu rfl ?_;intro K' aa;go_simp;refine aa _ _ (aS.out _ Tc.out.drew) ?_;clear aa K';apply zk rfl
    . rintro K' aa X -
      go_simp;exact aa
    apply zk rfl
    . rintro K' aa X -
      go_simp;exact aa
    apply zk rfl
    . rintro K' aa X -
      go_simp;exact aa
    apply zk rfl
    . rintro K' aa X -
      go_simp;exact aa
    apply zk rfl
    . rintro K' aa X -
      go_simp;exact aa
    apply zk rfl
    . rintro K' aa X -
      go_simp;exact aa
    apply zk rfl
    . rintro K' aa X -
      go_simp;exact aa
    apply zk rfl
    . rintro K' aa X -
      go_simp;exact aa
    apply zk rfl
    . rintro K' aa X -
      go_simp;exact aa
    apply zk rfl
    . rintro K' aa X -
      go_simp;exact aa
    apply zk rfl
    . rintro K' aa X -
      go_simp;exact aa
    apply zk rfl
    . rintro K' aa X -
      go_simp;exact aa
    apply zk rfl
    . rintro K' aa X -
      go_simp;exact aa
    apply zk rfl
    . rintro K' aa X -
      go_simp;exact aa
    apply zk rfl
    . rintro K' aa X -
      go_simp;exact aa
    apply zk rfl
    . rintro K' aa X -
      go_simp;exact aa
    apply zk rfl
    . rintro K' aa X -
      go_simp;exact aa
    apply zk rfl
    . rintro K' aa X -
      go_simp;exact aa
    apply zk rfl
    . rintro K' aa X -
      go_simp;exact aa
    apply zk rfl
    . rintro K' aa X -
      go_simp;exact aa
    apply zk rfl
    . rintro K' aa X -
      go_simp;exact aa
    apply zk rfl
    . rintro K' aa X -
      go_simp;exact aa
    apply zk rfl
    . rintro K' aa X -
      go_simp;exact aa
    apply zk rfl
    . rintro K' aa X -
      go_simp;exact aa
    apply zk rfl
    . rintro K' aa X -
      go_simp;exact aa
    refine zz ?_;have By:=zH (Tc.out.drew);go_wp2_with fail
    go_roundw
    case rel=>exact⟨k+1,by omega,by go_num,By⟩
    case measure=>simp[Ar];omega
   | true=>
    obtain⟨KQ,ay,nF⟩:=HWW.out.2 rfl;obtain⟨fk,CO⟩:=Kj (FR.getD k 0);rw[CO] at ay nF;have mU:=HWW.out.1;have hwF:IntKind.i64.wrap (fk+1)=fk+1:=by rw[Lo];omega
    have hwG:IntKind.i64.wrap (fk-1)=fk-1:=by rw[Lo];omega
    have tD:∀X,Am mo.heap.size mo X->Am iu.heap.size iu X:=fun X hX=>Lc Tc.out hX
    have HXR:As (∀X,Am mo.heap.size mo X->X.cell? ⟨br,Tg+k,Z⟩=J (O U fk)):=fun X hX=>by
     obtain⟨b_,o_,e_,_,c_⟩:=(oE.out X (tD X hX)).at_ k (by have:=nZ.out;omega);simp only[Option.some.injEq,Addr.mk.injEq,and_true] at e_;obtain⟨rfl,rfl⟩:=e_;rw[c_];have MX:=CO;rw[Lf,Li (by have:=nZ.out;omega)] at MX;exact congrArg (fun z=>J (O U z)) MX
    have HXL:As (∀X,Am mo.heap.size mo X->X.cell? ⟨gr,k,Z⟩=J (O U (fk-1))):=fun X hX=>by
     have iG:=EE.out k Wi;rw[CO,Lg (by omega)] at iG;have aJ:k<(uC P (evG T (gg:Int)) AA M).length:=by unfold uC;rw[LG,List.length_range];exact Wi
     rw[(cX.out X (tD X hX)).cell k aJ];rw[Lf,Li aJ] at iG;exact congrArg (fun z=>J (O U z)) iG
    have Ux:=zH (fun (X:Ba) (hX:Am mo.heap.size mo X)=>Ux.out X (tD X hX));have E7:=zH (fun (X:Ba) (hX:Am mo.heap.size mo X)=>E7.out X (tD X hX));have Dv:=zH (fun (X:Ba) (hX:Am mo.heap.size mo X)=>Dv.out W mU KQ c8 A13 c13 X (tD X hX) (IE.out X hX));have GZ:As (Am mo.heap.size mo mo):=Ll _ _;have HW13:=zH Tc.out;have pU:(Av==!true)=Aw:=rfl;clear tD CO mU KQ;go_upto_region 18 with fail
    have aS:As (∀X,Am mo.heap.size mo X->X.heap[w6.heap.size]?=J (Ag #[O U T.p.t.n,O U T.p.t.ins,O U T.p.t.outs,I AC T.p.t.cases.length fK,O U T.p.a.n,I fR T.p.a.sts.length fJ,O U T.p.k,O U T.n,I AV T.vs.length kv,I AX T.xs.length kx] 39 (0,0))/\X.cell? ⟨bc,oc+k,Z⟩=J (Ah (!true))/\X.cell? ⟨br,Tg+k,Z⟩=J (O U fk)/\X.cell? ⟨gr,k,Z⟩=J (O U (fk-1))):=fun X hX=>⟨E7.out X hX,Ux.out X hX,HXR.out X hX,HXL.out X hX⟩
    refine zr [(0,Av),(1,Av),(2,Av),(3,Av),(4,Av),(5,Av),(6,Av),(7,Av),(8,Av),(9,Av),(10,Av),(11,Av),(12,Av),(13,Av),(14,Av),(15,Av),(16,Av),(17,Aw),(18,Av),(19,Av),(20,Av),(21,Av),(22,Av),(23,Av),(24,Av),(25,Av),(26,Av),(27,Av),(28,Av),(29,Av),(30,Av),(31,Av),(32,Av),(33,Av),(34,Av),(35,Av),(36,Av),(37,Av),(38,Av),(39,Av),(40,Av),(41,Av),(42,Av)] (fun X=>X.heap[w6.heap.size]?=J (Ag #[O U T.p.t.n,O U T.p.t.ins,O U T.p.t.outs,I AC T.p.t.cases.length fK,O U T.p.a.n,I fR T.p.a.sts.length fJ,O U T.p.k,O U T.n,I AV T.vs.length kv,I AX T.xs.length kx] 39 (0,0))/\X.cell? ⟨bc,oc+k,Z⟩=J (Ah (!true))/\X.cell? ⟨br,Tg+k,Z⟩=J (O U fk)/\X.cell? ⟨gr,k,Z⟩=J (O U (fk-1))) (by kernel_rfl) (by kernel_rfl) (aS.out _ GZ.out.drew) ?_;apply zk rfl
    . rintro K' aa X -
      go_simp;exact aa
    apply zk rfl
    . rintro K' aa X -
      go_simp;exact aa
    apply zk rfl
    . rintro K' aa X -
      go_simp;exact aa
    apply zk rfl
    . rintro K' aa X -
      go_simp;exact aa
    apply zk rfl
    . rintro K' aa X -
      go_simp;exact aa
    apply zk rfl
    . rintro K' aa X -
      go_simp;exact aa
    apply zk rfl
    . rintro K' aa X -
      go_simp;exact aa
    apply zk rfl
    . rintro K' aa X u
      have z0:=u.2.1;have z1:=u.2.2.1;have z2:=u.2.2.2;clear u;go_simp;exact aa
    apply zk rfl
    . rintro K' aa X -
      go_simp;exact aa
    apply zk rfl
    . rintro K' aa X -
      go_simp;exact aa
    apply zk rfl
    . rintro K' aa X -
      go_simp;exact aa
    apply zk rfl
    . rintro K' aa X -
      go_simp;exact aa
    apply zk rfl
    . rintro K' aa X -
      go_simp;exact aa
    apply zk rfl
    . rintro K' aa X u
      have e:=u.1;obtain⟨x0,x1,x2,x3,x4,x5,x6,x7,x8,x9⟩:=zM (e);clear u e;go_simp;exact aa
    apply zk rfl
    . rintro K' aa X -
      go_simp;exact aa
    apply zk rfl
    . rintro K' aa X -
      go_simp;exact aa
    apply zk rfl
    . rintro K' aa X -
      go_simp;exact aa
    refine zu rfl ?_;intro K' aa;go_simp;refine(Dv.out mo.drew GZ.out.drew).mono ?_;rintro e wY ⟨rfl,hb⟩;have GY:=zH (Lc GZ.out.drew hb);refine aa _ _ (aS.out _ GY.out) ?_;clear aa K' hb;apply zk rfl
    . rintro K' aa X -
      go_simp;exact aa
    apply zk rfl
    . rintro K' aa X -
      go_simp;exact aa
    apply zk rfl
    . rintro K' aa X -
      go_simp;exact aa
    apply zk rfl
    . rintro K' aa X -
      go_simp;exact aa
    apply zk rfl
    . rintro K' aa X -
      go_simp;exact aa
    apply zk rfl
    . rintro K' aa X -
      go_simp;exact aa
    apply zk rfl
    . rintro K' aa X -
      go_simp;exact aa
    apply zk rfl
    . rintro K' aa X u
      have z0:=u.2.1;have z1:=u.2.2.1;have z2:=u.2.2.2;clear u;go_simp;exact aa
    apply zk rfl
    . rintro K' aa X -
      go_simp;exact aa
    apply zk rfl
    . rintro K' aa X -
      go_simp;exact aa
    apply zk rfl
    . rintro K' aa X -
      go_simp;exact aa
    apply zk rfl
    . rintro K' aa X -
      go_simp;exact aa
    apply zk rfl
    . rintro K' aa X -
      go_simp;exact aa
    apply zk rfl
    . rintro K' aa X -
      go_simp;exact aa
    apply zk rfl
    . rintro K' aa X -
      go_simp;exact aa
    apply zk rfl
    . rintro K' aa X u
      have z0:=u.2.1;have z1:=u.2.2.1;have z2:=u.2.2.2;clear u;go_simp;exact aa
    apply zk rfl
    . rintro K' aa X -
      go_simp;exact aa
    apply zk rfl
    . rintro K' aa X -
      go_simp;exact aa
    apply zk rfl
    . rintro K' aa X -
      go_simp;exact aa
    apply zk rfl
    . rintro K' aa X u
      have z0:=u.2.1;have z1:=u.2.2.1;have z2:=u.2.2.2;clear u;go_simp;exact aa
    apply zk rfl
    . rintro K' aa X -
      go_simp;exact aa
    apply zk rfl
    . rintro K' aa X -
      go_simp;exact aa
    apply zk rfl
    . rintro K' aa X -
      go_simp;exact aa
    apply zk rfl
    . rintro K' aa X -
      go_simp;exact aa
    apply zk rfl
    . rintro K' aa X -
      go_simp;exact aa
    refine zz ?_;have By:=zH (Lc HW13.out GY.out);go_wp2_with fail
    go_roundw
    case rel=>exact⟨k+1,by omega,by go_num,By⟩
    case measure=>simp[Ar];omega
 obtain rfl:Q=k:=by omega
 have aM:¬(Q:Int)<(Q:Int):=by omega
 have ck:=zH (Lc GB2.out bz.out);go_wp2_with fail;go_ret;exact⟨rfl,ck.out⟩
end
end Go.Proofs.YtkmbdfdaffmhjaaGreat
