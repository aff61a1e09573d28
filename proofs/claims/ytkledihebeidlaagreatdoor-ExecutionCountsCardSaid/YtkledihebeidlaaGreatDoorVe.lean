/- Merged. -/
import Derived.Test.YtkledihebeidlaaGreatDoorVd
open Go.Proofs.Tryz
open Go.Value renaming int->O,slice->I,bool->Ai,agg->Aj,pointer->Ak
open Go.IntKind renaming i64->U
open Option renaming none->Z,some->J
open Go.Obj renaming cells->Ah
open Go.Ending renaming returned->Am
open Go.Proofs.Tryz renaming prog->An
open Go.RowKit renaming Below->Ao,intOf->Aq,Hid->As
open Go renaming Calls->Ap,Value->Au
open Bool renaming true->Av,false->Ax
open Go.World.ownsRow renaming lt->PU
open Go.RowKit.Below renaming setCell->Ls
namespace Go.Proofs.YtkledihebeidlaaGreatDoor
abbrev N2:=@Nat.mul_comm
set_option maxRecDepth 100000
set_option maxHeartbeats 8000000
section
open Go.RowKit
theorem xD(w:Ba)(c1 c2 c3:Array Au)(t1 t2 t3:TypeId):∃W0,((w.alloc (Ah c1 t1)).alloc (Ah c2 t2)).alloc (Ah c3 t3)=W0/\W0.heap[w.heap.size]?=J (Ah c1 t1 (0,0))/\W0.heap[w.heap.size+1]?=J (Ah c2 t2 (0,0)) /\
  W0.heap[w.heap.size+1+1]?=J (Ah c3 t3 (0,0))/\W0.heap.size=w.heap.size+3/\Ao w.heap.size w W0:=
 ⟨_,rfl,zw (zw (zg _ _) _) _,zw (by have:=zg (w.alloc (Ah c1 t1)) (Ah c2 t2);rwa[LW] at this) _,
  by have:=zg ((w.alloc (Ah c1 t1)).alloc (Ah c2 t2)) (Ah c3 t3);rwa[LW,LW] at this,by simp,bel3 w _ _ _⟩
def PutCut(n:Int)(vs:List Vw)(v:Vw)(g:Nat)(w1:Ba)(s:Au)(wx:Ba):Prop:=
 s=Ak (J ⟨g,0,Z⟩)/\∃A cap,wx.cell? ⟨g,0,Z⟩=J (O U n)/\wx.cell? ⟨g,1,Z⟩=J (I A (vs.length+1) cap)/\OwnV wx (g+1) (I A (vs.length+1) cap) (vs++[v])/\Ao g w1 wx
theorem put_any(n:Int)(A:Bb)(cap:Nat)(vs:List Vw)(v:Vw)(w:Ba)(hT:TArg w A cap vs)(hl:vs.length<100000) :
  Ap An 126 #[Aj #[O U n,I A vs.length cap],.agg v.cells] w (RetPut n A cap vs v w):=by
 have HT:=zH hT;have dt:=hT.few;go_enter func126,ntmps126;unfold Vw.cells;go_wp2_with fail;obtain⟨W0,bD,b0,b1,b2,aZ,bH⟩:=xD w #[O U n,I A vs.length cap] v.cells #[O U 0,I Z 0 0] 33 100 33;unfold Vw.cells at bD;rw[bD];have c0:W0.heap[w.heap.size+1]?=J (Ah v.cells 100 (0,0)):=b1;have Oe:=HT.out.keep bH;refine(JD n A cap vs v W0 W0.heap.size (Lh _) Oe.rows (by omega)).mono ?_;rintro e w1 ⟨rfl,hb⟩;have HV:As (w1.heap[w.heap.size+1]?=J (Ah v.cells 100 (0,0))):=Lb hb (by omega) c0;have d0:=Lb hb (by omega) b0;have d2:=Lb hb (by omega) b2;have EN:=zH (Oe.keep hb);have B1:As (Ao w.heap.size w w1):=bH.trans (hb.mono (by omega));have l0:w.heap.size+3<=w1.heap.size:=by have:=hb.size;omega
 obtain⟨t0,t1,_⟩:=Ka d0;obtain⟨r0,r1,_⟩:=Ka d2;have f0:=zb d2 0;have f1:=zb d2 1
 by_cases hv:v∈vs
 . have hz:=zH hv
   have h0:0<=qp vs v:=Yu hv;go_wp2_with fail;have bC:As (Ao w.heap.size w ((w1.setCell ⟨w.heap.size+1+1,0,Z⟩ (O U n)).setCell ⟨w.heap.size+1+1,1,Z⟩ (I A vs.length cap))):=(B1.out.setCell (by simp;omega) _).setCell (by simp;omega) _;exact Nb (v:=.tuple #[Aj #[O U n,I A vs.length cap],O U (qp vs v)]) (by simp[results,results126,go_sem,r0,r1]) rfl ⟨bC.out,fun _=>rfl,fun h=>absurd hz.out h⟩
 have hz:As (v∉vs):=hv;have h0:qp vs v=-1:=by unfold qp;rw[Lj hv]
 have h1:qp vs v<0:=by omega
 go_upto_region 5 with fail
 obtain⟨W2,dx,g0,dX,aO⟩:=zq w1 #[O U n,I Z 0 0] 33;rw[dx];clear dx;have pX:W2.heap[w.heap.size+1]?=J (Ah v.cells 100 (0,0)):=Lb aO (by omega) HV.out;have D0:W2.heap[w.heap.size]?=J (Ah #[O U n,I A vs.length cap] 33 (0,0)):=Lb aO (by omega) d0;have D2:W2.heap[w.heap.size+1+1]?=J (Ah #[O U 0,I Z 0 0] 33 (0,0)):=Lb aO (by omega) d2;have x0:W2.cell? ⟨w.heap.size+1,0,Z⟩=J (O U v.p):=za pX 0 rfl;have x1:W2.cell? ⟨w.heap.size+1,1,Z⟩=J (O U v.r):=za pX 1 rfl;have x2:W2.cell? ⟨w.heap.size+1,2,Z⟩=J (O U v.i):=za pX 2 rfl;have x3:W2.cell? ⟨w.heap.size+1,3,Z⟩=J (O U v.h0):=za pX 3 rfl;have x4:W2.cell? ⟨w.heap.size+1,4,Z⟩=J (O U v.h1):=za pX 4 rfl;have x5:W2.cell? ⟨w.heap.size+1,5,Z⟩=J (O U v.h2):=za pX 5 rfl;have x6:W2.cell? ⟨w.heap.size+1,6,Z⟩=J (O U v.h3):=za pX 6 rfl;have x7:W2.cell? ⟨w.heap.size+1,7,Z⟩=J (O U v.h4):=za pX 7 rfl;have s1:W2.cell? ⟨w.heap.size,1,Z⟩=J (I A vs.length cap):=za D0 1 rfl;have y1:W2.cell? ⟨w1.heap.size,1,Z⟩=J (I Z 0 0):=za g0 1 rfl;have y0:W2.cell? ⟨w1.heap.size,0,Z⟩=J (O U n):=za g0 0 rfl;have BX:=zH aO;have l3:w.heap.size<W2.heap.size:=by omega
 have z1:=zb g0 1;have l2:w1.heap.size<W2.heap.size:=by omega
 have sJ:=zH (EN.out.keep aO);have B2:As (Ao w.heap.size w W2):=Lc B1.out aO;have bn:=zH d0;have ij:=zH d2;clear d0 d2 t0 t1 r0 r1 f0 f1 aO dX
 go_cut [7] (fun s7 wx=>PutCut n vs v w1.heap.size w1 s7 wx)
 case first=>
  go_region_law ((first
    | (refine Y1 (by rfl) (.tmp 19) (.tmp 21) (by rfl) W2.heap.size (by rfl) A cap vs (by rfl) (by first | exact sJ.out.keep (Lp _ _).drew | exact sJ.out.keep (zt W2 _).drew) (by simp) ?_;intro A1 C0 wA cQ bW;have hG:W2.grownBy wA Z:=(by first | exact⟨bW.os,bW.tape,bW.output,bW.size,bW.block⟩ | exact yO (o:=Ah v.cells 100) ⟨bW.os,bW.tape,bW.output,bW.size,bW.block⟩);have e0:=zM hG x0 (by simp);have e1:=zM hG x1 (by simp);have e2:=zM hG x2 (by simp);have e3:=zM hG x3 (by simp);have e4:=zM hG x4 (by simp);have e5:=zM hG x5 (by simp);have e6:=zM hG x6 (by simp);have e7:=zM hG x7 (by simp);have e8:=zM hG y1 (by simp);have e9:=js hG z1 l2 (by simp);have e10:W2.heap.size<=wA.heap.size:=hG.size)
    | (refine uH (by rfl) (.tmp 22) (.tmp 24) (by rfl) W2.heap.size _ vs v (by rfl) (cQ.alloc _) (by omega) wA.heap.size (by rfl) (zg wA _) (by first | omega | (simp;omega)) ?_;intro A3 ee wB mw aH;have hH:wA.grownBy wB (I A1 vs.length C0).ownBlock:=(by first | exact⟨aH.os,aH.tape,aH.output,aH.size,aH.block⟩ | exact yO (o:=Ah v.cells 100) ⟨aH.os,aH.tape,aH.output,aH.size,aH.block⟩);have h8:=zM hH e8 (cQ.ne (by omega));have h9:=js hH e9 (by omega) (cQ.ne (by omega));have Hv:Ao w1.heap.size w1 wB:=(BX.out.grown hG (by omega) (by simp)).grown hH (by omega) (fun k hk=>by have:=(cQ.lt k hk).1;omega);have OG:=zM hH (zM hG y0 (by simp)) (cQ.ne (by omega)))
    | (refine uH (by rfl) (.tmp 22) (.tmp 24) (by rfl) W2.heap.size _ vs v (by rfl) (cQ) (by omega) W2.heap.size (by rfl) (XH bW (zg W2 _) (by simp)) (by first | omega | (simp;omega)) ?_;intro A3 ee wB mw aH;have hH:wA.grownBy wB (I A1 vs.length C0).ownBlock:=(by first | exact⟨aH.os,aH.tape,aH.output,aH.size,aH.block⟩ | exact yO (o:=Ah v.cells 100) ⟨aH.os,aH.tape,aH.output,aH.size,aH.block⟩);have h8:=zM hH e8 (cQ.ne (by omega));have h9:=js hH e9 (by omega) (cQ.ne (by omega));have Hv:Ao w1.heap.size w1 wB:=(BX.out.grown hG (by omega) (by simp)).grown hH (by omega) (fun k hk=>by have:=(cQ.lt k hk).1;omega);have OG:=zM hH (zM hG y0 (by simp)) (cQ.ne (by omega)))))
  all_goals
   go_wp2_with fail
   go_meet
   refine⟨rfl,A3,ee,by simp[go_sem,OG],by simp[go_sem,h8],?_,Hv.setCell (by simp) _⟩;exact(OwnV.kept mw (jr wB w1.heap.size 1 _) (Or.inr (mw.ne l2))).low l2
 obtain⟨rfl,A3,ee,c0,c1,He,aW⟩:=hcut;have D0:=Lb aW (by omega) bn.out;have D2:=Lb aW (by omega) ij.out;have t1:wc.cell? ⟨w.heap.size,1,Z⟩=J (I A vs.length cap):=za D0 1 rfl;obtain⟨r0,r1,_⟩:=Ka D2;have f0:=zb D2 0;have f1:=zb D2 1;have IG:=zH He;have bE:As (Ao w.heap.size w wc):=Lc B1.out aW;go_wp2_with fail
 go_region
 all_goals
  go_wp2_with fail;have bC:As (Ao w.heap.size w (((wc.setCell ⟨w.heap.size+1+1,0,Z⟩ (O U n)).setCell ⟨w.heap.size+1+1,1,Z⟩ (I A3 (vs.length+1) ee)).drew)):=((bE.out.setCell (by simp;omega) _).setCell (by simp;omega) _).drew
  have oP:OwnV ((wc.setCell ⟨w.heap.size+1+1,0,Z⟩ (O U n)).setCell ⟨w.heap.size+1+1,1,Z⟩ (I A3 (vs.length+1) ee)) (w1.heap.size+1) (I A3 (vs.length+1) ee) (vs++[v]):=
   (IG.out.kept (jr wc (w.heap.size+1+1) 0 _) (Or.inr (IG.out.ne (by omega)))).kept (jr _ (w.heap.size+1+1) 1 _) (Or.inr (IG.out.ne (by omega)))
  exact Nb (v:=.tuple #[Aj #[O U n,I A3 (vs.length+1) ee],O U vs.length]) (by simp[results,results126,go_sem,r0,r1]) rfl ⟨bC.out,fun h=>absurd h hz.out,fun _=>⟨A3,ee,rfl,(OwnV.drew oP).low (by have:=B1.out.size;omega)⟩⟩
end
section
open Go.RowKit Go.Shelf
attribute [local go_sem] Oper.semAt_some
theorem kD{w X:Ba}{g h B:Nat}{a0 a1 a2 a3 a4 a5 a6 a7 a8 a9 u0:Au}(v0 v1 v2 v3 v4 v5 v6 v7 v8 v9 u:Au)(hg:X.heap[g]?=J (Ah #[a0,a1,a2,a3,a4,a5,a6,a7,a8,a9] 36 (0,0)))(hh:X.heap[h]?=J (Ah #[u0] 46 (0,0)))
  (bG:g≠h) (hB:Ao B w X) (h1:B<=g) (h2:B<=h) :
  (((((((((((X.setCell ⟨g,0,Z⟩ v0).setCell ⟨g,1,Z⟩ v1).setCell ⟨g,2,Z⟩ v2).setCell ⟨g,3,Z⟩ v3).setCell ⟨g,4,Z⟩ v4).setCell ⟨g,5,Z⟩ v5).setCell ⟨g,6,Z⟩ v6).setCell ⟨g,7,Z⟩ v7).setCell ⟨g,8,Z⟩ v8).setCell ⟨g,9,Z⟩ v9).setCell ⟨h,0,Z⟩ u).heap[g]?=J (Ah #[v0,v1,v2,v3,v4,v5,v6,v7,v8,v9] 36 (0,0))/\(((((((((((X.setCell ⟨g,0,Z⟩ v0).setCell ⟨g,1,Z⟩ v1).setCell ⟨g,2,Z⟩ v2).setCell ⟨g,3,Z⟩ v3).setCell ⟨g,4,Z⟩ v4).setCell ⟨g,5,Z⟩ v5).setCell ⟨g,6,Z⟩ v6).setCell ⟨g,7,Z⟩ v7).setCell ⟨g,8,Z⟩ v8).setCell ⟨g,9,Z⟩ v9).setCell ⟨h,0,Z⟩ u).heap[h]?=J (Ah #[u] 46 (0,0))/\Ao B w (((((((((((X.setCell ⟨g,0,Z⟩ v0).setCell ⟨g,1,Z⟩ v1).setCell ⟨g,2,Z⟩ v2).setCell ⟨g,3,Z⟩ v3).setCell ⟨g,4,Z⟩ v4).setCell ⟨g,5,Z⟩ v5).setCell ⟨g,6,Z⟩ v6).setCell ⟨g,7,Z⟩ v7).setCell ⟨g,8,Z⟩ v8).setCell ⟨g,9,Z⟩ v9).setCell ⟨h,0,Z⟩ u) /\
   (((((((((((X.setCell ⟨g,0,Z⟩ v0).setCell ⟨g,1,Z⟩ v1).setCell ⟨g,2,Z⟩ v2).setCell ⟨g,3,Z⟩ v3).setCell ⟨g,4,Z⟩ v4).setCell ⟨g,5,Z⟩ v5).setCell ⟨g,6,Z⟩ v6).setCell ⟨g,7,Z⟩ v7).setCell ⟨g,8,Z⟩ v8).setCell ⟨g,9,Z⟩ v9).setCell ⟨h,0,Z⟩ u).heap.size=X.heap.size/\(∀k,k≠g->k≠h->(((((((((((X.setCell ⟨g,0,Z⟩ v0).setCell ⟨g,1,Z⟩ v1).setCell ⟨g,2,Z⟩ v2).setCell ⟨g,3,Z⟩ v3).setCell ⟨g,4,Z⟩ v4).setCell ⟨g,5,Z⟩ v5).setCell ⟨g,6,Z⟩ v6).setCell ⟨g,7,Z⟩ v7).setCell ⟨g,8,Z⟩ v8).setCell ⟨g,9,Z⟩ v9).setCell ⟨h,0,Z⟩ u).heap[k]?=X.heap[k]?):=by
 have k0:(X.setCell ⟨g,0,Z⟩ v0).heap[g]?=J (Ah #[v0,a1,a2,a3,a4,a5,a6,a7,a8,a9] 36 (0,0)):=Lk _ g 0 _ _ v0 hg;have k1:((X.setCell ⟨g,0,Z⟩ v0).setCell ⟨g,1,Z⟩ v1).heap[g]?=J (Ah #[v0,v1,a2,a3,a4,a5,a6,a7,a8,a9] 36 (0,0)):=Lk _ g 1 _ _ v1 k0;have k2:(((X.setCell ⟨g,0,Z⟩ v0).setCell ⟨g,1,Z⟩ v1).setCell ⟨g,2,Z⟩ v2).heap[g]?=J (Ah #[v0,v1,v2,a3,a4,a5,a6,a7,a8,a9] 36 (0,0)):=Lk _ g 2 _ _ v2 k1;have k3:((((X.setCell ⟨g,0,Z⟩ v0).setCell ⟨g,1,Z⟩ v1).setCell ⟨g,2,Z⟩ v2).setCell ⟨g,3,Z⟩ v3).heap[g]?=J (Ah #[v0,v1,v2,v3,a4,a5,a6,a7,a8,a9] 36 (0,0)):=Lk _ g 3 _ _ v3 k2;have k4:(((((X.setCell ⟨g,0,Z⟩ v0).setCell ⟨g,1,Z⟩ v1).setCell ⟨g,2,Z⟩ v2).setCell ⟨g,3,Z⟩ v3).setCell ⟨g,4,Z⟩ v4).heap[g]?=J (Ah #[v0,v1,v2,v3,v4,a5,a6,a7,a8,a9] 36 (0,0)):=Lk _ g 4 _ _ v4 k3;have k5:((((((X.setCell ⟨g,0,Z⟩ v0).setCell ⟨g,1,Z⟩ v1).setCell ⟨g,2,Z⟩ v2).setCell ⟨g,3,Z⟩ v3).setCell ⟨g,4,Z⟩ v4).setCell ⟨g,5,Z⟩ v5).heap[g]?=J (Ah #[v0,v1,v2,v3,v4,v5,a6,a7,a8,a9] 36 (0,0)):=Lk _ g 5 _ _ v5 k4;have k6:(((((((X.setCell ⟨g,0,Z⟩ v0).setCell ⟨g,1,Z⟩ v1).setCell ⟨g,2,Z⟩ v2).setCell ⟨g,3,Z⟩ v3).setCell ⟨g,4,Z⟩ v4).setCell ⟨g,5,Z⟩ v5).setCell ⟨g,6,Z⟩ v6).heap[g]?=J (Ah #[v0,v1,v2,v3,v4,v5,v6,a7,a8,a9] 36 (0,0)):=Lk _ g 6 _ _ v6 k5
 have k7:((((((((X.setCell ⟨g,0,Z⟩ v0).setCell ⟨g,1,Z⟩ v1).setCell ⟨g,2,Z⟩ v2).setCell ⟨g,3,Z⟩ v3).setCell ⟨g,4,Z⟩ v4).setCell ⟨g,5,Z⟩ v5).setCell ⟨g,6,Z⟩ v6).setCell ⟨g,7,Z⟩ v7).heap[g]?=J (Ah #[v0,v1,v2,v3,v4,v5,v6,v7,a8,a9] 36 (0,0)):=Lk _ g 7 _ _ v7 k6;have k8:(((((((((X.setCell ⟨g,0,Z⟩ v0).setCell ⟨g,1,Z⟩ v1).setCell ⟨g,2,Z⟩ v2).setCell ⟨g,3,Z⟩ v3).setCell ⟨g,4,Z⟩ v4).setCell ⟨g,5,Z⟩ v5).setCell ⟨g,6,Z⟩ v6).setCell ⟨g,7,Z⟩ v7).setCell ⟨g,8,Z⟩ v8).heap[g]?=J (Ah #[v0,v1,v2,v3,v4,v5,v6,v7,v8,a9] 36 (0,0)):=Lk _ g 8 _ _ v8 k7;have k9:((((((((((X.setCell ⟨g,0,Z⟩ v0).setCell ⟨g,1,Z⟩ v1).setCell ⟨g,2,Z⟩ v2).setCell ⟨g,3,Z⟩ v3).setCell ⟨g,4,Z⟩ v4).setCell ⟨g,5,Z⟩ v5).setCell ⟨g,6,Z⟩ v6).setCell ⟨g,7,Z⟩ v7).setCell ⟨g,8,Z⟩ v8).setCell ⟨g,9,Z⟩ v9).heap[g]?=J (Ah #[v0,v1,v2,v3,v4,v5,v6,v7,v8,v9] 36 (0,0)):=Lk _ g 9 _ _ v9 k8
 have l9:=(Le _ ⟨g,9,Z⟩ v9 h (PC bG)).trans ((Le _ ⟨g,8,Z⟩ v8 h (PC bG)).trans ((Le _ ⟨g,7,Z⟩ v7 h (PC bG)).trans ((Le _ ⟨g,6,Z⟩ v6 h (PC bG)).trans ((Le _ ⟨g,5,Z⟩ v5 h (PC bG)).trans ((Le _ ⟨g,4,Z⟩ v4 h (PC bG)).trans ((Le _ ⟨g,3,Z⟩ v3 h (PC bG)).trans ((Le _ ⟨g,2,Z⟩ v2 h (PC bG)).trans ((Le _ ⟨g,1,Z⟩ v1 h (PC bG)).trans ((Le _ ⟨g,0,Z⟩ v0 h (PC bG)).trans (hh))))))))));refine⟨(Le _ ⟨h,0,Z⟩ u g bG).trans k9,?_,?_,by simp,fun k n1 n2=>?_⟩
 . rw[Lk _ h 0 _ _ u l9];rfl
 . refine Ls (p:=⟨h,0,Z⟩) ?_ h2 _
   refine Ls (p:=⟨g,9,Z⟩) ?_ h1 _;refine Ls (p:=⟨g,8,Z⟩) ?_ h1 _;refine Ls (p:=⟨g,7,Z⟩) ?_ h1 _;refine Ls (p:=⟨g,6,Z⟩) ?_ h1 _;refine Ls (p:=⟨g,5,Z⟩) ?_ h1 _;refine Ls (p:=⟨g,4,Z⟩) ?_ h1 _;refine Ls (p:=⟨g,3,Z⟩) ?_ h1 _;refine Ls (p:=⟨g,2,Z⟩) ?_ h1 _;refine Ls (p:=⟨g,1,Z⟩) ?_ h1 _;refine Ls (p:=⟨g,0,Z⟩) ?_ h1 _;exact hB
 refine(Le _ ⟨h,0,Z⟩ u k n2).trans ?_;refine(Le _ ⟨g,9,Z⟩ v9 k n1).trans ?_;refine(Le _ ⟨g,8,Z⟩ v8 k n1).trans ?_;refine(Le _ ⟨g,7,Z⟩ v7 k n1).trans ?_;refine(Le _ ⟨g,6,Z⟩ v6 k n1).trans ?_;refine(Le _ ⟨g,5,Z⟩ v5 k n1).trans ?_;refine(Le _ ⟨g,4,Z⟩ v4 k n1).trans ?_;refine(Le _ ⟨g,3,Z⟩ v3 k n1).trans ?_;refine(Le _ ⟨g,2,Z⟩ v2 k n1).trans ?_;refine(Le _ ⟨g,1,Z⟩ v1 k n1).trans ?_;exact Le _ ⟨g,0,Z⟩ v0 k n1
theorem Zv(w:Ba)(o:Obj):∃W0,w.alloc o=W0/\W0.heap[w.heap.size]?=J o/\W0.heap.size=w.heap.size+1/\Ao w.heap.size w W0:=⟨_,rfl,zg _ _,by simp,zt w _⟩
theorem jR{t:Tk}:∀ {q:Option Cs} {l:List Cs},qJ t q l=0->∀c∈l,(c.inp.length:Int)=t.n
 | _,[],_,c,hc=>by cases hc
 | q,d::l,h,c,hc=>by
  rw[qJ] at h
  split at h
  . rename_i h1;exact absurd h h1
  . rename_i h1
    rcases LQ.1 hc with rfl | hc
    . have h2:xU t q c=0:=by simpa using h1
      unfold xU at h2
      split at h2
      . rename_i h3;exact absurd h2 h3
      . rename_i h3
        have h4:zr c.inp t.n t.ins=0:=by simpa using h3
        unfold zr at h4
        split at h4
        . cases h4
        . rename_i h5;simpa using h5
    . exact jR h c hc
theorem ZR{t:Tk}(h:yE t=0):∀c∈t.cases,(c.inp.length:Int)=t.n:=by
 unfold yE at h
 split at h
 . cases h
 split at h
 . cases h
 exact jR (by unfold yU at h;rwa[LS] at h)
theorem RowX.turnC{α:Type}{C:Ct α}(ok:CtOk C){S:Nat->Prop}{w w':Ba}{g:Nat}{xs:List α}(h:RowX C S w g xs)(hs:w.heap.size<=w'.heap.size)(hc:∀(k:Nat) (o:Obj),w.heap[k]?=J o->o.isCells=Av->w'.heap[k]?=J o):RowX C S w' g xs:=by
 obtain⟨dn,h1,h2⟩:=h;refine⟨dn,hc _ _ h1 rfl,fun i hi=>?_⟩;obtain⟨cs,h3,h4⟩:=h2 i hi;exact⟨cs,ok.keepC h3 (KeepC.of_cells _ hs hc),h4⟩
theorem OwnV.of_same{w w':Ba}{aa:Nat}{v:Au}{vs:List Vw}(h:OwnV w aa v vs)(hk:∀k,v.ownBlock=J k->w'.heap[k]?=w.heap[k]?):OwnV w' aa v vs:=by
 refine⟨h.1,?_⟩;rcases h.2 with hn | ⟨g,cap,cur,hv,hb,hg,rest⟩
 . exact .inl hn
 exact .inr ⟨g,cap,cur,hv,hb,(hk g (by rw[hv];rfl)).trans hg,rest⟩
def RetSys(r:Sy×Int)(w:Ba)(e:Ending)(w':Ba):Prop:=∃A kc SV ks AV kv AX kx,e=Am (.tuple #[.agg (r.1.vs_ A kc SV ks AV kv AX kx),O U r.2])/\SyAt w' w'.heap.size A SV AV AX r.1/\r.1.vs.length<=kv/\kv<=maxLen/\Ao w.heap.size w w'
theorem RetSys.zero{w W:Ba}(n:Int)(h:Ao w.heap.size w W):RetSys (xS,n) w (Am (.tuple #[Aj #[O U 0,O U 0,O U 0,I Z 0 0,O U 0,I Z 0 0,O U 0,O U 0,I Z 0 0,I Z 0 0],O U n])) W:=
 ⟨Z,0,Z,0,Z,0,Z,0,rfl,⟨CAt.nil _ _ _,SAt.nil _ _ _,fun h=>absurd h (by simp[xS]),XAt.nil _ _ _⟩,Lh _,Nl _,h⟩
def RetSysF(L0 B0:Nat)(r:Sy×Int)(w:Ba)(e:Ending)(w':Ba):Prop:=∃A kc SV ks AV kv AX kx,e=Am (.tuple #[.agg (r.1.vs_ A kc SV ks AV kv AX kx),O U r.2]) /\
 (∀W':Ba,w'.heap.size<=W'.heap.size->(∀k,((L0<=k/\k<B0)\/w.heap.size<=k)->k<w'.heap.size->W'.heap[k]?=w'.heap[k]?)->SyAt W' W'.heap.size A SV AV AX r.1)/\r.1.vs.length<=kv/\kv<=maxLen/\Ao w.heap.size w w'
theorem RetSysF.zero{L0 B0:Nat}{w W:Ba}(n:Int)(h:Ao w.heap.size w W):RetSysF L0 B0 (xS,n) w (Am (.tuple #[Aj #[O U 0,O U 0,O U 0,I Z 0 0,O U 0,I Z 0 0,O U 0,O U 0,I Z 0 0,I Z 0 0],O U n])) W:=
 ⟨Z,0,Z,0,Z,0,Z,0,rfl,fun W' _ _=>⟨CAt.nil _ _ _,SAt.nil _ _ _,fun h=>absurd h (by simp[xS]),XAt.nil _ _ _⟩,Lh _,Nl _,h⟩
theorem RetSysF.sys{L0 B0:Nat}{r:Sy×Int}{w W:Ba}{e:Ending}(h:RetSysF L0 B0 r w e W):RetSys r w e W:=by
 obtain⟨A,kc,SV,ks,AV,kv,AX,kx,he,h1,h2,h3,h4⟩:=h;exact⟨A,kc,SV,ks,AV,kv,AX,kx,he,h1 W (Lh _) (fun _ _ _=>rfl),h2,h3,h4⟩
theorem Qa(p:Pb)(hf:qn p)(A:Bb)(kc:Nat)(SV:Bb)(ks:Nat)(w:Ba)(L0 B0:Nat)(bH:B0<=w.heap.size)(eP:CAt w B0 A p.t.cases)(oV:SAt w B0 SV p.a.sts)(sW:CAtL L0 B0 w A p.t.cases)(sN:SAtL L0 B0 w SV p.a.sts) :
  Ap An 19 #[.agg (p.vs A kc SV ks)] w (RetSysF L0 B0 (zD p) w):=by
 have hA:=eP.more bH;have hS:=oV.more bH;have Wu:=zH sW;have lc:=zH sN;clear sW sN eP oV;have nT:=zH (fun (W:Ba) (h1:CAt W W.heap.size A p.t.cases) (h2:SAt W W.heap.size SV p.a.sts)=>wF p hf.1 A kc SV ks W h1 h2);have ay:=zH (@xg p);have am:=zH (@yP p);have az:=zH (@xI p);have fg:=zH hf;obtain⟨w1,ag,d0,d1,d2,aZ,hBw⟩:=xD w (p.vs A kc SV ks) #[O U 0,O U 0,O U 0,I Z 0 0,O U 0,I Z 0 0,O U 0,O U 0,I Z 0 0,I Z 0 0] #[O U 0] 29 36 46;have HA:=zH hA;have HS:=zH hS;have bh:=zH hBw;have bn:=zH d0;have bN:=zH d1;have ij:=zH d2;have DN:=nT.out w1 ((hA.keep hBw).more hBw.size) ((hS.keep hBw).more hBw.size);have DN:=zH DN;unfold Pb.vs at ag d0 DN ⊢;obtain⟨q0,q1,q2,q3,q4,q5,q6,_⟩:=Kf d0;have al:=zH ag;clear ag d0 d1 d2 hBw hA hS hf nT;refine zV func19 rfl ?_;simp only[ntmps19,List.size_toArray,List.length_cons,List.length_nil,Nat.reduceAdd,Nat.reduceSub,Array.replicate_succ,Array.replicate_zero,List.push_toArray,List.append_toArray,List.nil_append,List.cons_append];go_wp2_with fail;rw[al.out];go_wp2_with fail;refine DN.out.mono ?_;rintro e w2 ⟨rfl,ae⟩;clear DN al q0 q1 q2 q3 q4 q5 q6;have D0:=zH (La ae bn.out);have D1:=zH (La ae bN.out);have D2:=zH (La ae ij.out);have B2:=zH (bh.out.trans (ae.mono (by omega)));have dX:=ae.size;clear ae
 by_cases fq:zz p=0
 case neg=>
  have tY:qS p=(0,zz p):=Ln fq;rw[tY,ay.out fq];have e0:(zz p != 0)=Av:=by simpa using fq
  obtain⟨pe,BN⟩:=Kh (zz p);rw[BN] at e0 ⊢;have x0:w2.cell? ⟨w.heap.size+1,0,Z⟩=J (O U 0):=za D1.out 0 rfl;have f0:=zb D1.out 0;have x1:w2.cell? ⟨w.heap.size+1,1,Z⟩=J (O U 0):=za D1.out 1 rfl;have f1:=zb D1.out 1;have x2:w2.cell? ⟨w.heap.size+1,2,Z⟩=J (O U 0):=za D1.out 2 rfl;have f2:=zb D1.out 2;have x3:w2.cell? ⟨w.heap.size+1,3,Z⟩=J (I Z 0 0):=za D1.out 3 rfl;have f3:=zb D1.out 3;have x4:w2.cell? ⟨w.heap.size+1,4,Z⟩=J (O U 0):=za D1.out 4 rfl;have f4:=zb D1.out 4;have x5:w2.cell? ⟨w.heap.size+1,5,Z⟩=J (I Z 0 0):=za D1.out 5 rfl;have f5:=zb D1.out 5;have x6:w2.cell? ⟨w.heap.size+1,6,Z⟩=J (O U 0):=za D1.out 6 rfl;have f6:=zb D1.out 6;have x7:w2.cell? ⟨w.heap.size+1,7,Z⟩=J (O U 0):=za D1.out 7 rfl;have f7:=zb D1.out 7;have x8:w2.cell? ⟨w.heap.size+1,8,Z⟩=J (I Z 0 0):=za D1.out 8 rfl;have f8:=zb D1.out 8;have x9:w2.cell? ⟨w.heap.size+1,9,Z⟩=J (I Z 0 0):=za D1.out 9 rfl;have f9:=zb D1.out 9;have y0:w2.cell? ⟨w.heap.size+1+1,0,Z⟩=J (O U 0):=za D2.out 0 rfl;have g0:=zb D2.out 0;go_wp2_with fail;obtain⟨k1,k2,k3,_,_⟩:=kD (O U 0) (O U 0) (O U 0) (I Z 0 0) (O U 0) (I Z 0 0) (O U 0) (O U 0) (I Z 0 0) (I Z 0 0) (O U pe) D1.out D2.out (by omega) B2.out (by omega:w.heap.size<=w.heap.size+1) (by omega:w.heap.size<=w.heap.size+1+1);refine yC (B:=w.heap.size) (Marks.nil _ _) ?_
  intro W hX;have c0:W.cell? ⟨w.heap.size+1,0,Z⟩=J (O U 0):=hX.cell (za k1 0 rfl);have c1:W.cell? ⟨w.heap.size+1,1,Z⟩=J (O U 0):=hX.cell (za k1 1 rfl);have c2:W.cell? ⟨w.heap.size+1,2,Z⟩=J (O U 0):=hX.cell (za k1 2 rfl);have c3:W.cell? ⟨w.heap.size+1,3,Z⟩=J (I Z 0 0):=hX.cell (za k1 3 rfl);have c4:W.cell? ⟨w.heap.size+1,4,Z⟩=J (O U 0):=hX.cell (za k1 4 rfl);have c5:W.cell? ⟨w.heap.size+1,5,Z⟩=J (I Z 0 0):=hX.cell (za k1 5 rfl);have c6:W.cell? ⟨w.heap.size+1,6,Z⟩=J (O U 0):=hX.cell (za k1 6 rfl);have c7:W.cell? ⟨w.heap.size+1,7,Z⟩=J (O U 0):=hX.cell (za k1 7 rfl);have c8:W.cell? ⟨w.heap.size+1,8,Z⟩=J (I Z 0 0):=hX.cell (za k1 8 rfl);have c9:W.cell? ⟨w.heap.size+1,9,Z⟩=J (I Z 0 0):=hX.cell (za k1 9 rfl);have sX:W.cell? ⟨w.heap.size+1+1,0,Z⟩=J (O U pe):=hX.cell (za k2 0 rfl);have hR:=RetSysF.zero (L0:=L0) (B0:=B0) pe (k3.trans hX.below);rw[ay.out fq,BN];exact⟨_,by simp[results,results19,go_sem,c0,c1,c2,c3,c4,c5,c6,c7,c8,c9,sX],hR⟩
 case pos=>
 have tY:qS p=qY 1048576 (zA p):=Lj (by simpa using fq);rw[tY]
 by_cases hT:4096<zA p
 case pos=>
  have HB:=zH (am.out fq hT)
  by_cases sJ:1048576<zA p
  case pos=>
   have pT:qY 1048576 (zA p)=(0,17):=Ln sJ;rw[pT];clear ay am az tY hT sJ pT fg fq;have x0:w2.cell? ⟨w.heap.size+1,0,Z⟩=J (O U 0):=za D1.out 0 rfl;have f0:=zb D1.out 0;have x1:w2.cell? ⟨w.heap.size+1,1,Z⟩=J (O U 0):=za D1.out 1 rfl;have f1:=zb D1.out 1;have x2:w2.cell? ⟨w.heap.size+1,2,Z⟩=J (O U 0):=za D1.out 2 rfl;have f2:=zb D1.out 2;have x3:w2.cell? ⟨w.heap.size+1,3,Z⟩=J (I Z 0 0):=za D1.out 3 rfl;have f3:=zb D1.out 3;have x4:w2.cell? ⟨w.heap.size+1,4,Z⟩=J (O U 0):=za D1.out 4 rfl;have f4:=zb D1.out 4;have x5:w2.cell? ⟨w.heap.size+1,5,Z⟩=J (I Z 0 0):=za D1.out 5 rfl;have f5:=zb D1.out 5;have x6:w2.cell? ⟨w.heap.size+1,6,Z⟩=J (O U 0):=za D1.out 6 rfl;have f6:=zb D1.out 6;have x7:w2.cell? ⟨w.heap.size+1,7,Z⟩=J (O U 0):=za D1.out 7 rfl;have f7:=zb D1.out 7;have x8:w2.cell? ⟨w.heap.size+1,8,Z⟩=J (I Z 0 0):=za D1.out 8 rfl;have f8:=zb D1.out 8;have x9:w2.cell? ⟨w.heap.size+1,9,Z⟩=J (I Z 0 0):=za D1.out 9 rfl;have f9:=zb D1.out 9;have y0:w2.cell? ⟨w.heap.size+1+1,0,Z⟩=J (O U 0):=za D2.out 0 rfl;have g0:=zb D2.out 0;go_wp2_with fail
   obtain⟨k1,k2,k3,_,_⟩:=kD (O U 0) (O U 0) (O U 0) (I Z 0 0) (O U 0) (I Z 0 0) (O U 0) (O U 0) (I Z 0 0) (I Z 0 0) (O U 17) D1.out D2.out (by omega) B2.out (by omega:w.heap.size<=w.heap.size+1) (by omega:w.heap.size<=w.heap.size+1+1);refine yC (B:=w.heap.size) (Marks.nil _ _) ?_;intro W hX;have c0:W.cell? ⟨w.heap.size+1,0,Z⟩=J (O U 0):=hX.cell (za k1 0 rfl);have c1:W.cell? ⟨w.heap.size+1,1,Z⟩=J (O U 0):=hX.cell (za k1 1 rfl);have c2:W.cell? ⟨w.heap.size+1,2,Z⟩=J (O U 0):=hX.cell (za k1 2 rfl);have c3:W.cell? ⟨w.heap.size+1,3,Z⟩=J (I Z 0 0):=hX.cell (za k1 3 rfl);have c4:W.cell? ⟨w.heap.size+1,4,Z⟩=J (O U 0):=hX.cell (za k1 4 rfl);have c5:W.cell? ⟨w.heap.size+1,5,Z⟩=J (I Z 0 0):=hX.cell (za k1 5 rfl);have c6:W.cell? ⟨w.heap.size+1,6,Z⟩=J (O U 0):=hX.cell (za k1 6 rfl);have c7:W.cell? ⟨w.heap.size+1,7,Z⟩=J (O U 0):=hX.cell (za k1 7 rfl);have c8:W.cell? ⟨w.heap.size+1,8,Z⟩=J (I Z 0 0):=hX.cell (za k1 8 rfl);have c9:W.cell? ⟨w.heap.size+1,9,Z⟩=J (I Z 0 0):=hX.cell (za k1 9 rfl);have sX:W.cell? ⟨w.heap.size+1+1,0,Z⟩=J (O U 17):=hX.cell (za k2 0 rfl);have hR:=RetSysF.zero (L0:=L0) (B0:=B0) 17 (k3.trans hX.below);rw[HB.out];exact⟨_,by simp[results,results19,go_sem,c0,c1,c2,c3,c4,c5,c6,c7,c8,c9,sX],hR⟩
  have pT:qY 1048576 (zA p)=((zA p:Int),0):=Lj sJ;rw[pT];obtain⟨T,pZ⟩:=Kh (zA p);rw[pZ] at hT sJ ⊢;have He:(4096:Int)<(T:Int):=by omega
  clear ay am az tY pT fg fq pZ;have x0:w2.cell? ⟨w.heap.size+1,0,Z⟩=J (O U 0):=za D1.out 0 rfl;have f0:=zb D1.out 0;have x1:w2.cell? ⟨w.heap.size+1,1,Z⟩=J (O U 0):=za D1.out 1 rfl;have f1:=zb D1.out 1;have x2:w2.cell? ⟨w.heap.size+1,2,Z⟩=J (O U 0):=za D1.out 2 rfl;have f2:=zb D1.out 2;have x3:w2.cell? ⟨w.heap.size+1,3,Z⟩=J (I Z 0 0):=za D1.out 3 rfl;have f3:=zb D1.out 3;have x4:w2.cell? ⟨w.heap.size+1,4,Z⟩=J (O U 0):=za D1.out 4 rfl;have f4:=zb D1.out 4;have x5:w2.cell? ⟨w.heap.size+1,5,Z⟩=J (I Z 0 0):=za D1.out 5 rfl;have f5:=zb D1.out 5;have x6:w2.cell? ⟨w.heap.size+1,6,Z⟩=J (O U 0):=za D1.out 6 rfl;have f6:=zb D1.out 6;have x7:w2.cell? ⟨w.heap.size+1,7,Z⟩=J (O U 0):=za D1.out 7 rfl;have f7:=zb D1.out 7;have x8:w2.cell? ⟨w.heap.size+1,8,Z⟩=J (I Z 0 0):=za D1.out 8 rfl;have f8:=zb D1.out 8;have x9:w2.cell? ⟨w.heap.size+1,9,Z⟩=J (I Z 0 0):=za D1.out 9 rfl;have f9:=zb D1.out 9;have y0:w2.cell? ⟨w.heap.size+1+1,0,Z⟩=J (O U 0):=za D2.out 0 rfl;have g0:=zb D2.out 0;go_wp2_with fail;obtain⟨k1,k2,k3,_,_⟩:=kD (O U 0) (O U 0) (O U 0) (I Z 0 0) (O U 0) (I Z 0 0) (O U 0) (O U 0) (I Z 0 0) (I Z 0 0) (O U 17) D1.out D2.out (by omega) B2.out (by omega:w.heap.size<=w.heap.size+1) (by omega:w.heap.size<=w.heap.size+1+1);refine yC (B:=w.heap.size) (Marks.nil _ _) ?_
  intro W hX;have c0:W.cell? ⟨w.heap.size+1,0,Z⟩=J (O U 0):=hX.cell (za k1 0 rfl);have c1:W.cell? ⟨w.heap.size+1,1,Z⟩=J (O U 0):=hX.cell (za k1 1 rfl);have c2:W.cell? ⟨w.heap.size+1,2,Z⟩=J (O U 0):=hX.cell (za k1 2 rfl);have c3:W.cell? ⟨w.heap.size+1,3,Z⟩=J (I Z 0 0):=hX.cell (za k1 3 rfl);have c4:W.cell? ⟨w.heap.size+1,4,Z⟩=J (O U 0):=hX.cell (za k1 4 rfl);have c5:W.cell? ⟨w.heap.size+1,5,Z⟩=J (I Z 0 0):=hX.cell (za k1 5 rfl);have c6:W.cell? ⟨w.heap.size+1,6,Z⟩=J (O U 0):=hX.cell (za k1 6 rfl);have c7:W.cell? ⟨w.heap.size+1,7,Z⟩=J (O U 0):=hX.cell (za k1 7 rfl);have c8:W.cell? ⟨w.heap.size+1,8,Z⟩=J (I Z 0 0):=hX.cell (za k1 8 rfl);have c9:W.cell? ⟨w.heap.size+1,9,Z⟩=J (I Z 0 0):=hX.cell (za k1 9 rfl);have sX:W.cell? ⟨w.heap.size+1+1,0,Z⟩=J (O U 17):=hX.cell (za k2 0 rfl);have hR:=RetSysF.zero (L0:=L0) (B0:=B0) 17 (k3.trans hX.below);rw[HB.out];exact⟨_,by simp[results,results19,go_sem,c0,c1,c2,c3,c4,c5,c6,c7,c8,c9,sX],hR⟩
 case neg=>
 have pT:qY 1048576 (zA p)=((zA p:Int),0):=Lj (by omega);rw[pT];have HB:=zH (az.out fq (by omega));have da:zA p<=60:=by have:=fg.out.2 fq;omega
 obtain⟨ep,ip,ln,mv,rW⟩:=zK fq;obtain⟨K,hK⟩:=Lr mv;obtain⟨lA,fE,nu⟩:=yn ep;have CR:K<=6:=by omega
 have ly:zA p=zI p.a K 0*p.t.cases.length:=by unfold zA;rw[hK];rfl
 have sy:zI p.a K 0<=60:=by
  have:=Pk (zI p.a K 0) lA;omega
 have iA:=B2.out;have OZ:=zH (Q2 p.a fg.out.1.2 ip K (by omega) (by omega) SV ks w2 ((HS.out.keep iA).more iA.size));have rx:=zH hK;obtain⟨T,pZ⟩:=Kh (zA p);rw[pZ] at da ly ⊢;have rj:=zH pZ;have DL:=zH ly;have He:¬(4096:Int)<(T:Int):=by omega
 have q4:=za D0.out 4 rfl;have q5:=za D0.out 5 rfl;have q6:w2.cell? ⟨w.heap.size,6,Z⟩=J (O U (K:Int)):=by rw[<-hK];exact za D0.out 6 rfl
 obtain⟨N,hN⟩:=Lr (show 0<=p.t.n by omega);have fd:=zH hN;have ph:=zH ip;have AH:=zH ln;have IF:=zH (ZR ep);clear ay am az tY pT hT pZ ly hK fq ep ip ln mv rW iA hN;go_wp2_with fail;refine OZ.out.mono ?_;rintro e w3 ⟨AW,cw,rfl,bU,ap⟩;clear q4 q5 q6 OZ;have mo:=ap.size;have KJ:=zH (La ap D0.out);have Sr:=zH (La ap D1.out);have Sq:=zH (La ap D2.out);have B3:=zH (B2.out.trans (ap.mono (by omega)));have ez:=zH bU;have bq:=(yj fg.out.1.2 ph.out).2.1;have KB:=zH (X3 p fg.out.1 lA bq A kc SV ks w3 L0 B0 (Lz bH B3.out.size) (Wu.out.keep (B3.out.mono bH)) (lc.out.keep (B3.out.mono bH)));unfold Pb.vs at KB;obtain⟨q0,q1,q2,q3,q4,q5,q6,_⟩:=Kf KJ.out;clear ap bU D0 D1 D2 B2;go_wp2_with fail;refine KB.out.mono ?_;rintro e w4 ⟨g4,nk,ET,nj,rfl,OC,Of,MV,T8,be⟩;obtain⟨A4,sV⟩:∃A4:Bb,A4=J ⟨g4,0,Z⟩:=⟨_,rfl⟩;obtain⟨nH,sL⟩:∃S4:Bb,S4=J ⟨ET,0,Z⟩:=⟨_,rfl⟩;rw[<-sV,<-sL];have KI:=zH sV;have IM:=zH sL;clear sV sL;have lg:=be.size;have nf:=zH (La be KJ.out);have Fq:=zH (La be Sr.out);have Ww:=zH (La be Sq.out);have B4:=zH (B3.out.trans (be.mono (by omega)));have Fm:=zH OC;have l8:=zH Of;have AD:=zH ((ez.out.keep be).more be.size);unfold Pb.vs
 have p0:w4.cell? ⟨w.heap.size,0,Z⟩=J (O U p.t.n):=za nf.out 0 rfl;have p1:w4.cell? ⟨w.heap.size,1,Z⟩=J (O U p.t.ins):=za nf.out 1 rfl;have p2:w4.cell? ⟨w.heap.size,2,Z⟩=J (O U p.t.outs):=za nf.out 2 rfl;have p3:w4.cell? ⟨w.heap.size,3,Z⟩=J (I A p.t.cases.length kc):=za nf.out 3 rfl;have p4:w4.cell? ⟨w.heap.size,4,Z⟩=J (O U p.a.n):=za nf.out 4 rfl;have p5:w4.cell? ⟨w.heap.size,5,Z⟩=J (I SV p.a.sts.length ks):=za nf.out 5 rfl;have p6:w4.cell? ⟨w.heap.size,6,Z⟩=J (O U p.k):=za nf.out 6 rfl;have tG:w.heap.size<w4.heap.size:=by omega
 clear OC Of be q0 q1 q2 q3 q4 q5 q6 KB KJ Sr Sq ez;have fr:=@run_makeMap An;have pC:w.heap.size<w4.heap.size+1:=by omega
 have iW:w.heap.size<w4.heap.size+1+1:=by omega
 have lN:w.heap.size<w4.heap.size+1+1+1:=by omega
 have lM:w.heap.size<w4.heap.size+1+1+1+1:=by omega
 go_wp2_with fail;obtain⟨W5,lX,x5,mt,dO⟩:=Zv w4 (Ah #[O U p.t.n,O U p.t.ins,O U p.t.outs,I A4 p.t.cases.length nk,O U p.a.n,I nH p.a.sts.length nj,O U p.k,O U 0,I Z 0 0,I Z 0 0] 36);rw[lX];obtain⟨W6,mJ,x6,oD,iG⟩:=Zv W5 (.map #[] 0);rw[mJ];obtain⟨W7,lC,x7,fJ,CW⟩:=Zv W6 (Ah #[O U p.t.n,I Z 0 0,.map (J (w4.heap.size+1))] 111);rw[lC];obtain⟨W8,Oa,x8,FU,oX⟩:=Zv W7 (Ah #[Ak (J ⟨w4.heap.size+1+1,0,Z⟩)] 108);rw[Oa];have lR:MapOf (fun v:Vw=>.agg v.cells) W6 W5.heap.size 0 (jK []):=by rw[<-mJ,numF_nil];exact MapOf.made W5
 have oZ:Ao w4.heap.size w4 W8:=dO.trans ((iG.mono (by omega)).trans ((CW.mono (by omega)).trans (oX.mono (by omega))));have D08:=zH (Lb oZ (by omega) nf.out);clear lX mJ lC Oa fr p0 p1 p2 p3 p4 p5 p6 pC iW lN lM;have tX:=JQ p A kc SV ks AW (zo p.a K 0).length cw W8;unfold Pb.vs at tX;refine tX.mono ?_;rintro e W9 ⟨rfl,lW⟩;have Tl:W9.heap.size=w4.heap.size+6:=by rw[<-lW];simp;omega
 have lE:Ao W8.heap.size W8 W9:=by rw[<-lW];exact xT W8 _ _
 have oZ:Ao w4.heap.size w4 W8:=dO.trans ((iG.mono (by omega)).trans ((CW.mono (by omega)).trans (oX.mono (by omega))));have oY:Ao w4.heap.size w4 W9:=oZ.trans (lE.mono (by omega));have BO:W9.heap[W8.heap.size]?=J (Ah (p.vs A kc SV ks) 29 (0,0)):=by rw[<-lW];exact zw (zg W8 _) _
 have F0:W9.heap[W8.heap.size+1]?=J (Ah #[.slice AW (zo p.a K 0).length cw] 104 (0,0)):=by
  rw[<-lW];have:=zg (W8.alloc (Ah (p.vs A kc SV ks) 29)) (Ah #[.slice AW (zo p.a K 0).length cw] 104);rwa[LW] at this
 have y5:=Lb lE (by omega) (Lb oX (by omega) (Lb CW (by omega) (Lb iG (by omega) x5)));have y7:=Lb lE (by omega) (Lb oX (by omega) x7);have y8:=Lb lE (by omega) x8;have ym:=((lR.same (CW.block _ (by omega))).same (oX.block _ (by omega))).same (lE.block _ (by omega));rw[mt] at ym;rw[oD,mt] at y7;rw[fJ,oD,mt] at y8;have EZ:=zH y8;have VE:=zH BO;have OD:W8.heap.size=w4.heap.size+1+1+1+1:=by omega
 -- the words' slices
 obtain⟨sl,fD⟩:∃sl:Nat->Au,sl=fun j=>match AW with | some ad=>(w4.cell? ⟨ad.block,ad.off+j,Z⟩).getD undef | none=>undef:=⟨_,rfl⟩
 have Vv:As (∀(j:Nat) (hj:j<(zo p.a K 0).length),∃A' c,sl j=.slice A' (zo p.a K 0)[j].length c/\RAt w4 w4.heap.size A' (zo p.a K 0)[j]):=fun j hj=>by
  obtain⟨b,off,A',c,e,_,hc,hr⟩:=AD.out.at_ j hj;subst e;refine⟨A',c,?_,hr⟩;rw[fD];show(w4.cell? ⟨b,off+j,Z⟩).getD undef=_;rw[hc];rfl
 have iC:SlAt w4 w4.heap.size AW (zo p.a K 0).length sl:=fun j hj=>by
  obtain⟨b,off,A',c,e,hb,hc,hr⟩:=AD.out.at_ j hj;subst e;refine⟨b,off,rfl,hb,?_⟩;rw[fD];show _=J ((w4.cell? ⟨b,off+j,Z⟩).getD undef);rw[hc];rfl
 have cI:(zo p.a K 0).length<=60:=by rw[yc];exact sy
 have fX:=zH (YC (p.vs A kc SV ks) p.t.cases.length fg.out.1.1.1 A kc rfl AW (zo p.a K 0).length cw (by omega) sl w4.heap.size W8.heap.size (W8.heap.size+1) W9 BO F0 (iC.same fun k hk=>oY.block k hk) oY.size);obtain⟨SC,sK⟩:∃SC:Au->Array Au,SC=fun E=>#[O U p.t.n,O U p.t.ins,O U p.t.outs,I A4 p.t.cases.length nk,O U p.a.n,I nH p.a.sts.length nj,O U p.k,O U 0,I Z 0 0,E]:=⟨_,rfl⟩
 have H0:As (BlIn p W9.heap.size w4.heap.size (w4.heap.size+1+1) (w4.heap.size+1) w4.heap.size SC W9 [] (I Z 0 0) (I Z 0 0) W9):=
  ⟨Wrote.refl _ _,⟨y7,⟨0,ym⟩,OwnV.nil _ _,fun k e=>(by cases e),by omega,by omega,by omega⟩,by rw[sK];exact y5,OwnX.nil _ _ _ _,fun k e=>(by cases e)⟩
 have bJ:As (BlB W9.heap.size w4.heap.size (w4.heap.size+1+1) (w4.heap.size+1) w4.heap.size W9):=⟨rfl,by omega,by omega,by omega,⟨by omega,by omega,by omega⟩,by omega,by omega⟩;have l5:=zH sK;have tw:=zH oY;have Do:=zH F0;clear tX lW lE oZ oY BO F0 y5 y7 y8 ym fD iC sK lR x5 x6 x7 x8 dO iG CW oX;rw[OD];rw[OD] at fX VE Do;go_wp2_with fail
 refine ka rfl (PD func87 (by kernel_rfl) rfl) fX.out (by rintro k (h | rfl | rfl)<;>omega) (fun _=>rfl)
  (fun (pre:List { x:Nat×Nat // x∈zx (zo p.a K 0).length 0 p.t.cases.length }) (X:Ba)=>∃V E,BlIn p W9.heap.size w4.heap.size (w4.heap.size+1+1) (w4.heap.size+1) w4.heap.size SC W9 (kP (zo p.a K 0) (pre.map (·.1))) V E X)
  (fun _ _ _=>False) ?hI (fun _ _ _ _ _ h _ _=>h) ⟨_,_,H0.out⟩ ?a1 ?assign ?body ?done ?stop
 case hI=>
  rintro s X X' row ⟨V,E,h⟩ hg hr;exact⟨V,E,h.turn bJ.out hg hr⟩
 case assign=>
  intro l x X K' hK;gi_wp2;exact hK
 case body=>
  rintro l pre x X ⟨V,E,hI⟩ ac;obtain⟨nn,mi,Ea⟩:=kg _ _ _ x.2;have fP:=tw.out;have nD:=hI.bel bJ.out;have b9:Ao w.heap.size w X:=B4.out.trans ((fP.trans nD).mono (by omega));have hM:x.1.1<p.t.cases.length:=by omega
  obtain⟨bc,oc,A0,c0,A1,c1,A2,c2,eA,hbc,i0,_,_,I0,_,_⟩:=(HA.out.keep b9).row x.1.1 hM;subst eA;obtain⟨AL,OM,OH,Hg⟩:=Vv.out x.1.2 Ea;have io:=Ld (l:=zo p.a K 0) Ea;have dU:(zo p.a K 0).getD x.1.2 []=(zo p.a K 0)[x.1.2]:=by rw[Lf,Lg Ea];rfl
  have mC:yA p x.1.1=p.t.cases[x.1.1].inp:=by unfold yA;rw[Lf,Lg hM];rfl
  obtain⟨word,eS⟩:=Kh ((zo p.a K 0)[x.1.2]);rw[eS] at OH Hg io dU;have oo:=yK p.a K 0 word io;have Vm:=zH (qP p.a K 0 word io);obtain⟨AV,kv,rfl⟩:=hI.bd.own.lit;obtain⟨AE,ke,rfl,_,_,_⟩:=hI.out.form zy;have eQ:=zH hI;have aN:(kP (zo p.a K 0) (pre.map (·.1))).length=pre.length:=by simp[kP]
  have dt:=uL p (by omega) (kP (zo p.a K 0) (pre.map (·.1))) (fun y hy=>by
   obtain⟨z,hz,rfl⟩:=LG.1 hy;obtain⟨z2,cf,rfl⟩:=LG.1 hz;have h2:=(kg _ _ _ z2.2).2.2;have e2:(zo p.a K 0).getD z2.1.2 []=(zo p.a K 0)[z2.1.2]:=by rw[Lf,Lg h2];rfl
   show((zo p.a K 0).getD z2.1.2 []).length<=6;rw[e2,yK p.a K 0 _ (Ld h2)]
   exact CR)
  rw[aN] at dt
  have fL:pre.length<60:=by
   have h6:(zx (zo p.a K 0).length 0 p.t.cases.length).length<=60:=by
    rw[kf,yc,N2];have:=DL.out;omega
   omega
  obtain⟨PL,Hi⟩:=Kh (kP (zo p.a K 0) (pre.map (·.1)));have Dq:=zH Hi;rw[Hi] at hI eQ dt aN;have Hr:=hI.big bJ.out;have e7:X.cell? ⟨w4.heap.size,9,Z⟩=J (.slice AE (zn p PL).2.length ke):=za hI.sys 9 (by rw[l5.out];rfl);have f7:=zb hI.sys 9;have e8:X.cell? ⟨w4.heap.size+1+1+1,0,Z⟩=J (Ak (J ⟨w4.heap.size+1+1,0,Z⟩)):=za ((hI.same bJ.out (by omega) (by omega) (by omega) (by omega)).trans EZ.out) 0 rfl;have e3:X.cell? ⟨w.heap.size,3,Z⟩=J (I (J ⟨bc,oc,Z⟩) p.t.cases.length kc):=za (Lb nD (by omega) (Lb fP (by omega) nf.out)) 3 rfl;have Hm:((x.1.1:Nat):Int)<(p.t.cases.length:Int):=by omega
  have cH:(0:Int)<=((x.1.1:Nat):Int):=by omega
  have ru:As (∀W,Ao X.heap.size X W->W.cell? ⟨w4.heap.size,9,Z⟩=J (.slice AE (zn p PL).2.length ke)/\W.cell? ⟨w4.heap.size+1+1+1,0,Z⟩=J (Ak (J ⟨w4.heap.size+1+1,0,Z⟩))/\W.cell? ⟨w.heap.size,3,Z⟩=J (I (J ⟨bc,oc,Z⟩) p.t.cases.length kc)/\W.cell? ⟨bc,oc+x.1.1*3,Z⟩=J (I A0 p.t.cases[x.1.1].inp.length c0)):=fun W hW=>
   ⟨(hW.cell (p:=⟨w4.heap.size,9,Z⟩) (by show w4.heap.size<_;omega)).trans e7,(hW.cell (p:=⟨w4.heap.size+1+1+1,0,Z⟩) (by show w4.heap.size+1+1+1<_;omega)).trans e8,(hW.cell (p:=⟨w.heap.size,3,Z⟩) (by show w.heap.size<_;omega)).trans e3,(hW.cell (p:=⟨bc,_,Z⟩) (by show bc<_;omega)).trans i0⟩
  have DJ:=zH dt;have Dh:=zH oo;have AQ:=zH dU;have Kr:=zH mC;have Kv:=zH I0;have AG:=zH Hg;have dA:=zH nD;clear hI nD b9 dU mC oo dt aN eS io I0 Hg Hi
  try dsimp only
  rw[OH];gi_wp2_with fail
  refine va [(0,Av),(1,Av),(2,Av),(3,Av),(5,Av),(6,Av),(7,Av),(8,Av),(9,Av),(10,Av),(11,Av),(12,Av),(13,Av),(4,Ax),(14,Ax),(15,Ax),(16,Ax),(17,Ax),(18,Ax),(19,Ax)]
   (fun W=>W.cell? ⟨w4.heap.size,9,Z⟩=J (.slice AE (zn p PL).2.length ke)/\W.cell? ⟨w4.heap.size+1+1+1,0,Z⟩=J (Ak (J ⟨w4.heap.size+1+1,0,Z⟩))/\W.cell? ⟨w.heap.size,3,Z⟩=J (I (J ⟨bc,oc,Z⟩) p.t.cases.length kc)/\W.cell? ⟨bc,oc+x.1.1*3,Z⟩=J (I A0 p.t.cases[x.1.1].inp.length c0))
   (by kernel_rfl) (by kernel_rfl) (by kernel_rfl) (by rintro⟨_,_,h⟩;exact h) (ru.out _ (Lp _ _).drew) ?_
  clear e7 e8 e3 i0
  repeat
   apply zX rfl
   . rintro K' ai W ⟨y0,y1,y2,y3⟩
     go_simp;exact ai
  have Hf:RAt X w4.heap.size AL word:=AG.out.keep (tw.out.trans dA.out)
  -- the word's copy
  refine zG rfl ?_;intro K' ai;go_simp;refine(gV AL word.length OM (yf word) X.drew (yZ word) (uU (w:=X.drew) (Hf.more (by show w4.heap.size<=X.heap.size;omega))) (jm word) (by have:=Dh.out;omega)).mono ?_;rintro e w5 ⟨v5,rfl,mx,bZ⟩;have bZ:Ao X.heap.size X w5:=vx bZ;have mx:OwnR kRd w5 X.heap.size v5 word.length (yf word):=mx;obtain⟨A5,c5,rfl,pU,_,iq⟩:=jl mx;have KA:=zH pU;clear pU;refine ai _ _ (ru.out _ bZ) ?_;clear ai K' mx
  -- the views
  refine zG rfl ?_;intro K' ai;go_simp;have sD:=eQ.out.bd.on bZ;rw[fd.out] at sD;have mt:=bZ.size;have bV:(p.t.cases[x.1.1].inp).length=N:=by have:=IF.out _ (Ld hM);have:=fd.out;omega
  have Ow:IAt w5 w4.heap.size A0 p.t.cases[x.1.1].inp:=(Kv.out.keep (bZ.mono (by omega:w.heap.size<=X.heap.size))).more (by omega)
  have PB:=zH (play_any w4.heap.size (w4.heap.size+1+1) (w4.heap.size+1) N (by have:=fd.out;omega) (by have:=fd.out;omega) (.slice AV (zn p PL).1.length kv) (zn p PL).1 (by have:=DJ.out;omega) p.t.cases[x.1.1].inp bV word (by have:=Dh.out;omega) (fun r hr=>by
   obtain⟨m,hm,rfl⟩:=Vm.out r hr;obtain⟨z1,z2,_⟩:=xa (yj fg.out.1.2 ph.out).1 m hm
   exact⟨z1,by rw[z2,<-AH.out,fd.out]⟩) A0 AL c0 OM w5 (by omega) sD Ow (Hf.keep (bZ.mono (by omega))))
  refine PB.out.mono ?_;rintro e w6 ⟨v6,V6,rfl,EA,sc,D9,F9⟩;obtain⟨Fs,DZ,rfl⟩:=EA.own.lit;obtain⟨VV,EK⟩:=Kh ((zk (zn p PL).1 N p.t.cases[x.1.1].inp word word.length).1);have mS:=zH EK
  have UB:VV.length<=4000:=by
   have h2:=qC (zn p PL).1 N p.t.cases[x.1.1].inp word word.length;have h4:(word.length+1)*N<=7*5:=NZ (by have:=Dh.out;omega) (by have:=fd.out;omega);have h5:=DJ.out;rw[EK] at h2;omega
  rw[EK] at EA sc D9 F9;clear EK;clear PB sD Hf Ow bV;obtain⟨A6,c6,rfl,_,_,Eq⟩:=Za D9;have Mk:=fun k hk=>(D9.lt k hk).1
  have eC:=zH bZ;have DC:=zH iq;have Wh:=zH EA;have lK:=zH sc;have AN:=zH Eq;have PV:=zH F9;have O4:=zH Mk;have Tn:=sc.1.size
  have Fc:As (∀(k o:Nat) (u:Au),k≠w4.heap.size+1+1->k≠w4.heap.size+1->k<W9.heap.size->w5.cell? ⟨k,o,Z⟩=J u->w6.cell? ⟨k,o,Z⟩=J u):=fun k o u h1 h2 h3 hc=>
   (L6 (sc.1.block k (by omega) fun hr=>by
    rcases hr with e | e | e
    . exact h1 e
    . exact h2 e
    . have:=(eQ.out.no k e).1;omega)).trans hc
  have k5:=ru.out _ bZ
  have k6:w6.cell? ⟨w4.heap.size,9,Z⟩=J (.slice AE (zn p PL).2.length ke)/\w6.cell? ⟨w4.heap.size+1+1+1,0,Z⟩=J (Ak (J ⟨w4.heap.size+1+1,0,Z⟩))/\w6.cell? ⟨w.heap.size,3,Z⟩=J (I (J ⟨bc,oc,Z⟩) p.t.cases.length kc)/\w6.cell? ⟨bc,oc+x.1.1*3,Z⟩=J (I A0 p.t.cases[x.1.1].inp.length c0):=
   ⟨Fc.out _ _ _ (by omega) (by omega) (by omega) k5.1,Fc.out _ _ _ (by omega) (by omega) (by omega) k5.2.1,Fc.out _ _ _ (by omega) (by omega) (by omega) k5.2.2.1,Fc.out _ _ _ (by omega) (by omega) (by omega) k5.2.2.2⟩
  refine ai _ _ k6 ?_;clear ai K' bZ iq EA sc D9 Eq F9 Mk k5;have DE:=zH k6;obtain⟨VS,Hc⟩:=Kh ((zk (zn p PL).1 N p.t.cases[x.1.1].inp word word.length).2);have E2:=zH Hc;rw[Hc] at AN O4 PV ⊢;clear Hc k6
  -- the execution
  refine zG rfl ?_;intro K' ai;go_simp;refine ai _ _ DE.out ?_;clear ai K';refine zG rfl ?_;intro K' ai;go_simp;obtain⟨AC,CI,d7,Tm,iF⟩:=zq w6 #[O U x.1.1,I A5 word.length c5,I A6 VS.length c6] 42;rw[CI];clear CI
  have k7:AC.cell? ⟨w4.heap.size,9,Z⟩=J (.slice AE (zn p PL).2.length ke)/\AC.cell? ⟨w4.heap.size+1+1+1,0,Z⟩=J (Ak (J ⟨w4.heap.size+1+1,0,Z⟩))/\AC.cell? ⟨w.heap.size,3,Z⟩=J (I (J ⟨bc,oc,Z⟩) p.t.cases.length kc)/\AC.cell? ⟨bc,oc+x.1.1*3,Z⟩=J (I A0 p.t.cases[x.1.1].inp.length c0):=
   ⟨(iF.cell (p:=⟨w4.heap.size,9,Z⟩) (by show w4.heap.size<_;omega)).trans DE.out.1,(iF.cell (p:=⟨w4.heap.size+1+1+1,0,Z⟩) (by show w4.heap.size+1+1+1<_;omega)).trans DE.out.2.1,(iF.cell (p:=⟨w.heap.size,3,Z⟩) (by show w.heap.size<_;omega)).trans DE.out.2.2.1,(iF.cell (p:=⟨bc,_,Z⟩) (by show bc<_;omega)).trans DE.out.2.2.2⟩
  refine ai _ _ k7 ?_;clear ai K';refine zG rfl ?_;intro K' ai;rw[Ln (by rfl)];have cJ:=eQ.out.outn bJ.out eC.out lK.out;have eG:=xL p PL;have aN:PL.length=pre.length:=by rw[<-Dq.out];simp[kP]
  obtain⟨aD,bk,fb,bj⟩:=cJ.1.below zy iF (Lh _);refine uq kXn_ok (.tmp 50) (.tmp 65) (by rfl) W9.heap.size (.slice AE (zn p PL).2.length ke) (zn p PL).2.length aD.flatten (by rfl) fb w6.heap.size #[O U x.1.1,I A5 word.length c5,I A6 VS.length c6] (by rfl) d7 rfl (by simp[Value.oneCell']) (by omega) (by omega) _ rfl ?_;intro g' cap w8 hr hg bz TJ;clear eG aN;have hX:=eQ.out.lies (i:=x.1.1) (c2:=c5) (c3:=c6) bJ.out eC.out lK.out iF DC.out AN.out O4.out PV.out KA.out
  have Hh:zk (zn p PL).1 p.t.n.toNat (yA p x.1.1) word word.length=zk (zn p PL).1 N p.t.cases[x.1.1].inp word word.length:=by
   rw[Kr.out,show p.t.n.toNat=N by have:=fd.out;omega]
  have M8:BdIn w4.heap.size (w4.heap.size+1+1) (w4.heap.size+1) p.t.n (I Fs VV.length DZ) (zk (zn p PL).1 p.t.n.toNat (yA p x.1.1) word word.length).1 w6:=by
   rw[Hh,mS.out,fd.out];exact Wh.out
  have NS:ZG.lies (fun k=>(W9.heap.size<=k/\(I Fs VV.length DZ).ownBlock≠J k)/\(I AE (zn p PL).2.length ke).ownBlock≠J k) AC [O U x.1.1,I A5 word.length c5,I A6 VS.length c6] ⟨x.1.1,word,(zk (zn p PL).1 p.t.n.toNat (yA p x.1.1) word word.length).2⟩:=by rw[Hh,E2.out];exact hX
  have pl:=eQ.out.next (x:=(x.1.1,word)) bJ.out eC.out lK.out iF M8 (fun E'=>by rw[l5.out];rfl) bk bj NS hr hg bz;have pl:=zH pl;have CV:=eQ.out.out.lt
  have k8:∀(k o:Nat) (u:Au),k<W9.heap.size->AC.cell? ⟨k,o,Z⟩=J u->w8.cell? ⟨k,o,Z⟩=J u:=fun k o u h3 hc=>
   (L6 (hg.block k (by omega) fun e=>by have:=(CV k e.symm).1;omega)).trans hc
  have FU:=hg.size;have I6:=zH (⟨k8 _ _ _ (by omega) k7.1,k8 _ _ _ (by omega) k7.2.1,k8 _ _ _ (by omega) k7.2.2.1,k8 _ _ _ (by omega) k7.2.2.2⟩:w8.cell? ⟨w4.heap.size,9,Z⟩=J (.slice AE (zn p PL).2.length ke)/\w8.cell? ⟨w4.heap.size+1+1+1,0,Z⟩=J (Ak (J ⟨w4.heap.size+1+1,0,Z⟩))/\w8.cell? ⟨w.heap.size,3,Z⟩=J (I (J ⟨bc,oc,Z⟩) p.t.cases.length kc)/\w8.cell? ⟨bc,oc+x.1.1*3,Z⟩=J (I A0 p.t.cases[x.1.1].inp.length c0))
  have f8:w8.frozen? ⟨w4.heap.size,9,Z⟩=Ax:=by
   have z:=pl.out.1.sys;have z2:=zb z 9;rwa[World.frozen?_setCell] at z2
  refine ai _ _ I6.out ?_;clear ai K' hr hg bz hX NS bk fb bj cJ k7 k8 M8 Hh;refine zG rfl ?_;intro K' ai;go_simp;refine ai _ _ I6.out ?_;clear ai K';have e9:=I6.out.1;refine xb rfl (by kernel_rfl) ?_;intro K' ai;go_simp;refine ai (fun _=>True) _ _ trivial ?_;refine yh ?_;clear ai K' e9 f8
  try dsimp only
  obtain⟨WF,cU⟩:=Kh (w8.setCell ⟨w4.heap.size,9,Z⟩ (I (J ⟨g',0,Z⟩) ((zn p PL).2.length+1) cap));rw[cU] at pl ⊢;clear cU;have q':=pl.out.1;have a8:WF.cell? ⟨w4.heap.size+1+1+1,0,Z⟩=J (Ak (J ⟨w4.heap.size+1+1,0,Z⟩)):=za ((q'.same bJ.out (by omega) (by omega) (by omega) (by omega)).trans EZ.out) 0 rfl;have b8:WF.cell? ⟨w4.heap.size+1+1,1,Z⟩=J (I Fs VV.length DZ):=za q'.bd.hB 1 rfl;have hng:¬(8192:Int)<(VV.length:Int):=by omega
  clear q';gi_wp2_with fail;have q':=pl.out;rw[Tl] at q';refine⟨q'.2.1,q'.2.2.keep fun k hk hs hr=>?_,⟨I Fs VV.length DZ,I (J ⟨g',0,Z⟩) ((zn p PL).2.length+1) cap,?_⟩⟩
  . have:=fP.size
    rcases hs with hs | hs | hs<;>rcases hr with e | e | e | e<;>omega
  rw[LH,List.map_singleton,Jp,Dq.out,AQ.out];exact q'.1
 case done=>
  rintro D ys X hD eo ⟨V,E,hI⟩ dI;rw[eo,gF p K rx.out] at hI;obtain⟨AV,kv,rfl⟩:=hI.bd.own.lit;obtain⟨AE,ke,rfl,TV,TU,_⟩:=hI.out.form zy;have eQ:=zH hI;have fP:=tw.out;have nD:=hI.bel bJ.out;have Hr:=hI.big bJ.out;have Fg:=zH dI;have hDX:D<X.heap.size:=zd dI;have e8:X.cell? ⟨w4.heap.size+1+1+1,0,Z⟩=J (Ak (J ⟨w4.heap.size+1+1,0,Z⟩)):=za ((hI.same bJ.out (by omega) (by omega) (by omega) (by omega)).trans EZ.out) 0 rfl;have rU:=hI.sys;rw[l5.out] at rU;have t7:X.cell? ⟨w4.heap.size,7,Z⟩=J (O U 0):=za rU 7 rfl;have t8:X.cell? ⟨w4.heap.size,8,Z⟩=J (I Z 0 0):=za rU 8 rfl;have u7:=zb rU 7;have u8:=zb rU 8;have II:=zH rU;have dA:=zH nD;have aG:=hI.bd.hB;have OP:=(nD.block (w.heap.size+1) (by omega)).trans (Lb fP (by omega) Fq.out);have OO:=(nD.block (w.heap.size+1+1) (by omega)).trans (Lb fP (by omega) Ww.out);have ti:=zH OP;have rr:=zH OO;clear hI nD rU dI eo H0 fX OP OO;go_wp2_with fail
  refine zE [(0,Av),(1,Av),(2,Av),(3,Av),(4,Av),(5,Av),(6,Av),(7,Av),(8,Ax),(9,Ax),(10,Ax)]
   (fun W=>W.cell? ⟨w4.heap.size+1+1+1,0,Z⟩=J (Ak (J ⟨w4.heap.size+1+1,0,Z⟩))/\W.heap[w4.heap.size+1+1]?=J (Ah #[O U p.t.n,.slice AV (zn p (zl p)).1.length kv,.map (J (w4.heap.size+1))] 111 (0,0)))
   (by kernel_rfl) (by kernel_rfl) ⟨e8,aG⟩ ?_
  clear e8 aG
  repeat
   apply zX rfl
   . rintro K' ai W ⟨y0,y1⟩
     have z0:W.cell? ⟨w4.heap.size+1+1,0,Z⟩=J (O U p.t.n):=za y1 0 rfl;have z1:W.cell? ⟨w4.heap.size+1+1,1,Z⟩=J (.slice AV (zn p (zl p)).1.length kv):=za y1 1 rfl;clear y1;go_simp;exact ai
  have e8:X.cell? ⟨w4.heap.size+1+1+1,0,Z⟩=J (Ak (J ⟨w4.heap.size+1+1,0,Z⟩)):=za ((eQ.out.same bJ.out (by omega) (by omega) (by omega) (by omega)).trans EZ.out) 0 rfl;refine zG rfl ?_;intro K' ai;go_simp;refine ai _ _ ⟨e8,eQ.out.bd.hB⟩ ?_;clear ai K';refine zG rfl ?_;intro K' ai;go_simp;refine ai _ _ ⟨e8,eQ.out.bd.hB⟩ ?_;clear ai K';refine xb rfl (by kernel_rfl) ?_;intro K' ai;go_simp;refine ai (fun _=>True) _ _ trivial ?_;refine yh ?_;clear ai K' e8 t7 t8 u7 u8;obtain⟨W7,lC⟩:=Kh (((X.setCell ⟨w4.heap.size,7,Z⟩ (O U p.t.n)).setCell ⟨w4.heap.size,8,Z⟩ (.slice AV (zn p (zl p)).1.length kv)).drew)
  have fJ:W7.heap[w4.heap.size]?=J (Ah #[O U p.t.n,O U p.t.ins,O U p.t.outs,I A4 p.t.cases.length nk,O U p.a.n,I nH p.a.sts.length nj,O U p.k,O U p.t.n,.slice AV (zn p (zl p)).1.length kv,.slice AE (zn p (zl p)).2.length ke] 36 (0,0)):=by
   rw[<-lC];have q1:(X.setCell ⟨w4.heap.size,7,Z⟩ (O U p.t.n)).heap[w4.heap.size]?=J (Ah #[O U p.t.n,O U p.t.ins,O U p.t.outs,I A4 p.t.cases.length nk,O U p.a.n,I nH p.a.sts.length nj,O U p.k,O U p.t.n,I Z 0 0,.slice AE (zn p (zl p)).2.length ke] 36 (0,0)):=Lk X w4.heap.size 7 _ _ _ II.out;exact Lk _ w4.heap.size 8 _ _ _ q1
  have tO:∀k,k≠w4.heap.size->W7.heap[k]?=X.heap[k]?:=fun k hk=>by
   rw[<-lC];exact(Le _ ⟨w4.heap.size,8,Z⟩ _ k hk).trans (Le _ ⟨w4.heap.size,7,Z⟩ _ k hk)
  have dv:Ao w.heap.size w W7:=by
   rw[<-lC];exact(((B4.out.trans ((fP.trans dA.out).mono (by omega))).setCell (p:=⟨w4.heap.size,7,Z⟩) (by show w.heap.size<=w4.heap.size;omega) _).setCell (p:=⟨w4.heap.size,8,Z⟩) (by show w.heap.size<=w4.heap.size;omega) _).drew
  have rI:W7.heap.size=X.heap.size:=by rw[<-lC];show(World.setCell _ _ _).heap.size=_;simp
  have ey:=(tO (w.heap.size+1) (by omega)).trans ti.out;have EX:=(tO (w.heap.size+1+1) (by omega)).trans rr.out;have s0:W7.cell? ⟨w4.heap.size,0,Z⟩=J (O U p.t.n):=za fJ 0 rfl;have s1:W7.cell? ⟨w4.heap.size,1,Z⟩=J (O U p.t.ins):=za fJ 1 rfl;have s2:W7.cell? ⟨w4.heap.size,2,Z⟩=J (O U p.t.outs):=za fJ 2 rfl;have s3:W7.cell? ⟨w4.heap.size,3,Z⟩=J (I A4 p.t.cases.length nk):=za fJ 3 rfl;have s4:W7.cell? ⟨w4.heap.size,4,Z⟩=J (O U p.a.n):=za fJ 4 rfl;have s5:W7.cell? ⟨w4.heap.size,5,Z⟩=J (I nH p.a.sts.length nj):=za fJ 5 rfl;have s6:W7.cell? ⟨w4.heap.size,6,Z⟩=J (O U p.k):=za fJ 6 rfl;have s7:W7.cell? ⟨w4.heap.size,7,Z⟩=J (O U p.t.n):=za fJ 7 rfl;have s8:W7.cell? ⟨w4.heap.size,8,Z⟩=J (.slice AV (zn p (zl p)).1.length kv):=za fJ 8 rfl;have s9:W7.cell? ⟨w4.heap.size,9,Z⟩=J (.slice AE (zn p (zl p)).2.length ke):=za fJ 9 rfl;have n0:W7.cell? ⟨w.heap.size+1,0,Z⟩=J (O U 0):=za ey 0 rfl;have m0:=zb ey 0;have n1:W7.cell? ⟨w.heap.size+1,1,Z⟩=J (O U 0):=za ey 1 rfl;have m1:=zb ey 1;have n2:W7.cell? ⟨w.heap.size+1,2,Z⟩=J (O U 0):=za ey 2 rfl;have m2:=zb ey 2;have n3:W7.cell? ⟨w.heap.size+1,3,Z⟩=J (I Z 0 0):=za ey 3 rfl;have m3:=zb ey 3;have n4:W7.cell? ⟨w.heap.size+1,4,Z⟩=J (O U 0):=za ey 4 rfl;have m4:=zb ey 4;have n5:W7.cell? ⟨w.heap.size+1,5,Z⟩=J (I Z 0 0):=za ey 5 rfl
  have m5:=zb ey 5;have n6:W7.cell? ⟨w.heap.size+1,6,Z⟩=J (O U 0):=za ey 6 rfl;have m6:=zb ey 6;have n7:W7.cell? ⟨w.heap.size+1,7,Z⟩=J (O U 0):=za ey 7 rfl;have m7:=zb ey 7;have n8:W7.cell? ⟨w.heap.size+1,8,Z⟩=J (I Z 0 0):=za ey 8 rfl;have m8:=zb ey 8;have n9:W7.cell? ⟨w.heap.size+1,9,Z⟩=J (I Z 0 0):=za ey 9 rfl;have m9:=zb ey 9;have n10:W7.cell? ⟨w.heap.size+1+1,0,Z⟩=J (O U 0):=za EX 0 rfl;have m10:=zb EX 0;have tg:=zH tO;have me:=zH dv;have J':=zH ey;have I':=zH EX;rw[lC];clear lC tO dv ey EX fJ;go_wp2_with fail;obtain⟨k1,k2,k3,k4,k5⟩:=kD (O U p.t.n) (O U p.t.ins) (O U p.t.outs) (I A4 p.t.cases.length nk) (O U p.a.n) (I nH p.a.sts.length nj) (O U p.k) (O U p.t.n) (.slice AV (zn p (zl p)).1.length kv) (.slice AE (zn p (zl p)).2.length ke) (O U 0) J'.out I'.out (by omega) me.out (by omega:w.heap.size<=w.heap.size+1) (by omega:w.heap.size<=w.heap.size+1+1)
  obtain⟨WF,cU⟩:=Kh ((((((((((((W7.setCell ⟨w.heap.size+1,0,Z⟩ (O U p.t.n)).setCell ⟨w.heap.size+1,1,Z⟩ (O U p.t.ins)).setCell ⟨w.heap.size+1,2,Z⟩ (O U p.t.outs)).setCell ⟨w.heap.size+1,3,Z⟩ (I A4 p.t.cases.length nk)).setCell ⟨w.heap.size+1,4,Z⟩ (O U p.a.n)).setCell ⟨w.heap.size+1,5,Z⟩ (I nH p.a.sts.length nj)).setCell ⟨w.heap.size+1,6,Z⟩ (O U p.k)).setCell ⟨w.heap.size+1,7,Z⟩ (O U p.t.n)).setCell ⟨w.heap.size+1,8,Z⟩ (.slice AV (zn p (zl p)).1.length kv)).setCell ⟨w.heap.size+1,9,Z⟩ (.slice AE (zn p (zl p)).2.length ke)).setCell ⟨w.heap.size+1+1,0,Z⟩ (O U 0)));rw[cU] at k1 k2 k3 k4 k5 ⊢;clear cU;have aj:∀k,k≠w4.heap.size->k≠w.heap.size+1->k≠w.heap.size+1+1->WF.heap[k]?=X.heap[k]?:=fun k a b c=>(k5 k b c).trans (tg.out k a)
  have hsf:WF.heap.size=X.heap.size:=k4.trans rI;have UP:WF.heap[D]?=J (.deferred (J [])):=(aj D (by omega) (by omega) (by omega)).trans Fg.out
  have oJ:∀k,k<w4.heap.size->k≠w.heap.size+1->k≠w.heap.size+1+1->WF.heap[k]?=w4.heap[k]?:=fun k a b c=>
   (aj k (by omega) b c).trans ((dA.out.block k a).trans (fP.block k a))
  have pD:w4.heap.size<=WF.heap.size:=by omega
  have RA:RowX cCs (fun b=>((L0<=b/\b<B0)\/w3.heap.size<=b)/\b<w4.heap.size) WF g4 p.t.cases:=(Fm.out.mono xu fun b hb hs=>⟨hs,hb⟩).keep xu ⟨pD,fun k hk _=>oJ k hk.1.2 (by have:=hk.1.1;omega) (by have:=hk.1.1;omega)⟩ (oJ g4 Fm.out.lt (by omega) (by omega));have RS:RowX cMl (fun b=>((L0<=b/\b<B0)\/w3.heap.size<=b)/\b<w4.heap.size) WF ET p.a.sts:=(l8.out.mono ql fun b hb hs=>⟨hs,hb⟩).keep ql ⟨pD,fun k hk _=>oJ k hk.1.2 (by have:=hk.1.1;omega) (by have:=hk.1.1;omega)⟩ (oJ ET l8.out.lt (by omega) (by omega))
  have RV:OwnV WF w4.heap.size (.slice AV (zn p (zl p)).1.length kv) (zn p (zl p)).1:=eQ.out.bd.own.of_same fun k hk=>by
   have:=(eQ.out.no k hk).1;exact aj k (by omega) (by omega) (by omega)
  have RX:OwnX ZG (fun k=>W9.heap.size<=k/\(I AV (zn p (zl p)).1.length kv).ownBlock≠J k) WF W9.heap.size (.slice AE (zn p (zl p)).2.length ke) (zn p (zl p)).2:=
   eQ.out.out.keep zy ⟨by omega,fun k hk _=>aj k (by have:=hk.1;omega) (by have:=hk.1;omega) (by have:=hk.1;omega)⟩ fun k hk=>by
    have:=(eQ.out.out.lt k hk).1;exact aj k (by omega) (by omega) (by omega)
  have fL:(zl p).length<=60:=by
   have h1:=congrArg List.length (gF p K rx.out);rw[kP,LE,kf,yc] at h1;have:=DL.out;rw[<-h1,N2];omega
  have dt:=uL p (by have:=fd.out;omega) (zl p) (fun y hy=>by
   unfold zl at hy;obtain⟨d,_,hy⟩:=Ns.1 hy;obtain⟨w',dR,rfl⟩:=LG.1 hy;show w'.length<=6;rw[yK p.a _ 0 w' dR,rx.out]
   exact CR)
  refine yC (B:=W9.heap.size) (qF (by omega) UP) ?_;intro W hX;have c0:W.cell? ⟨w.heap.size+1,0,Z⟩=J (O U p.t.n):=hX.cell (za k1 0 rfl);have c1:W.cell? ⟨w.heap.size+1,1,Z⟩=J (O U p.t.ins):=hX.cell (za k1 1 rfl);have c2:W.cell? ⟨w.heap.size+1,2,Z⟩=J (O U p.t.outs):=hX.cell (za k1 2 rfl);have c3:W.cell? ⟨w.heap.size+1,3,Z⟩=J (I A4 p.t.cases.length nk):=hX.cell (za k1 3 rfl);have c4:W.cell? ⟨w.heap.size+1,4,Z⟩=J (O U p.a.n):=hX.cell (za k1 4 rfl);have c5:W.cell? ⟨w.heap.size+1,5,Z⟩=J (I nH p.a.sts.length nj):=hX.cell (za k1 5 rfl);have c6:W.cell? ⟨w.heap.size+1,6,Z⟩=J (O U p.k):=hX.cell (za k1 6 rfl);have c7:W.cell? ⟨w.heap.size+1,7,Z⟩=J (O U p.t.n):=hX.cell (za k1 7 rfl);have c8:W.cell? ⟨w.heap.size+1,8,Z⟩=J (.slice AV (zn p (zl p)).1.length kv):=hX.cell (za k1 8 rfl);have c9:W.cell? ⟨w.heap.size+1,9,Z⟩=J (.slice AE (zn p (zl p)).2.length ke):=hX.cell (za k1 9 rfl);have sX:W.cell? ⟨w.heap.size+1+1,0,Z⟩=J (O U 0):=hX.cell (za k2 0 rfl);have EF:=hX.below.size;obtain⟨St,Ma,eV,EM⟩:=(show OwnV W w4.heap.size _ _ from hX.own RV).form (by omega)
  cases eV
  obtain⟨Su,Mb,eE,_,_,EG,_⟩:=vu (RX.turn zy EF hX.same)
  cases eE
  refine⟨.tuple #[Aj #[O U p.t.n,O U p.t.ins,O U p.t.outs,I A4 p.t.cases.length nk,O U p.a.n,I nH p.a.sts.length nj,O U p.k,O U p.t.n,.slice AV (zn p (zl p)).1.length kv,.slice AE (zn p (zl p)).2.length ke],O U 0],by simp[results,results19,go_sem,c0,c1,c2,c3,c4,c5,c6,c7,c8,c9,sX],?_⟩;rw[HB.out];refine⟨A4,nk,nH,nj,AV,kv,AE,ke,rfl,fun W' FC lj=>⟨?_,?_,?_,?_⟩,EM.lec,EM.lem,k3.trans (hX.below.mono (by omega))⟩
  . rw[KI.out]
    have R:=RA.turnC xu EF hX.same;have MV:=Fm.out.lt;exact(R.keep xu ⟨FC,fun k hk hl=>lj k (by have:=hk.1.1;omega) hl⟩ (lj g4 (by omega) (by omega))).cat
  . rw[IM.out]
    have R:=RS.turnC ql EF hX.same;have MV:=l8.out.lt;exact(R.keep ql ⟨FC,fun k hk hl=>lj k (by have:=hk.1.1;omega) hl⟩ (lj ET (by omega) (by omega))).sat
  . have Ii:=(show OwnV W w4.heap.size _ _ from hX.own RV)
    obtain⟨St,Ma,eV,EM⟩:=(Ii.of_same (w':=W') fun k hk=>lj k (.inr (by have:=(OwnV.lt Ii k hk).1;omega)) (OwnV.lt Ii k hk).2).form (by omega)
    cases eV
    exact EM.rows
  have Ih:=RX.turn zy EF hX.same;obtain⟨Su,Mb,eE,_,_,EG,_⟩:=vu (Ih.keep (w':=W') zy ⟨FC,fun k hk hl=>lj k (.inr (by have:=hk.1;omega)) hl⟩ fun k hk=>lj k (.inr (by have:=(Ih.lt k hk).1;omega)) (Ih.lt k hk).2)
  cases eE
  exact EG
 intro D c pre W _ _ h;exact h.elim
theorem wP(p:Pb)(hf:qn p)(A:Bb)(kc:Nat)(SV:Bb)(ks:Nat)(w:Ba)(B0:Nat)(bH:B0<=w.heap.size)(sW:CAt w B0 A p.t.cases)(sN:SAt w B0 SV p.a.sts) :
  Ap An 19 #[.agg (p.vs A kc SV ks)] w (RetSysF 0 B0 (zD p) w):=
 Qa p hf A kc SV ks w 0 B0 bH sW sN (CAtL.of sW bH) (SAtL.of sN bH)
theorem Zb(p:Pb)(hf:qn p)(A:Bb)(kc:Nat)(SV:Bb)(ks:Nat)(w:Ba)(hA:CAt w w.heap.size A p.t.cases)(hS:SAt w w.heap.size SV p.a.sts) :
  Ap An 19 #[.agg (p.vs A kc SV ks)] w (RetSys (zD p) w):=
 (wP p hf A kc SV ks w w.heap.size (Lh _) hA hS).mono fun _ _ h=>h.sys
end
section
open Go.RowKit
attribute [local go_sem] Oper.semAt_some
def hq(f:Nat->Int)(k j:Nat):Int:=if j<k then f j else 0
def vq(p r i:Int)(f:Nat->Int)(k:Nat):Array Au:=#[O U p,O U r,O U i,O U (hq f k 0),O U (hq f k 1),O U (hq f k 2),O U (hq f k 3),O U (hq f k 4)]
theorem YT(p r i:Int)(f:Nat->Int)(k:Nat)(hk:k<5):(vq p r i f k).setIfInBounds (3+k) (O U (f k))=vq p r i f (k+1):=by
 match k,hk with
 | 0,_=>rfl
 | 1,_=>rfl
 | 2,_=>rfl
 | 3,_=>rfl
 | 4,_=>rfl
theorem vq_set2(p r i:Int)(f:Nat->Int)(k:Nat)(hk:k<5)(u:Au):((vq p r i f k).setIfInBounds (3+k) u).setIfInBounds (3+k) (O U (f k))=vq p r i f (k+1):=by
 match k,hk with
 | 0,_=>rfl
 | 1,_=>rfl
 | 2,_=>rfl
 | 3,_=>rfl
 | 4,_=>rfl
theorem vq_at(p r i:Int)(f:Nat->Int)(k:Nat)(hk:k<5):(vq p r i f k)[3+k]?=J (O U 0):=by
 match k,hk with
 | 0,_=>rfl
 | 1,_=>rfl
 | 2,_=>rfl
 | 3,_=>rfl
 | 4,_=>rfl
theorem JO(p:Nat)(i:Int)(w:Ba):Ap An 124 #[O U (p:Int),O U i] w fun e w'=>e=Am (.agg (yq p i).cells)/\Ao w.heap.size w w':=by
 obtain⟨w1,ag,d0,d1,bq,hB⟩:=zZ w (#[O U 0,O U 0,O U 0,O U 0,O U 0,O U 0,O U 0,O U 0]) (vq p 0 i (fun _=>-1) 0) 100 100;have al:=zH ag;go_enter func124,ntmps124;go_wp2_with fail;rw[show((w.alloc (Ah #[O U 0,O U 0,O U 0,O U 0,O U 0,O U 0,O U 0,O U 0] 100)).alloc (Ah #[O U p,O U 0,O U i,O U 0,O U 0,O U 0,O U 0,O U 0] 100))=w1 from al.out];have H0:=zH d0;have H1:=zH d1;have HB:=zH hB
 go_loopw [6] (fun j wr=>∃k:Nat,k<=5/\j=O U (k:Int)/\As (wr.heap[w.heap.size]?=J (Ah #[O U 0,O U 0,O U 0,O U 0,O U 0,O U 0,O U 0,O U 0] 100 (0,0)))/\As (wr.heap[w.heap.size+1]?=J (Ah (vq p 0 i (fun _=>-1) k) 100 (0,0)))/\As (Ao w.heap.size w wr)) (fun j _=>5-(Aq j).toNat)
 case atStart=>exact⟨0,by omega,rfl,H0.out,H1.out,HB.out⟩
 obtain⟨k,hk,rfl,H0,H1,nd⟩:=hrel
 by_cases lT:k<5
 case neg=>
  obtain rfl:k=5:=by omega
  have x0:wr.cell? ⟨w.heap.size+1,0,Z⟩=J (O U p):=za H1.out 0 rfl;have x1:wr.cell? ⟨w.heap.size+1,1,Z⟩=J (O U 0):=za H1.out 1 rfl;have x2:wr.cell? ⟨w.heap.size+1,2,Z⟩=J (O U i):=za H1.out 2 rfl;have x3:wr.cell? ⟨w.heap.size+1,3,Z⟩=J (O U (-1)):=za H1.out 3 rfl;have x4:wr.cell? ⟨w.heap.size+1,4,Z⟩=J (O U (-1)):=za H1.out 4 rfl;have x5:wr.cell? ⟨w.heap.size+1,5,Z⟩=J (O U (-1)):=za H1.out 5 rfl;have x6:wr.cell? ⟨w.heap.size+1,6,Z⟩=J (O U (-1)):=za H1.out 6 rfl;have x7:wr.cell? ⟨w.heap.size+1,7,Z⟩=J (O U (-1)):=za H1.out 7 rfl;have y0:wr.cell? ⟨w.heap.size,0,Z⟩=J (O U 0):=za H0.out 0 rfl;have y1:wr.cell? ⟨w.heap.size,1,Z⟩=J (O U 0):=za H0.out 1 rfl;have y2:wr.cell? ⟨w.heap.size,2,Z⟩=J (O U 0):=za H0.out 2 rfl;have y3:wr.cell? ⟨w.heap.size,3,Z⟩=J (O U 0):=za H0.out 3 rfl;have y4:wr.cell? ⟨w.heap.size,4,Z⟩=J (O U 0):=za H0.out 4 rfl;have y5:wr.cell? ⟨w.heap.size,5,Z⟩=J (O U 0):=za H0.out 5 rfl;have y6:wr.cell? ⟨w.heap.size,6,Z⟩=J (O U 0):=za H0.out 6 rfl;have y7:wr.cell? ⟨w.heap.size,7,Z⟩=J (O U 0):=za H0.out 7 rfl;have f0:=zb H0.out 0;have f1:=zb H0.out 1;have f2:=zb H0.out 2;have f3:=zb H0.out 3;have f4:=zb H0.out 4;have f5:=zb H0.out 5;have f6:=zb H0.out 6;have f7:=zb H0.out 7;go_wp2_with fail
  refine Nb (v:=Aj #[O U p,O U 0,O U i,O U (-1),O U (-1),O U (-1),O U (-1),O U (-1)]) (by simp[results,results124,go_sem,y0,y1,y2,y3,y4,y5,y6,y7]) rfl ⟨rfl,?_⟩;exact(((((((nd.out.setCell (Lh _) _).setCell (Lh _) _).setCell (Lh _) _).setCell (Lh _) _).setCell (Lh _) _).setCell (Lh _) _).setCell (Lh _) _).setCell (Lh _) _
 have x0:=za H1.out (3+k) (vq_at _ _ _ _ k lT);have f0:=zb H1.out (3+k);have cK:(0:Int)<=(k:Int):=by omega
 have bY:(k:Int)<5:=by omega
 go_wp2_with fail
 go_roundw
 case rel=>exact⟨k+1,by omega,by go_num,(Le wr _ _ w.heap.size (by show w.heap.size≠w.heap.size+1;omega)).trans H0.out,by show _=_;rw[Lk wr _ (3+k) _ _ _ H1.out,YT _ _ _ (fun _=>-1) k lT],nd.out.setCell (by show w.heap.size<=w.heap.size+1;omega) _⟩
 simp[Aq];omega
theorem seen_any(r:Rd)(K p:Nat)(hp:p<5)(hs:0<=r.h p/\r.h p<32)(A:Bb)(ca:Nat)(row:List Int)(hn:r.n=(row.length:Int))(_h5:row.length<=5)(w:Ba)(hI:IAt w w.heap.size A row) :
  Ap An 125 #[.agg r.gcells,O U (K:Int),O U (p:Int),I A row.length ca] w fun e w'=>e=Am (.agg (xz r K p row).cells)/\Ao w.heap.size w w':=by
 obtain⟨s,pE⟩:∃s:Nat,r.h p=(s:Int):=⟨(r.h p).toNat,by omega⟩;have FV:s<32:=by omega
 have HH:=zH (fun q hq w=>uu s q FV hq w);have IK:=zH pE;have HN:=zH hn;clear hn pE hs;obtain⟨w1,ag,g0,d0,d1,bq,hB⟩:=xD w r.gcells #[O U 0,O U 0,O U 0,O U 0,O U 0,O U 0,O U 0,O U 0] (vq p K 0 (zN r p row) 0) 45 100 100;have al:=zH ag;go_enter func125,ntmps125;unfold Rd.gcells;go_wp2_with fail;rw[show(((w.alloc (Ah #[O U r.n,O U r.h0,O U r.h1,O U r.h2,O U r.h3,O U r.h4] 45)).alloc (Ah #[O U 0,O U 0,O U 0,O U 0,O U 0,O U 0,O U 0,O U 0] 100)).alloc (Ah #[O U p,O U K,O U 0,O U 0,O U 0,O U 0,O U 0,O U 0] 100))=w1 from al.out];have HG:=zH g0;have H0:=zH d0;have H1:=zH d1;have HB:=zH hB;have HI:=zH hI
 go_loopw [10] (fun j wr=>∃k:Nat,k<=5/\j=O U (k:Int)/\As (wr.heap[w.heap.size]?=J (Ah r.gcells 45 (0,0)))/\As (wr.heap[w.heap.size+1]?=J (Ah #[O U 0,O U 0,O U 0,O U 0,O U 0,O U 0,O U 0,O U 0] 100 (0,0)))/\As (wr.heap[w.heap.size+1+1]?=J (Ah (vq p K 0 (zN r p row) k) 100 (0,0)))/\As (Ao w.heap.size w wr)) (fun j _=>5-(Aq j).toNat)
 case atStart=>exact⟨0,by omega,rfl,HG.out,H0.out,H1.out,HB.out⟩
 obtain⟨k,hk,rfl,HG,H0,H1,nd⟩:=hrel
 by_cases lT:k<5
 case neg=>
  obtain rfl:k=5:=by omega
  have x0:wr.cell? ⟨w.heap.size+1+1,0,Z⟩=J (O U p):=za H1.out 0 rfl;have x1:wr.cell? ⟨w.heap.size+1+1,1,Z⟩=J (O U K):=za H1.out 1 rfl;have x2:wr.cell? ⟨w.heap.size+1+1,2,Z⟩=J (O U 0):=za H1.out 2 rfl;have x3:wr.cell? ⟨w.heap.size+1+1,3,Z⟩=J (O U (zN r p row 0)):=za H1.out 3 rfl;have x4:wr.cell? ⟨w.heap.size+1+1,4,Z⟩=J (O U (zN r p row 1)):=za H1.out 4 rfl;have x5:wr.cell? ⟨w.heap.size+1+1,5,Z⟩=J (O U (zN r p row 2)):=za H1.out 5 rfl;have x6:wr.cell? ⟨w.heap.size+1+1,6,Z⟩=J (O U (zN r p row 3)):=za H1.out 6 rfl;have x7:wr.cell? ⟨w.heap.size+1+1,7,Z⟩=J (O U (zN r p row 4)):=za H1.out 7 rfl;have y0:wr.cell? ⟨w.heap.size+1,0,Z⟩=J (O U 0):=za H0.out 0 rfl;have y1:wr.cell? ⟨w.heap.size+1,1,Z⟩=J (O U 0):=za H0.out 1 rfl;have y2:wr.cell? ⟨w.heap.size+1,2,Z⟩=J (O U 0):=za H0.out 2 rfl;have y3:wr.cell? ⟨w.heap.size+1,3,Z⟩=J (O U 0):=za H0.out 3 rfl;have y4:wr.cell? ⟨w.heap.size+1,4,Z⟩=J (O U 0):=za H0.out 4 rfl;have y5:wr.cell? ⟨w.heap.size+1,5,Z⟩=J (O U 0):=za H0.out 5 rfl;have y6:wr.cell? ⟨w.heap.size+1,6,Z⟩=J (O U 0):=za H0.out 6 rfl;have y7:wr.cell? ⟨w.heap.size+1,7,Z⟩=J (O U 0):=za H0.out 7 rfl;have f0:=zb H0.out 0;have f1:=zb H0.out 1;have f2:=zb H0.out 2;have f3:=zb H0.out 3;have f4:=zb H0.out 4;have f5:=zb H0.out 5;have f6:=zb H0.out 6;have f7:=zb H0.out 7;go_wp2_with fail
  refine Nb (v:=.agg (xz r K p row).cells) (by unfold xz Vw.cells;simp[results,results125,go_sem,y0,y1,y2,y3,y4,y5,y6,y7]) rfl ⟨rfl,?_⟩;exact((((((((nd.out.setCell (by show w.heap.size<=w.heap.size+1;omega) _).setCell (by show w.heap.size<=w.heap.size+1;omega) _).setCell (by show w.heap.size<=w.heap.size+1;omega) _).setCell (by show w.heap.size<=w.heap.size+1;omega) _).setCell (by show w.heap.size<=w.heap.size+1;omega) _).setCell (by show w.heap.size<=w.heap.size+1;omega) _).setCell (by show w.heap.size<=w.heap.size+1;omega) _).setCell (by show w.heap.size<=w.heap.size+1;omega) _)
 have x0:=za H1.out (3+k) (vq_at _ _ _ _ k lT);have f0:=zb H1.out (3+k);have g0:wr.cell? ⟨w.heap.size,0,Z⟩=J (O U (row.length:Int)):=by rw[<-HN.out];exact za HG.out 0 rfl
 have gp:wr.cell? ⟨w.heap.size,1+p,Z⟩=J (O U (s:Int)):=by
  rw[<-IK.out]
  match p,hp with
  | 0,_=>exact za HG.out 1 rfl
  | 1,_=>exact za HG.out 2 rfl
  | 2,_=>exact za HG.out 3 rfl
  | 3,_=>exact za HG.out 4 rfl
  | 4,_=>exact za HG.out 5 rfl
 have cK:(0:Int)<=(k:Int):=by omega
 have bY:(k:Int)<5:=by omega
 have oH:(0:Int)<=(p:Int):=by omega
 have Ek:(p:Int)<5:=by omega
 have HS:As ((wr.setCell ⟨w.heap.size+1+1,3+k,Z⟩ (O U (-1))).heap[w.heap.size+1+1]?=J (Ah ((vq p K 0 (zN r p row) k).setIfInBounds (3+k) (O U (-1))) 100 (0,0))):=Lk wr _ (3+k) _ _ _ H1.out
 by_cases hq:k<row.length
 case neg=>
  have hE:As (zN r p row k=-1):=by unfold zN;exact Lj (fun h=>hq h.1)
  have tM:¬((k:Int)<(row.length:Int)):=by omega
  go_wp2_with fail
  go_roundw
  case rel=>exact⟨k+1,by omega,by go_num,((Le wr _ _ w.heap.size (by show w.heap.size≠w.heap.size+1+1;omega)).trans HG.out),((Le wr _ _ (w.heap.size+1) (by show w.heap.size+1≠w.heap.size+1+1;omega)).trans H0.out),(HS.out.trans (by have e:=YT p K 0 (zN r p row) k lT;rw[hE.out] at e;rw[e])),(nd.out.setCell (by show w.heap.size<=w.heap.size+1+1;omega) _)⟩
  simp[Aq];omega
 have tM:((k:Int)<(row.length:Int)):=by omega
 by_cases hb:s.testBit k=Av
 case neg=>
  have hE:As (zN r p row k=-1):=by unfold zN;exact Lj (fun h=>hb (by have h2:=h.2;rw[IK.out] at h2;exact h2))
  go_wp2_with (go_at_call 146;refine(HH.out k lT _).mono ?_;rintro e w' ⟨rfl,dR⟩;obtain rfl:=dR.symm)
  go_roundw
  case rel=>exact⟨k+1,by omega,by go_num,((Le wr _ _ w.heap.size (by show w.heap.size≠w.heap.size+1+1;omega)).trans HG.out),((Le wr _ _ (w.heap.size+1) (by show w.heap.size+1≠w.heap.size+1+1;omega)).trans H0.out),(HS.out.trans (by have e:=YT p K 0 (zN r p row) k lT;rw[hE.out] at e;rw[e])),(nd.out.setCell (by show w.heap.size<=w.heap.size+1+1;omega) _)⟩
  simp[Aq];omega
 have hE:As (zN r p row k=row[k]):=by
  unfold zN;rw[Ln ⟨hq,by rw[IK.out];exact hb⟩,Lf,Lg hq];rfl
 have HX:=zH ((HI.out.keep nd.out).at_ k hq);obtain⟨ba,off,rfl,ac,hc⟩:=HX.out;have f1:=zb HS.out (3+k);go_wp2_with (go_at_call 146;refine(HH.out k lT _).mono ?_;rintro e w' ⟨rfl,dR⟩;obtain rfl:=dR.symm)
 go_roundw
 case rel=>exact⟨k+1,by omega,by go_num,((Le _ _ _ w.heap.size (by show w.heap.size≠w.heap.size+1+1;omega)).trans ((Le wr _ _ w.heap.size (by show w.heap.size≠w.heap.size+1+1;omega)).trans HG.out)),((Le _ _ _ (w.heap.size+1) (by show w.heap.size+1≠w.heap.size+1+1;omega)).trans ((Le wr _ _ (w.heap.size+1) (by show w.heap.size+1≠w.heap.size+1+1;omega)).trans H0.out)),(by show _=_;rw[Lk _ _ (3+k) _ _ _ HS.out,<-hE.out,vq_set2 _ _ _ (zN r p row) k lT]),((nd.out.setCell (by show w.heap.size<=w.heap.size+1+1;omega) _).setCell (by show w.heap.size<=w.heap.size+1+1;omega) _)⟩
 simp[Aq];omega
end
section
open Go.RowKit Go.Shelf
structure Bt(D bs:Nat)(SC:Au->Au->Array Au)(WR:Ba)(vs:List Vw)(xs:List Exn)(V E:Au)(X:Ba):Prop where
 wr:Wrote (fun k=>k=bs) WR X
 wd:WR.heap.size<=D
 big:D<=X.heap.size
 bsl:bs<D
 sys:X.heap[bs]?=J (Ah (SC V E) 36 (0,0))
 tb:OwnV X D V vs
 out:OwnX ZG (fun k=>bs<k) X D E xs
 no:∀k,V.ownBlock=J k->E.ownBlock≠J k
structure Bq(D bs bx:Nat)(SC:Au->Au->Array Au)(WR:Ba)(c:Int)(wv:Au)(vs:List Vw)(xs:List Exn)(views:List (List Int))(row:List Int)(V E Y L:Au)(X:Ba):Prop where
 wr:Wrote (fun k=>k=bs) WR X
 wd:WR.heap.size<=D
 big:D<=X.heap.size
 bsl:bs<D
 sys:X.heap[bs]?=J (Ah (SC V E) 36 (0,0))
 x:X.heap[bx]?=J (Ah #[O U c,wv,Y] 42 (0,0))
 hx:D<=bx
 tb:OwnV X D V vs
 out:OwnX ZG (fun k=>bs<k/\k≠bx/\Y.ownBlock≠J k/\L.ownBlock≠J k) X D E xs
 vw:OwnX cIs (fun k=>D<=k/\k≠bx/\E.ownBlock≠J k/\L.ownBlock≠J k) X D Y views
 row:OwnR kIn X D L row.length (row.map (O U))
 nV:∀k,V.ownBlock=J k->k≠bx/\E.ownBlock≠J k/\Y.ownBlock≠J k/\L.ownBlock≠J k
 nE:∀k,E.ownBlock=J k->k≠bx/\Y.ownBlock≠J k/\L.ownBlock≠J k
 nY:∀k,Y.ownBlock=J k->k≠bx/\L.ownBlock≠J k
 nL:∀k,L.ownBlock=J k->k≠bx
section
variable {D bs bx:Nat} {SC:Au->Au->Array Au} {WR X:Ba} {c:Int} {wv:Au} {vs:List Vw} {xs:List Exn} {views:List (List Int)} {row:List Int} {V E Y L:Au}
theorem OwnV.lt'{w:Ba}{aa:Nat}{v:Au}{vs:List Vw}(h:OwnV w aa v vs):∀k,v.ownBlock=J k->aa<=k/\k<w.heap.size:=PU h
theorem Bq.bxl(h:Bq D bs bx SC WR c wv vs xs views row V E Y L X):bx<X.heap.size:=(Li.1 h.x).1
theorem Bt.on(h:Bt D bs SC WR vs xs V E X){X':Ba}(hb:Ao X.heap.size X X'):Bt D bs SC WR vs xs V E X':=
 ⟨h.wr.trans (Wrote.of_below (R:=fun _=>False) hb) (fun _ _ h=>h.elim),h.wd,by have:=hb.size;have:=h.big;omega,h.bsl,Lb hb (by have:=h.bsl;have:=h.big;omega) h.sys,
  h.tb.of_same fun k hk=>hb.block k (h.tb.lt' k hk).2,h.out.below zy hb (Lh _),h.no⟩
theorem Bq.on(h:Bq D bs bx SC WR c wv vs xs views row V E Y L X){X':Ba}(hb:Ao X.heap.size X X'):Bq D bs bx SC WR c wv vs xs views row V E Y L X':=
 ⟨h.wr.trans (Wrote.of_below (R:=fun _=>False) hb) (fun _ _ h=>h.elim),h.wd,by have:=hb.size;have:=h.big;omega,h.bsl,Lb hb (by have:=h.bsl;have:=h.big;omega) h.sys,
  Lb hb h.bxl h.x,h.hx,h.tb.of_same fun k hk=>hb.block k (h.tb.lt' k hk).2,h.out.below zy hb (Lh _),h.vw.below yr hb (Lh _),h.row.below hb (Lh _),h.nV,h.nE,h.nY,h.nL⟩
theorem Bt.start(h:Bt D bs SC WR vs xs V E X){X':Ba}(hb:Ao X.heap.size X X')(hx:X'.heap[X.heap.size]?=J (Ah #[O U c,wv,I Z 0 0] 42 (0,0))) :
  Bq D bs X.heap.size SC WR c wv vs xs [] [] V E (I Z 0 0) (I Z 0 0) X':=by
 have h':=h.on hb;refine⟨h'.wr,h'.wd,h'.big,h'.bsl,h'.sys,hx,h.big,h'.tb,?_,OwnX.nil _ _ _ _,OwnR.nil _ _ _,fun k hk=>?_,fun k hk=>?_,fun k hk=>?_,fun k hk=>?_⟩
 . refine OwnX.below zy (OwnX.mono zy h.out fun k hk hs=>⟨hs,by omega,?_,?_⟩) hb (Lh _)
   . simp[Value.ownBlock]
   simp[Value.ownBlock]
 . have:=(h.tb.lt' k hk).2
   exact⟨by omega,h.no k hk,by simp[Value.ownBlock],by simp[Value.ownBlock]⟩
 . have:=(h.out.lt k hk).2
   exact⟨by omega,by simp[Value.ownBlock],by simp[Value.ownBlock]⟩
 . simp[Value.ownBlock] at hk
 simp[Value.ownBlock] at hk
theorem Bq.put(h:Bq D bs bx SC WR c wv vs xs views row V E Y L X){W:Ba}(hb:Ao X.heap.size X W){V' u:Au}{rF:List Vw}(hT:OwnV W D V' rF)(hV:∀k,V'.ownBlock=J k->V.ownBlock=J k\/X.heap.size<=k)
  (h7:(SC V E).setIfInBounds 7 u=SC V E) (h8:(SC V E).setIfInBounds 8 V'=SC V' E) :
  Bq D bs bx SC WR c wv rF xs views row V' E Y L ((W.setCell ⟨bs,7,Z⟩ u).setCell ⟨bs,8,Z⟩ V'):=by
 have h1:=h.on hb;have bC:=h.bsl;have aL:=h.hx;obtain⟨W',lY⟩:=Kh ((W.setCell ⟨bs,7,Z⟩ u).setCell ⟨bs,8,Z⟩ V')
 have hk:∀k,k≠bs->W'.heap[k]?=W.heap[k]?:=fun k hk=>by
  rw[<-lY];exact(Le _ ⟨bs,8,Z⟩ _ k hk).trans (Le _ ⟨bs,7,Z⟩ _ k hk)
 have hz:W'.heap.size=W.heap.size:=by rw[<-lY];simp
 have hs:W'.heap[bs]?=J (Ah (SC V' E) 36 (0,0)):=by
  rw[<-lY];have q:=Lk W bs 7 _ _ u h1.sys;rw[h7] at q;have q2:=Lk _ bs 8 _ _ V' q;rwa[h8] at q2
 have hw:Wrote (fun k=>k=bs) W W':=by
  rw[<-lY];exact⟨rfl,rfl,rfl,by simp,fun k _ hk=>(Le _ ⟨bs,8,Z⟩ _ k hk).trans (Le _ ⟨bs,7,Z⟩ _ k hk)⟩
 rw[lY];refine⟨h1.wr.trans hw (fun k _ e=>e),h.wd,by have:=h1.big;omega,h.bsl,hs,(hk _ (by omega)).trans h1.x,h.hx,hT.of_same fun k e=>hk k (by have:=(hT.lt' k e).1;omega),?_,?_,?_,fun k e=>?_,h.nE,h.nY,h.nL⟩
 . exact h1.out.keep zy ⟨by omega,fun k hs _=>hk k (by have:=hs.1;omega)⟩ fun k e=>hk k (by have:=(h1.out.lt k e).1;omega)
 . exact h1.vw.keep yr ⟨by omega,fun k hs _=>hk k (by have:=hs.1;omega)⟩ fun k e=>hk k (by have:=(h1.vw.lt k e).1;omega)
 . refine h1.row.kept (row:=J bs) ⟨hw.os,hw.tape,hw.output,hw.size,fun k _ hn=>hk k (fun e=>hn (by rw[e]))⟩ (Or.inr (h1.row.ne (by omega)))
 rcases hV k e with e | e
 . exact h.nV k e
 have aB:=h.bxl;exact⟨by omega,fun e2=>by have:=(h.out.lt k e2).2;omega,fun e2=>by have:=(h.vw.lt k e2).2;omega,fun e2=>by have:=(h.row.lt k e2).2;omega⟩
theorem kB(W:Ba)(b o:Nat)(u:Au):Wrote (fun k=>k=b) W (W.setCell ⟨b,o,Z⟩ u):=⟨rfl,rfl,rfl,by simp,fun k _ hn=>Le W ⟨b,o,Z⟩ u k hn⟩
theorem OwnX.aside{α:Type}{C:Ct α}(ok:CtOk C){S:Nat->Prop}{W w5:Ba}{v L:Au}{xs:List α}{g' n cap:Nat}(h:OwnX C S W D v xs)(hS:∀k,S k->L.ownBlock≠J k)(hg:W.grownBy w5 L.ownBlock)(bG:∀k,v.ownBlock=J k->L.ownBlock≠J k)
  (bz:L.ownBlock=J g'\/g'=W.heap.size):OwnX C (fun k=>S k/\(I (J ⟨g',0,Z⟩) n cap).ownBlock≠J k) w5 D v xs:=by
 have h1:OwnX C (fun k=>S k/\(I (J ⟨g',0,Z⟩) n cap).ownBlock≠J k) W D v xs:=OwnX.mono ok h fun k hk hs=>⟨hs,fun e=>by
  have e2:g'=k:=by simpa[Value.ownBlock] using e
  rcases bz with e3 | e3
  . exact hS k hs (by rw[e3,e2])
  . omega⟩
 refine h1.kept ok hg ?_ fun k hk=>.inl fun hs=>hS k hs.1 hk
 cases hv:v.ownBlock with
 | none=>exact .inl rfl
 | some k=>exact .inr fun e=>bG k hv e.symm
theorem OwnV.aside{W w5:Ba}{v L:Au}{vs:List Vw}(h:OwnV W D v vs)(hg:W.grownBy w5 L.ownBlock)(bG:∀k,v.ownBlock=J k->L.ownBlock≠J k):OwnV w5 D v vs:=
 h.of_same fun k hk=>hg.block k (h.lt' k hk).2 fun e=>bG k hk e.symm
theorem xJ{L:Au}{W:Ba}{g' n cap:Nat}{P:Nat->Prop}(bz:L.ownBlock=J g'\/g'=W.heap.size)(h1:∀k,L.ownBlock=J k->P k)(h2:P W.heap.size):∀k,(I (J ⟨g',0,Z⟩) n cap).ownBlock=J k->P k:=fun k e=>by
 have e2:g'=k:=by simpa[Value.ownBlock] using e
 subst e2;rcases bz with e3 | e3
 . exact h1 g' e3
 . rw[e3];exact h2
theorem Bq.push(h:Bq D bs bx SC WR c wv vs xs views row V E Y L X){W w5:Ba}(hb:Ao X.heap.size X W){i:Int}{g' cap:Nat}
  (hr:OwnR kIn w5 D (I (J ⟨g',0,Z⟩) (row.length+1) cap) (row.length+1) (row.map (O U)++[O U i])) (hg:W.grownBy w5 L.ownBlock) (bz:L.ownBlock=J g'\/g'=W.heap.size) :
  Bq D bs bx SC WR c wv vs xs views (row++[i]) V E Y (I (J ⟨g',0,Z⟩) (row.length+1) cap) w5:=by
 have h1:=h.on hb;have aN:=h1.row.lt;have bC:=h.bsl;have aL:=h.hx;have hbig:=h1.big;have Aa:=h1.tb.lt';have CV:=h1.out.lt;have G':=h1.vw.lt;have aB:=h1.bxl;have MQ:=hg.size;refine⟨h1.wr.trans (Wrote.of_grown (R:=fun k=>D<=k) hg (fun k e _=>(aN k e).1)) (fun k hk e=>by have:=h.wd;omega),h.wd,by omega,h.bsl,?_,?_,h.hx,h1.tb.aside hg fun k e=>(h.nV k e).2.2.2,?_,?_,by simpa using hr,fun k e=>?_,fun k e=>?_,fun k e=>?_,?_⟩
 . exact(hg.block bs (by omega) fun e=>by have:=(aN bs e.symm).1;omega).trans h1.sys
 . exact(hg.block bx aB fun e=>h.nL bx e.symm rfl).trans h1.x
 . exact OwnX.mono zy (h1.out.aside zy (n:=row.length+1) (cap:=cap) (fun k hs=>hs.2.2.2) hg (fun k e=>(h.nE k e).2.2) bz) fun k _ hs=>⟨hs.1.1,hs.1.2.1,hs.1.2.2.1,hs.2⟩
 . exact OwnX.mono yr (h1.vw.aside yr (n:=row.length+1) (cap:=cap) (fun k hs=>hs.2.2.2) hg (fun k e=>(h.nY k e).2) bz) fun k _ hs=>⟨hs.1.1,hs.1.2.1,hs.1.2.2.1,hs.2⟩
 . exact⟨(h.nV k e).1,(h.nV k e).2.1,(h.nV k e).2.2.1,fun e2=>xJ (P:=fun j=>V.ownBlock≠J j) bz (fun j ej ev=>(h.nV j ev).2.2.2 ej) (fun ev=>by have:=(Aa _ ev).2;omega) k e2 e⟩
 . exact⟨(h.nE k e).1,(h.nE k e).2.1,fun e2=>xJ (P:=fun j=>E.ownBlock≠J j) bz (fun j ej ev=>(h.nE j ev).2.2 ej) (fun ev=>by have:=(CV _ ev).2;omega) k e2 e⟩
 . exact⟨(h.nY k e).1,fun e2=>xJ (P:=fun j=>Y.ownBlock≠J j) bz (fun j ej ev=>(h.nY j ev).2 ej) (fun ev=>by have:=(G' _ ev).2;omega) k e2 e⟩
 exact xJ bz h.nL (by omega)
theorem Bq.close(h:Bq D bs bx SC WR c wv vs xs views row V E Y L X){W w5:Ba}(hb:Ao X.heap.size X W){g' cap:Nat}{aD:List (List Au)}(bk:aD.length=views.length)
  (bj:∀(i:Nat) (h1:i<aD.length) (h2:i<views.length),cIs.lies (fun k=>(D<=k/\k≠bx/\E.ownBlock≠J k/\L.ownBlock≠J k)/\Y.ownBlock≠J k) W aD[i] views[i])
  (hr:OwnR kIs w5 D (I (J ⟨g',0,Z⟩) (views.length+1) cap) (views.length+1) (aD.flatten++[L])) (hg:W.grownBy w5 Y.ownBlock) (bz:Y.ownBlock=J g'\/g'=W.heap.size) :
  Bq D bs bx SC WR c wv vs xs (views++[row]) [] V E (I (J ⟨g',0,Z⟩) (views.length+1) cap) (I Z 0 0) (w5.setCell ⟨bx,2,Z⟩ (I (J ⟨g',0,Z⟩) (views.length+1) cap)):=by
 have h1:=h.on hb;have aN:=h1.vw.lt;have bC:=h.bsl;have aL:=h.hx;have hbig:=h1.big;have Aa:=h1.tb.lt';have CV:=h1.out.lt;have UC:=h1.row.lt;have aB:=h1.bxl;have MQ:=hg.size;obtain⟨A,cL,eL,_,_,UH⟩:=h1.row.form
 have hX:cIs.lies (fun k=>(D<=k/\k≠bx/\E.ownBlock≠J k)/\Y.ownBlock≠J k) W [L] row:=by
  refine⟨A,cL,by rw[eL],fun h0=>?_⟩;obtain⟨g,hA,Ew,cy,hc⟩:=UH h0;refine⟨g,0,hA,⟨⟨(UC g Ew).1,h.nL g Ew,fun e=>(h.nE g e).2.2 Ew⟩,fun e=>(h.nY g e).2 Ew⟩,cy,fun i hi=>?_⟩;rw[LN];exact hc i _ (by simp[hi])
 have hv:=OwnX.app yr (S:=fun k=>D<=k/\k≠bx/\E.ownBlock≠J k) bk (fun i i1 i2=>yr.mono (bj i i1 i2) fun k _ hs=>⟨⟨hs.1.1,hs.1.2.1,hs.1.2.2.1⟩,hs.2⟩) hX hr hg bz;have eJ:=h1.out.aside zy (n:=views.length+1) (cap:=cap) (fun k hs=>hs.2.2.1) hg (fun k e=>(h.nE k e).2.1) bz;have Eu:w5.heap[bx]?=J (Ah #[O U c,wv,Y] 42 (0,0)):=(hg.block bx aB fun e=>(h.nY bx e.symm).1 rfl).trans h1.x;have nA:w5.heap[bs]?=J (Ah (SC V E) 36 (0,0)):=(hg.block bs (by omega) fun e=>by have:=(aN bs e.symm).1;omega).trans h1.sys;have hk:∀k,k≠bx->(w5.setCell ⟨bx,2,Z⟩ (I (J ⟨g',0,Z⟩) (views.length+1) cap)).heap[k]?=w5.heap[k]?:=fun k hk=>Le w5 ⟨bx,2,Z⟩ _ k hk
 have hw:Wrote (fun k=>D<=k) W (w5.setCell ⟨bx,2,Z⟩ (I (J ⟨g',0,Z⟩) (views.length+1) cap)):=
  (Wrote.of_grown (R:=fun k=>D<=k) hg (fun k e _=>(aN k e).1)).trans (kB w5 bx 2 _) (fun k _ e=>by omega)
 refine⟨h1.wr.trans hw (fun k hk e=>by have:=h.wd;omega),h.wd,by simp;omega,h.bsl,(hk bs (by omega)).trans nA,?_,h.hx,?_,?_,?_,OwnR.nil _ _ _,fun k e=>?_,fun k e=>?_,fun k e=>?_,fun k e=>?_⟩
 . rw[Lk w5 bx 2 _ _ _ Eu];rfl
 . exact(h1.tb.aside hg fun k e=>(h.nV k e).2.2.1).of_same fun k e=>hk k (h.nV k e).1
 . exact OwnX.mono zy (eJ.keep zy ⟨by simp,fun k hs _=>hk k hs.1.2.1⟩ fun k e=>hk k (h.nE k e).1) fun k _ hs=>⟨hs.1.1,hs.1.2.1,hs.2,by simp[Value.ownBlock]⟩
 . refine OwnX.mono yr (hv.keep yr ⟨by simp,fun k hs _=>hk k hs.2.1⟩ fun k e=>hk k ?_) fun k _ hs=>⟨hs.1,hs.2.1,hs.2.2,by simp[Value.ownBlock]⟩
   exact xJ (P:=fun j=>j≠bx) bz (fun j e=>(h.nY j e).1) (by omega) k e
 . exact⟨(h.nV k e).1,(h.nV k e).2.1,fun e2=>xJ (P:=fun j=>V.ownBlock≠J j) bz (fun j ej ev=>(h.nV j ev).2.2.1 ej) (fun ev=>by have:=(Aa _ ev).2;omega) k e2 e,by simp[Value.ownBlock]⟩
 . exact⟨(h.nE k e).1,fun e2=>xJ (P:=fun j=>E.ownBlock≠J j) bz (fun j ej ev=>(h.nE j ev).2.1 ej) (fun ev=>by have:=(CV _ ev).2;omega) k e2 e,by simp[Value.ownBlock]⟩
 . exact⟨xJ (P:=fun j=>j≠bx) bz (fun j e=>(h.nY j e).1) (by omega) k e,by simp[Value.ownBlock]⟩
 simp[Value.ownBlock] at e
theorem Bq.done(h:Bq D bs bx SC WR c wv vs xs views [] V E Y (I Z 0 0) X){W w5:Ba}(hb:Ao X.heap.size X W){g' cap A2 c2 A3 c3:_}{aD:List (List Au)}{word:List Rd}(bk:aD.length=xs.length)
  (bj:∀(i:Nat) (h1:i<aD.length) (h2:i<xs.length),ZG.lies (fun k=>(bs<k/\k≠bx/\Y.ownBlock≠J k/\(I Z 0 0).ownBlock≠J k)/\E.ownBlock≠J k) W aD[i] xs[i])
  (ST:wv=I A2 word.length c2) (NP:Y=I A3 views.length c3) (hw:RAtS (fun k=>bs<k/\k<D) WR A2 word) (lN:word.length<=c2)
  (hr:OwnR kXn w5 D (I (J ⟨g',0,Z⟩) (xs.length+1) cap) (xs.length+1) (aD.flatten++[O U c,wv,Y])) (hg:W.grownBy w5 E.ownBlock) (bz:E.ownBlock=J g'\/g'=W.heap.size)
  (h9:(SC V E).setIfInBounds 9 (I (J ⟨g',0,Z⟩) (xs.length+1) cap)=SC V (I (J ⟨g',0,Z⟩) (xs.length+1) cap)) :
  Bt D bs SC WR vs (xs++[⟨c,word,views⟩]) V (I (J ⟨g',0,Z⟩) (xs.length+1) cap) (w5.setCell ⟨bs,9,Z⟩ (I (J ⟨g',0,Z⟩) (xs.length+1) cap)):=by
 have h1:=h.on hb;have aN:=h1.out.lt;have bC:=h.bsl;have aL:=h.hx;have hbig:=h1.big;have Aa:=h1.tb.lt';have G':=h1.vw.lt;have MQ:=hg.size;obtain⟨A3',C2,e3,_,_,hL⟩:=Za h1.vw;rw[NP] at e3
 cases e3
 have hX:ZG.lies (fun k=>bs<k/\E.ownBlock≠J k) W [O U c,wv,Y] ⟨c,word,views⟩:=by
  refine⟨A2,c2,A3,c3,by rw[ST,NP],?_,?_,lN⟩
  . exact(hw.keep ⟨h1.wr.size,fun k hk hl=>h1.wr.block k hl (fun e=>by have:=hk.1;omega)⟩).mono fun k _ hs=>⟨hs.1,fun e=>by have:=(aN k e).1;have:=hs.2;omega⟩
  refine hL.mono fun k _ hs=>?_
  rcases hs with hs | hs
  . exact⟨by have:=hs.1;omega,hs.2.2.1⟩
  exact⟨by have:=(G' k hs).1;omega,fun e=>(h.nE k e).2.1 hs⟩
 have hv:=OwnX.app zy (S:=fun k=>bs<k) bk (fun i i1 i2=>zy.mono (bj i i1 i2) fun k _ hs=>⟨hs.1.1,hs.2⟩) hX hr hg bz;have nA:w5.heap[bs]?=J (Ah (SC V E) 36 (0,0)):=(hg.block bs (by omega) fun e=>by have:=(aN bs e.symm).1;omega).trans h1.sys;have hk:∀k,k≠bs->(w5.setCell ⟨bs,9,Z⟩ (I (J ⟨g',0,Z⟩) (xs.length+1) cap)).heap[k]?=w5.heap[k]?:=fun k hk=>Le w5 ⟨bs,9,Z⟩ _ k hk
 have im:Wrote (fun k=>k=bs\/D<=k) W (w5.setCell ⟨bs,9,Z⟩ (I (J ⟨g',0,Z⟩) (xs.length+1) cap)):=
  (Wrote.of_grown (R:=fun k=>k=bs\/D<=k) hg (fun k e _=>.inr (aN k e).1)).trans (kB w5 bs 9 _) (fun k _ e=>.inl e)
 refine⟨h1.wr.trans im (fun k hk e=>by have:=h.wd;omega),h.wd,by simp;omega,h.bsl,?_,?_,?_,fun k e=>?_⟩
 . rw[Lk w5 bs 9 _ _ _ nA,h9]
 . exact(h1.tb.aside hg fun k e=>(h.nV k e).2.1).of_same fun k e=>hk k (by have:=(Aa k e).1;omega)
 . refine hv.keep zy ⟨by simp,fun k hs _=>hk k (by omega)⟩ fun k e=>hk k ?_
   exact xJ (P:=fun j=>j≠bs) bz (fun j e=>by have:=(aN j e).1;omega) (by omega) k e
 exact fun e2=>xJ (P:=fun j=>V.ownBlock≠J j) bz (fun j ej ev=>(h.nV j ev).2.1 ej) (fun ev=>by have:=(Aa _ ev).2;omega) k e2 e
end
end
section
open Go.RowKit Go.Shelf
def stQ(vs:List Vw)(N:Nat)(inp:List Int)(word:List Rd):Nat->List Vw×List (List Int)
 | 0=>(vs,[])
 | k+1=>zk vs N inp word k
def fQ(inp:List Int)(word:List Rd)(views:List (List Int)):Nat->Nat->Vw
 | 0=>f0 inp
 | k+1=>fk word k (views.getD k [])
theorem stQ_succ(vs:List Vw)(N:Nat)(inp:List Int)(word:List Rd)(k:Nat) :
  stQ vs N inp word (k+1)=((zP (fQ inp word (stQ vs N inp word k).2 k) (stQ vs N inp word k).1 N).1,(stQ vs N inp word k).2++[(zP (fQ inp word (stQ vs N inp word k).2 k) (stQ vs N inp word k).1 N).2]):=by
 cases k<;>rfl
theorem stQ_len(vs:List Vw)(N:Nat)(inp:List Int)(word:List Rd)(k:Nat):(stQ vs N inp word k).2.length=k:=by
 cases k
 . rfl
 exact zW _ _ _ _ _
theorem Qr(vs:List Vw)(N:Nat)(inp:List Int)(word:List Rd)(k:Nat):(stQ vs N inp word k).1.length<=vs.length+k*N:=by
 cases k
 . simp[stQ]
 exact qC _ _ _ _ _
theorem stQ_row(vs:List Vw)(N:Nat)(inp:List Int)(word:List Rd)(k j:Nat)(hj:j<(stQ vs N inp word k).2.length):((stQ vs N inp word k).2[j]).length=N:=by
 cases k with
 | zero=>exact absurd hj (by simp[stQ])
 | succ k=>exact qe _ _ _ _ k _ (Ld hj)
def pcs(zi:List (List Rd))(c:Nat):List (Nat×List Rd):=(List.range c).flatMap fun i=>zi.map fun w=>(i,w)
theorem Yh(zi:List (List Rd))(c:Nat):pcs zi (c+1)=pcs zi c++zi.map fun w=>(c,w):=by
 unfold pcs;rw[NH,Rj];simp
theorem QE(p:Pb):zl p=pcs (zo p.a p.k.toNat 0) p.t.cases.length:=rfl
def pcw(zi:List (List Rd))(c j:Nat):List (Nat×List Rd):=pcs zi c++(zi.take j).map fun w=>(c,w)
theorem Yg(zi:List (List Rd))(c:Nat):pcw zi c 0=pcs zi c:=by simp[pcw]
theorem pcw_succ(zi:List (List Rd))(c j:Nat)(hj:j<zi.length):pcw zi c (j+1)=pcw zi c j++[(c,zi[j])]:=by
 unfold pcw;rw[Lu hj,LH,List.map_singleton,Ng]
theorem pcw_end(zi:List (List Rd))(c:Nat):pcw zi c zi.length=pcs zi (c+1):=by
 unfold pcw;rw[LJ,Yh]
theorem Zs(zi:List (List Rd)):∀c,(pcs zi c).length=c*zi.length
 | 0=>by simp[pcs]
 | c+1=>by rw[Yh,Lq,Zs zi c,LE,Py];omega
theorem QD(zi:List (List Rd))(c j:Nat)(hj:j<=zi.length):(pcw zi c j).length=c*zi.length+j:=by
 unfold pcw;rw[Lq,Zs,LE,Ps,P8 hj]
theorem pcw_mem(zi:List (List Rd))(c j:Nat):∀x∈pcw zi c j,x.2∈zi:=fun x hx=>by
 unfold pcw at hx;rcases LR.1 hx with hx | hx
 . unfold pcs at hx
   obtain⟨_,_,hx⟩:=Ns.1 hx;obtain⟨_,h,rfl⟩:=LG.1 hx;exact h
 . obtain⟨_,h,rfl⟩:=LG.1 hx
   exact List.mem_of_mem_take h
theorem gA(p:Pb)(zi:List (List Rd))(hn:p.t.n.toNat<=5)(hw:∀w∈zi,w.length<=6)(c j:Nat)(hj:j<=zi.length)(da:c*zi.length+j<=60):(zn p (pcw zi c j)).1.length<=2100/\(zn p (pcw zi c j)).2.length=c*zi.length+j:=by
 have h1:=uL p hn (pcw zi c j) fun x hx=>hw _ (pcw_mem zi c j x hx)
 rw[QD zi c j hj] at h1;refine⟨by omega,?_⟩;rw[xL,QD zi c j hj]
theorem uK(p:Pb)(zi:List (List Rd))(hn:p.t.n.toNat<=5)(hw:∀w∈zi,w.length<=6)(c:Nat)(da:c*zi.length<=60):(zn p (pcs zi c)).1.length<=2100:=by
 have:=(gA p zi hn hw c 0 (Nl _) (by omega)).1;rwa[Yg] at this
theorem put_out{n:Int}{AV:Bb}{kv:Nat}{vs:List Vw}{v:Vw}{W w':Ba}{e:Ending}{D:Nat}(h:RetPut n AV kv vs v W e w')(hO:OwnV W D (I AV vs.length kv) vs)(hD:D<=W.heap.size) :
  ∃A3 k3,e=Am (.tuple #[Aj #[O U n,.slice A3 (xF vs v).1.length k3],O U (xF vs v).2])/\OwnV w' D (.slice A3 (xF vs v).1.length k3) (xF vs v).1 /\
   (∀k,(I A3 (xF vs v).1.length k3).ownBlock=J k->(I AV vs.length kv).ownBlock=J k\/W.heap.size<=k)/\Ao W.heap.size W w':=by
 obtain⟨hb,h1,h2⟩:=h
 by_cases hm:v∈vs
 . rw[Yb hm]
   exact⟨AV,kv,h1 hm,hO.of_same fun k hk=>hb.block k (hO.lt' k hk).2,fun k hk=>.inl hk,hb⟩
 rw[QC hm];obtain⟨A3,k3,e3,ho⟩:=h2 hm;have hl:(vs++[v]).length=vs.length+1:=by simp
 dsimp only;rw[hl];exact⟨A3,k3,e3,ho.low hD,fun k hk=>.inr (ho.lt' k hk).1,hb⟩
theorem xj{w X:Ba}{g B:Nat}{a0 a1 a2 a3 a4 a5 a6 a7 a8 a9:Au}(v0 v1 v2 v3 v4 v5 v6 v7 v8 v9:Au)(hg:X.heap[g]?=J (Ah #[a0,a1,a2,a3,a4,a5,a6,a7,a8,a9] 36 (0,0)))(hB:Ao B w X)(h1:B<=g) :
  ((((((((((X.setCell ⟨g,0,Z⟩ v0).setCell ⟨g,1,Z⟩ v1).setCell ⟨g,2,Z⟩ v2).setCell ⟨g,3,Z⟩ v3).setCell ⟨g,4,Z⟩ v4).setCell ⟨g,5,Z⟩ v5).setCell ⟨g,6,Z⟩ v6).setCell ⟨g,7,Z⟩ v7).setCell ⟨g,8,Z⟩ v8).setCell ⟨g,9,Z⟩ v9).heap[g]?=J (Ah #[v0,v1,v2,v3,v4,v5,v6,v7,v8,v9] 36 (0,0))/\Ao B w ((((((((((X.setCell ⟨g,0,Z⟩ v0).setCell ⟨g,1,Z⟩ v1).setCell ⟨g,2,Z⟩ v2).setCell ⟨g,3,Z⟩ v3).setCell ⟨g,4,Z⟩ v4).setCell ⟨g,5,Z⟩ v5).setCell ⟨g,6,Z⟩ v6).setCell ⟨g,7,Z⟩ v7).setCell ⟨g,8,Z⟩ v8).setCell ⟨g,9,Z⟩ v9)/\Ao g X ((((((((((X.setCell ⟨g,0,Z⟩ v0).setCell ⟨g,1,Z⟩ v1).setCell ⟨g,2,Z⟩ v2).setCell ⟨g,3,Z⟩ v3).setCell ⟨g,4,Z⟩ v4).setCell ⟨g,5,Z⟩ v5).setCell ⟨g,6,Z⟩ v6).setCell ⟨g,7,Z⟩ v7).setCell ⟨g,8,Z⟩ v8).setCell ⟨g,9,Z⟩ v9)/\(∀k,k≠g->((((((((((X.setCell ⟨g,0,Z⟩ v0).setCell ⟨g,1,Z⟩ v1).setCell ⟨g,2,Z⟩ v2).setCell ⟨g,3,Z⟩ v3).setCell ⟨g,4,Z⟩ v4).setCell ⟨g,5,Z⟩ v5).setCell ⟨g,6,Z⟩ v6).setCell ⟨g,7,Z⟩ v7).setCell ⟨g,8,Z⟩ v8).setCell ⟨g,9,Z⟩ v9).heap[k]?=X.heap[k]?)/\((((((((((X.setCell ⟨g,0,Z⟩ v0).setCell ⟨g,1,Z⟩ v1).setCell ⟨g,2,Z⟩ v2).setCell ⟨g,3,Z⟩ v3).setCell ⟨g,4,Z⟩ v4).setCell ⟨g,5,Z⟩ v5).setCell ⟨g,6,Z⟩ v6).setCell ⟨g,7,Z⟩ v7).setCell ⟨g,8,Z⟩ v8).setCell ⟨g,9,Z⟩ v9).heap.size=X.heap.size:=by
 have k0:(X.setCell ⟨g,0,Z⟩ v0).heap[g]?=J (Ah #[v0,a1,a2,a3,a4,a5,a6,a7,a8,a9] 36 (0,0)):=Lk _ g 0 _ _ v0 hg;have k1:((X.setCell ⟨g,0,Z⟩ v0).setCell ⟨g,1,Z⟩ v1).heap[g]?=J (Ah #[v0,v1,a2,a3,a4,a5,a6,a7,a8,a9] 36 (0,0)):=Lk _ g 1 _ _ v1 k0;have k2:(((X.setCell ⟨g,0,Z⟩ v0).setCell ⟨g,1,Z⟩ v1).setCell ⟨g,2,Z⟩ v2).heap[g]?=J (Ah #[v0,v1,v2,a3,a4,a5,a6,a7,a8,a9] 36 (0,0)):=Lk _ g 2 _ _ v2 k1;have k3:((((X.setCell ⟨g,0,Z⟩ v0).setCell ⟨g,1,Z⟩ v1).setCell ⟨g,2,Z⟩ v2).setCell ⟨g,3,Z⟩ v3).heap[g]?=J (Ah #[v0,v1,v2,v3,a4,a5,a6,a7,a8,a9] 36 (0,0)):=Lk _ g 3 _ _ v3 k2;have k4:(((((X.setCell ⟨g,0,Z⟩ v0).setCell ⟨g,1,Z⟩ v1).setCell ⟨g,2,Z⟩ v2).setCell ⟨g,3,Z⟩ v3).setCell ⟨g,4,Z⟩ v4).heap[g]?=J (Ah #[v0,v1,v2,v3,v4,a5,a6,a7,a8,a9] 36 (0,0)):=Lk _ g 4 _ _ v4 k3;have k5:((((((X.setCell ⟨g,0,Z⟩ v0).setCell ⟨g,1,Z⟩ v1).setCell ⟨g,2,Z⟩ v2).setCell ⟨g,3,Z⟩ v3).setCell ⟨g,4,Z⟩ v4).setCell ⟨g,5,Z⟩ v5).heap[g]?=J (Ah #[v0,v1,v2,v3,v4,v5,a6,a7,a8,a9] 36 (0,0)):=Lk _ g 5 _ _ v5 k4;have k6:(((((((X.setCell ⟨g,0,Z⟩ v0).setCell ⟨g,1,Z⟩ v1).setCell ⟨g,2,Z⟩ v2).setCell ⟨g,3,Z⟩ v3).setCell ⟨g,4,Z⟩ v4).setCell ⟨g,5,Z⟩ v5).setCell ⟨g,6,Z⟩ v6).heap[g]?=J (Ah #[v0,v1,v2,v3,v4,v5,v6,a7,a8,a9] 36 (0,0)):=Lk _ g 6 _ _ v6 k5
 have k7:((((((((X.setCell ⟨g,0,Z⟩ v0).setCell ⟨g,1,Z⟩ v1).setCell ⟨g,2,Z⟩ v2).setCell ⟨g,3,Z⟩ v3).setCell ⟨g,4,Z⟩ v4).setCell ⟨g,5,Z⟩ v5).setCell ⟨g,6,Z⟩ v6).setCell ⟨g,7,Z⟩ v7).heap[g]?=J (Ah #[v0,v1,v2,v3,v4,v5,v6,v7,a8,a9] 36 (0,0)):=Lk _ g 7 _ _ v7 k6;have k8:(((((((((X.setCell ⟨g,0,Z⟩ v0).setCell ⟨g,1,Z⟩ v1).setCell ⟨g,2,Z⟩ v2).setCell ⟨g,3,Z⟩ v3).setCell ⟨g,4,Z⟩ v4).setCell ⟨g,5,Z⟩ v5).setCell ⟨g,6,Z⟩ v6).setCell ⟨g,7,Z⟩ v7).setCell ⟨g,8,Z⟩ v8).heap[g]?=J (Ah #[v0,v1,v2,v3,v4,v5,v6,v7,v8,a9] 36 (0,0)):=Lk _ g 8 _ _ v8 k7;have k9:((((((((((X.setCell ⟨g,0,Z⟩ v0).setCell ⟨g,1,Z⟩ v1).setCell ⟨g,2,Z⟩ v2).setCell ⟨g,3,Z⟩ v3).setCell ⟨g,4,Z⟩ v4).setCell ⟨g,5,Z⟩ v5).setCell ⟨g,6,Z⟩ v6).setCell ⟨g,7,Z⟩ v7).setCell ⟨g,8,Z⟩ v8).setCell ⟨g,9,Z⟩ v9).heap[g]?=J (Ah #[v0,v1,v2,v3,v4,v5,v6,v7,v8,v9] 36 (0,0)):=Lk _ g 9 _ _ v9 k8;refine⟨k9,?_,?_,fun k hk=>?_,by simp⟩
 . refine Ls (p:=⟨g,9,Z⟩) ?_ h1 _
   refine Ls (p:=⟨g,8,Z⟩) ?_ h1 _;refine Ls (p:=⟨g,7,Z⟩) ?_ h1 _;refine Ls (p:=⟨g,6,Z⟩) ?_ h1 _;refine Ls (p:=⟨g,5,Z⟩) ?_ h1 _;refine Ls (p:=⟨g,4,Z⟩) ?_ h1 _;refine Ls (p:=⟨g,3,Z⟩) ?_ h1 _;refine Ls (p:=⟨g,2,Z⟩) ?_ h1 _;refine Ls (p:=⟨g,1,Z⟩) ?_ h1 _;refine Ls (p:=⟨g,0,Z⟩) ?_ h1 _;exact hB
 . refine Ls (p:=⟨g,9,Z⟩) ?_ (Lh _) _
   refine Ls (p:=⟨g,8,Z⟩) ?_ (Lh _) _;refine Ls (p:=⟨g,7,Z⟩) ?_ (Lh _) _;refine Ls (p:=⟨g,6,Z⟩) ?_ (Lh _) _;refine Ls (p:=⟨g,5,Z⟩) ?_ (Lh _) _;refine Ls (p:=⟨g,4,Z⟩) ?_ (Lh _) _;refine Ls (p:=⟨g,3,Z⟩) ?_ (Lh _) _;refine Ls (p:=⟨g,2,Z⟩) ?_ (Lh _) _;refine Ls (p:=⟨g,1,Z⟩) ?_ (Lh _) _;refine Ls (p:=⟨g,0,Z⟩) ?_ (Lh _) _;exact Lp _ _
 exact((Le _ ⟨g,9,Z⟩ v9 k hk).trans ((Le _ ⟨g,8,Z⟩ v8 k hk).trans ((Le _ ⟨g,7,Z⟩ v7 k hk).trans ((Le _ ⟨g,6,Z⟩ v6 k hk).trans ((Le _ ⟨g,5,Z⟩ v5 k hk).trans ((Le _ ⟨g,4,Z⟩ v4 k hk).trans ((Le _ ⟨g,3,Z⟩ v3 k hk).trans ((Le _ ⟨g,2,Z⟩ v2 k hk).trans ((Le _ ⟨g,1,Z⟩ v1 k hk).trans (Le _ ⟨g,0,Z⟩ v0 k hk))))))))))
theorem Q3{w X:Ba}{g B:Nat}{a0 a1 a2 a3 a4 a5 a6 a7:Au}(v:Vw)(hg:X.heap[g]?=J (Ah #[a0,a1,a2,a3,a4,a5,a6,a7] 100 (0,0)))(hB:Ao B w X)(h1:B<=g) :
  ((((((((X.setCell ⟨g,0,Z⟩ (O U v.p)).setCell ⟨g,1,Z⟩ (O U v.r)).setCell ⟨g,2,Z⟩ (O U v.i)).setCell ⟨g,3,Z⟩ (O U v.h0)).setCell ⟨g,4,Z⟩ (O U v.h1)).setCell ⟨g,5,Z⟩ (O U v.h2)).setCell ⟨g,6,Z⟩ (O U v.h3)).setCell ⟨g,7,Z⟩ (O U v.h4)).heap[g]?=J (Ah v.cells 100 (0,0))/\Ao B w ((((((((X.setCell ⟨g,0,Z⟩ (O U v.p)).setCell ⟨g,1,Z⟩ (O U v.r)).setCell ⟨g,2,Z⟩ (O U v.i)).setCell ⟨g,3,Z⟩ (O U v.h0)).setCell ⟨g,4,Z⟩ (O U v.h1)).setCell ⟨g,5,Z⟩ (O U v.h2)).setCell ⟨g,6,Z⟩ (O U v.h3)).setCell ⟨g,7,Z⟩ (O U v.h4)):=by
 have k0:(X.setCell ⟨g,0,Z⟩ (O U v.p)).heap[g]?=J (Ah #[O U v.p,a1,a2,a3,a4,a5,a6,a7] 100 (0,0)):=Lk _ g 0 _ _ _ hg;have k1:((X.setCell ⟨g,0,Z⟩ (O U v.p)).setCell ⟨g,1,Z⟩ (O U v.r)).heap[g]?=J (Ah #[O U v.p,O U v.r,a2,a3,a4,a5,a6,a7] 100 (0,0)):=Lk _ g 1 _ _ _ k0;have k2:(((X.setCell ⟨g,0,Z⟩ (O U v.p)).setCell ⟨g,1,Z⟩ (O U v.r)).setCell ⟨g,2,Z⟩ (O U v.i)).heap[g]?=J (Ah #[O U v.p,O U v.r,O U v.i,a3,a4,a5,a6,a7] 100 (0,0)):=Lk _ g 2 _ _ _ k1;have k3:((((X.setCell ⟨g,0,Z⟩ (O U v.p)).setCell ⟨g,1,Z⟩ (O U v.r)).setCell ⟨g,2,Z⟩ (O U v.i)).setCell ⟨g,3,Z⟩ (O U v.h0)).heap[g]?=J (Ah #[O U v.p,O U v.r,O U v.i,O U v.h0,a4,a5,a6,a7] 100 (0,0)):=Lk _ g 3 _ _ _ k2;have k4:(((((X.setCell ⟨g,0,Z⟩ (O U v.p)).setCell ⟨g,1,Z⟩ (O U v.r)).setCell ⟨g,2,Z⟩ (O U v.i)).setCell ⟨g,3,Z⟩ (O U v.h0)).setCell ⟨g,4,Z⟩ (O U v.h1)).heap[g]?=J (Ah #[O U v.p,O U v.r,O U v.i,O U v.h0,O U v.h1,a5,a6,a7] 100 (0,0)):=Lk _ g 4 _ _ _ k3
 have k5:((((((X.setCell ⟨g,0,Z⟩ (O U v.p)).setCell ⟨g,1,Z⟩ (O U v.r)).setCell ⟨g,2,Z⟩ (O U v.i)).setCell ⟨g,3,Z⟩ (O U v.h0)).setCell ⟨g,4,Z⟩ (O U v.h1)).setCell ⟨g,5,Z⟩ (O U v.h2)).heap[g]?=J (Ah #[O U v.p,O U v.r,O U v.i,O U v.h0,O U v.h1,O U v.h2,a6,a7] 100 (0,0)):=Lk _ g 5 _ _ _ k4;have k6:(((((((X.setCell ⟨g,0,Z⟩ (O U v.p)).setCell ⟨g,1,Z⟩ (O U v.r)).setCell ⟨g,2,Z⟩ (O U v.i)).setCell ⟨g,3,Z⟩ (O U v.h0)).setCell ⟨g,4,Z⟩ (O U v.h1)).setCell ⟨g,5,Z⟩ (O U v.h2)).setCell ⟨g,6,Z⟩ (O U v.h3)).heap[g]?=J (Ah #[O U v.p,O U v.r,O U v.i,O U v.h0,O U v.h1,O U v.h2,O U v.h3,a7] 100 (0,0)):=Lk _ g 6 _ _ _ k5;have k7:((((((((X.setCell ⟨g,0,Z⟩ (O U v.p)).setCell ⟨g,1,Z⟩ (O U v.r)).setCell ⟨g,2,Z⟩ (O U v.i)).setCell ⟨g,3,Z⟩ (O U v.h0)).setCell ⟨g,4,Z⟩ (O U v.h1)).setCell ⟨g,5,Z⟩ (O U v.h2)).setCell ⟨g,6,Z⟩ (O U v.h3)).setCell ⟨g,7,Z⟩ (O U v.h4)).heap[g]?=J (Ah #[O U v.p,O U v.r,O U v.i,O U v.h0,O U v.h1,O U v.h2,O U v.h3,O U v.h4] 100 (0,0)):=Lk _ g 7 _ _ _ k6;refine⟨k7,?_⟩;refine Ls (p:=⟨g,7,Z⟩) ?_ h1 _;refine Ls (p:=⟨g,6,Z⟩) ?_ h1 _;refine Ls (p:=⟨g,5,Z⟩) ?_ h1 _
 refine Ls (p:=⟨g,4,Z⟩) ?_ h1 _;refine Ls (p:=⟨g,3,Z⟩) ?_ h1 _;refine Ls (p:=⟨g,2,Z⟩) ?_ h1 _;refine Ls (p:=⟨g,1,Z⟩) ?_ h1 _;refine Ls (p:=⟨g,0,Z⟩) ?_ h1 _;exact hB
def WdsAt(bs D:Nat)(WR:Ba)(AW:Bb)(zi:List (List Rd)):Prop:=∀(i:Nat) (h:i<zi.length),∃g A c,AW=J ⟨g,0,Z⟩/\bs<g/\g<D/\WR.cell? ⟨g,i,Z⟩=J (I A zi[i].length c)/\RAtS (fun k=>bs<k/\k<D) WR A zi[i]/\zi[i].length<=c
theorem WdsAt.of{bs D:Nat}{w w':Ba}{v:Au}{zi:List (List Rd)}(h:OwnX cWd (fun b=>w.heap.size<=b) w' w.heap.size v zi)(hb:bs<w.heap.size)(hD:w'.heap.size=D) :
  ∃AW cw,v=I AW zi.length cw/\WdsAt bs D w' AW zi:=by
 obtain⟨A,cap,e,_,_,h3⟩:=h.form xH;refine⟨A,cap,e,fun i hi=>?_⟩;obtain⟨g,hA,hg,hl,hc⟩:=h3 (by omega);obtain⟨cs,⟨A2,c2,e2,hR,UD⟩,hu⟩:=hc i hi;subst e2;refine⟨g,A2,c2,hA,by omega,by omega,?_,hR.mono fun k hk hs=>⟨by have:=hs.1;omega,by omega⟩,UD⟩;have:=hu 0 _ rfl;simpa[cWd,kWd] using this
end
section
open Go.RowKit
attribute [local go_sem] Oper.semAt_some
theorem Z2(a:Ad)(hf:FewA a)(hz:zj a a.sts=0)(h1:1<=a.sts.length)(K L:Nat)(hK:K<=6)(hL:L<=1048576)(SV:Bb)(ks:Nat)(w:Ba)(hS:SAt w w.heap.size SV a.sts) :
  Ap An 122 #[Aj #[O U a.n,I SV a.sts.length ks],O U K,O U L] w fun e w'=>e=Am (O U ((yw L (zI a K 0):Nat):Int))/\Ao w.heap.size w w':=by
 have df:=hf.1;have iQ:=zH (fun l hl=>hf.each (l:=l) hl);have HZ:=zH (@xa a hz);go_enter func122,ntmps122;go_wp2_with fail;obtain⟨w1,ag⟩:=Kh (w.alloc (Ah #[O U a.n,I SV a.sts.length ks] 27));have aI:=zg w (Ah #[O U a.n,I SV a.sts.length ks] 27);have an:Ao w.heap.size w w1:=by rw[<-ag];exact zt w _
 have ch:w1.heap.size=w.heap.size+1:=by rw[<-ag];simp
 rw[ag] at aI ⊢;have bJ:=zH aI;have aY:=zH an;have HS:=zH ((hS.keep an).more (by omega:w.heap.size<=w1.heap.size))
 go_loopw [7,8] (fun v i wr=>∃s:Nat,s<=a.sts.length/\i=O U (s:Int)/\As (Own wr w1.heap.size v (cl a L 0 s))/\As (Ao w1.heap.size w1 wr)) (fun _ i _=>a.sts.length-(Aq i).toNat)
 case atStart=>exact⟨0,by omega,rfl,Own.nil _ _,Lp _ _⟩
 obtain⟨s,hs,rfl,HO,bC⟩:=hrel;have aP:=La bC.out bJ.out;have q1:=za aP 1 rfl
 by_cases ac:s<a.sts.length
 case pos=>
  have nv:=qT a L 0 s;have HR:As (cl a L 0 (s+1)=cl a L 0 s++[1]):=by rw[As,QM,show zI a 0 (s:Int)=1 from rfl,Qt];rfl
  go_wp2_with (at_builtin;go_must (refine kb rfl _ _ rfl w1.heap.size u7 _ (1:Int) rfl HO.out rfl (by omega) bC.out.size ?_);intro v' w2 bL ex aJ)
  go_roundw
  case rel=>exact⟨s+1,by omega,by go_num,by rw[HR.out];exact bL,bC.out.trans aJ⟩
  simp[Aq];omega
 case neg=>
 obtain rfl:s=a.sts.length:=by omega
 go_wp2_with fail
 go_loopw [7,9] (fun v i wr=>∃k:Nat,k<=K/\i=O U (k:Int)/\As (Own wr w1.heap.size v (cl a L k a.sts.length))/\As (Ao w1.heap.size w1 wr)) (fun _ i _=>K-(Aq i).toNat)
 case atStart=>exact⟨0,by omega,rfl,HO,bC⟩
 obtain⟨k,hk,rfl,HO,bC⟩:=hrel
 by_cases MF:k<K
 case neg=>
  obtain rfl:k=K:=by omega
  obtain⟨A,cap,hv,dr,iw,hI⟩:=HO.out.form;subst hv;have nv:=qT a L k a.sts.length;obtain⟨b,o,rfl,dH,hc⟩:=hI (by omega);have c0:=hc 0 (by omega);rw[wI] at c0;rw[nv] at dr;rw[show((0:Nat):Int)=0 from rfl,Pp] at c0;obtain⟨r,hr⟩:=Kh (yw L (zI a k 0));rw[hr] at c0;have Vy:=zH hr;go_wp2_with fail;go_ret;exact⟨zc (by rw[Vy.out]),aY.out.trans (bC.out.mono (by omega))⟩
 case pos=>
 obtain⟨A,cap,hv,dr,iw,hI⟩:=HO.out.form;subst hv;have nv:=qT a L k a.sts.length;obtain⟨b0,o0,e0,Cy,hc⟩:=hI (by omega);subst e0;rw[nv] at dr;obtain⟨W2,dx⟩:=Kh wr
 have Sd:As (∀X,Ao W2.heap.size W2 X->∀j:Nat,j<a.sts.length->X.cell? ⟨b0,o0+j,Z⟩=J (O U ((yw L (zI a k (j:Int)):Nat):Int))):=fun X hX j hj=>by
  rw[<-dx] at hX;have:=hc j (by omega);rw[wI] at this;exact(hX.cell (p:=⟨b0,_,Z⟩) Cy).trans this
 rw[dx] at HO bC Cy ⊢;have Eh:=bC.out.size;go_wp2_with fail;simp only[nv]
 go_loopw [10,11] (fun v i wx=>∃s:Nat,s<=a.sts.length/\i=O U (s:Int)/\As (Own wx W2.heap.size v (cl a L (k+1) s))/\As (Ao W2.heap.size W2 wx)) (fun _ i _=>a.sts.length-(Aq i).toNat)
 case atStart=>exact⟨0,by omega,rfl,Own.nil _ _,Lp _ _⟩
 obtain⟨s,hs,rfl,HP,aL⟩:=hrel;have b9:=zH (bC.out.trans (aL.out.mono Eh));have aP:=La b9.out bJ.out;have q1:=za aP 1 rfl
 by_cases fD:s<a.sts.length
 case neg=>
  obtain rfl:s=a.sts.length:=by omega
  go_wp2_with fail
  go_roundw
  case rel=>exact⟨k+1,by omega,by go_num,HP.out.low Eh,b9⟩
  simp[Aq];omega
 case pos=>
 obtain⟨b,o,A',k',e',dH,c1,hM⟩:=(HS.out.keep b9.out).at_ s fD;subst e';have dk:=iQ.out _ (Ld fD);have Eg:=Jb a k fD;have Dw:As (∀m∈a.sts[s],m∈a.mvs):=fun m hm=>Nr.2 ⟨_,Ld fD,hm⟩
 have ma:=zH hM;obtain⟨M,UG⟩:=Kh (a.sts[s]);rw[UG] at c1 dk Dw Eg ma;have rk:=zH Eg;have fL:=qT a L (k+1) s;go_wp2_with fail
 go_loop [12,13] (fun n i=>∃j:Nat,j<=M.length/\i=O U (j:Int)/\n=O U ((yw L (qz a k M j):Nat):Int)) (fun _ i=>M.length-(Aq i).toNat)
 case atStart=>exact⟨0,by omega,rfl,by rw[YZ,ZY];rfl⟩
 obtain⟨j,hj,rfl,rfl⟩:=hrel
 by_cases bg:j<M.length
 case neg=>
  obtain rfl:j=M.length:=by omega
  have HR:As (cl a L (k+1) (s+1)=cl a L (k+1) s++[((yw L (qz a k M M.length):Nat):Int)]):=by rw[As,QM,rk.out]
  obtain⟨r,hr⟩:=Kh (yw L (qz a k M M.length));rw[hr] at HR ⊢;go_wp2_with (at_builtin;go_must (refine kb rfl _ _ rfl W2.heap.size u10 _ (r:Int) rfl HP.out rfl (by omega) aL.out.size ?_);intro v' w3 bL ex aJ)
  go_roundw
  case rel=>exact⟨s+1,by omega,by go_num,by rw[HR.out];exact bL,aL.out.trans aJ⟩
  simp[Aq];omega
 case pos=>
 obtain⟨b2,o2,e2,aO,_,_,_,_,_,_,_,d7⟩:=ma.out.row j bg;subst e2;obtain⟨_,_,z3,z4⟩:=HZ.out _ (Dw.out _ (Ld bg));have tH:=Y0 a k M bg;obtain⟨t,et⟩:=Lr z3;rw[et] at d7 tH z4;have iY:t<a.sts.length:=by omega
 have u0:=Sd.out _ aL.out t iY;have y1:=j7 L (qz a k M j);have y2:=j7 L (zI a k (t:Int));have y3:=Qv L (qz a k M j) (zI a k (t:Int));rw[<-tH] at y3;obtain⟨n1,fE⟩:=Kh (yw L (qz a k M j));obtain⟨n2,se⟩:=Kh (yw L (zI a k (t:Int)));rw[fE] at y1 y3 ⊢;rw[se] at y2 y3 u0;have iI:=zH y3;go_wp2_with fail
 go_round
 case rel => 
  refine⟨j+1,by omega,by go_num,?_⟩;rw[<-iI.out];exact congrArg (O U) (by first | (split<;>omega) | omega)
 simp[Aq];omega
theorem gC(p:Pb)(hf:ZI p)(hz:zj p.a p.a.sts=0)(h1:1<=p.a.sts.length)(K L:Nat)(hk:p.k=(K:Int))(hK:K<=6)(hL:L<=1048576)(A:Bb)(kc:Nat)(SV:Bb)(ks:Nat)(w:Ba)(hS:SAt w w.heap.size SV p.a.sts) :
  Ap An 94 #[.agg (p.vs A kc SV ks),O U L] w fun e w'=>e=Am (O U ((p.t.cases.length*yw L (zI p.a K 0):Nat):Int))/\Ao w.heap.size w w':=by
 have lB:=hf.1.1;have HN:=zH (fun (w':Ba) (h:SAt w' w'.heap.size SV p.a.sts)=>Z2 p.a hf.2 hz h1 K L hK hL SV ks w' h);have oC:=j7 L (zI p.a K 0);obtain⟨r,hr⟩:=Kh (yw L (zI p.a K 0));rw[hr] at HN oC ⊢;unfold Pb.vs;rw[hk];obtain⟨w1,ag⟩:=Kh (w.alloc (Ah (p.vs A kc SV ks) 29));have aI:=zg w (Ah (p.vs A kc SV ks) 29);have an:Ao w.heap.size w w1:=by rw[<-ag];exact zt w _
 rw[ag] at aI;unfold Pb.vs at ag aI;rw[hk] at ag aI;have ch:w1.heap.size=w.heap.size+1:=by rw[<-ag];simp
 have aY:=zH an;have HS:=zH ((hS.keep an).more (by omega:w.heap.size<=w1.heap.size));have al:=zH ag;have q3:=za aI 3 rfl;have q4:=za aI 4 rfl;have q5:=za aI 5 rfl;have q6:=za aI 6 rfl;obtain⟨cn,nC⟩:=Kh p.t.cases.length;rw[nC] at al q3 lB ⊢;have hm:cn*r<=30*1048577:=NZ lB (by omega);have hw:IntKind.i64.wrap ((cn:Int)*(r:Int))=((cn*r:Nat):Int):=by rw[Ly,<-Int.natCast_mul];omega
 go_enter func94,ntmps94;go_wp2_with fail;rw[al.out];have iW:w.heap.size<w1.heap.size:=by omega
 have ru:As (∀X,Ao w1.heap.size w1 X->X.cell? ⟨w.heap.size,3,Z⟩=J (I A cn kc)/\X.cell? ⟨w.heap.size,4,Z⟩=J (O U p.a.n)/\X.cell? ⟨w.heap.size,5,Z⟩=J (I SV p.a.sts.length ks)/\X.cell? ⟨w.heap.size,6,Z⟩=J (O U K)):=fun X hX=>
  ⟨(hX.cell (p:=⟨_,_,Z⟩) iW).trans q3,(hX.cell (p:=⟨_,_,Z⟩) iW).trans q4,(hX.cell (p:=⟨_,_,Z⟩) iW).trans q5,(hX.cell (p:=⟨_,_,Z⟩) iW).trans q6⟩
 have Vt:As (∀X,Ao w1.heap.size w1 X->SAt X X.heap.size SV p.a.sts):=fun X hX=>(HS.out.keep hX).more hX.size
 go_region_held3 (fun w'=>w'.cell? ⟨w.heap.size,3,Z⟩=J (I A cn kc)/\w'.cell? ⟨w.heap.size,4,Z⟩=J (O U p.a.n)/\w'.cell? ⟨w.heap.size,5,Z⟩=J (I SV p.a.sts.length ks)/\w'.cell? ⟨w.heap.size,6,Z⟩=J (O U K))
  (first | exact⟨q3,q4,q5,q6⟩ | exact ru.out _ (vx ap) | exact ru.out _ ap)
  ((go_at_call 122;refine(HN.out _ (Vt.out _ (by repeat (first | exact Lp _ _ | refine Below.drew ?_ | refine zu ?_ _)))).mono ?_;rintro e w3 ⟨rfl,ap⟩))
 have ld:=zH (aY.out.trans ((vx ap).mono (by have:w1.drew.heap.size=w1.heap.size:=rfl;omega)));go_wp2_with fail;go_ret;exact⟨zc (by first | rfl | rw[hw]),ld.out⟩
def ge(p:Pb):Nat:=p.t.cases.length*yw 4096 (zI p.a p.k.toNat 0)
def wD(a:Ad):Bool:=decide (a.sts.length<=8)&&decide (a.mvs.length<=40)
def xp(p:Pb):Bool:=kp p.t&&wD p.a&&!(decide (3<p.t.n)&&decide (p.t.n<=5))&&(decide (zz p≠0)||(decide (ge p<=60)||decide (4096<ge p)))
theorem fewPB_t{p:Pb}(h:kp p.t=Ax):xp p=Ax:=by unfold xp;rw[h];rfl
theorem fewPB_a{p:Pb}(h:wD p.a=Ax):xp p=Ax:=by unfold xp;rw[h];simp
theorem fewPB_n{p:Pb}(h:3<p.t.n)(h2:p.t.n<=5):xp p=Ax:=by unfold xp;rw[Lm h,Lm h2];simp
theorem fewPB_e{p:Pb}(h:kp p.t=Av)(h1:wD p.a=Av)(h2:¬(3<p.t.n/\p.t.n<=5))(h3:zz p≠0):xp p=Av:=by
 unfold xp;have e:(decide (3<p.t.n)&&decide (p.t.n<=5))=Ax:=by simpa[Bool.and_eq_false_imp] using fun x=>by omega
 rw[h,h1,e,Lm h3];rfl
theorem fewPB_m{p:Pb}(h:kp p.t=Av)(h1:wD p.a=Av)(h2:¬(3<p.t.n/\p.t.n<=5))(h3:zz p=0):xp p=(decide (ge p<=60)||decide (4096<ge p)):=by
 unfold xp;have e:(decide (3<p.t.n)&&decide (p.t.n<=5))=Ax:=by simpa[Bool.and_eq_false_imp] using fun x=>by omega
 rw[h,h1,e,h3];simp
theorem gT{a:Ad}:wD a=Av↔FewA a:=by unfold wD FewA;simp
theorem num_exec{p:Pb}(h:zz p=0):(ge p<=60\/4096<ge p)->(zA p<=60\/4096<zA p):=by
 obtain⟨ep,_⟩:=zK h;obtain⟨h1,_⟩:=yn ep;intro hn;have e:zA p=p.t.cases.length*zI p.a p.k.toNat 0:=by unfold zA;rw[N2]
 have hm:=Qu 4096 p.t.cases.length (zI p.a p.k.toNat 0) h1;rw[e];rcases hn with hn | hn
 . left
   unfold ge at hn;have dr:yw 4096 (zI p.a p.k.toNat 0)<=60:=Lz (Nat.le_mul_of_pos_left _ h1) hn;have hx:zI p.a p.k.toNat 0<=4096:=by unfold yw at dr;omega
   rwa[sat_eq hx] at hn
 right;exact hm.1 hn
theorem few_x{p:Pb}(h:xp p=Av):qn p/\¬(3<p.t.n/\p.t.n<=5):=by
 unfold xp at h;simp only[Bool.and_eq_true,Bool.not_eq_true',Bool.or_eq_true,decide_eq_true_eq] at h;obtain⟨⟨⟨h1,h2⟩,h3⟩,h4⟩:=h;refine⟨⟨⟨YA.1 h1,gT.1 h2⟩,fun h0=>?_⟩,fun hn=>?_⟩
 . rcases h4 with h4 | h4
   . exact absurd h0 h4
   exact num_exec h0 h4
 rw[Lm hn.1,Lm hn.2] at h3
 cases h3
theorem few_any(p:Pb)(hl:wV p)(A:Bb)(kc:Nat)(SV:Bb)(ks:Nat)(w:Ba)(hA:CAt w w.heap.size A p.t.cases)(hS:SAt w w.heap.size SV p.a.sts) :
  Ap An 55 #[.agg (p.vs A kc SV ks)] w fun e w'=>e=Am (Ai (xp p))/\Ao w.heap.size w w':=by
 have HT:=zH (fun (w':Ba) (h:CAt w' w'.heap.size A p.t.cases)=>Jm p.t A kc hl.1.1 hl.1.2 w' h);have HD:=zH (fun (w':Ba) (h:SAt w' w'.heap.size SV p.a.sts)=>Jn p.a SV ks hl.2.1 hl.2.2 w' h);have HC:=zH (fun (hf:ZI p) (w':Ba) (h1:CAt w' w'.heap.size A p.t.cases) (h2:SAt w' w'.heap.size SV p.a.sts)=>vP p hf A kc SV ks w' h1 h2);have ay:=zH (@fewPB_t p);have am:=zH (@fewPB_a p);have az:=zH (@fewPB_n p);have cz:=zH (@fewPB_e p);have eR:=zH (@fewPB_m p);obtain⟨R,Ok⟩:=Kh (xp p);rw[Ok] at ay am az cz eR ⊢;obtain⟨w1,ag⟩:=Kh (w.alloc (Ah (p.vs A kc SV ks) 29));have aI:=zg w (Ah (p.vs A kc SV ks) 29);have an:Ao w.heap.size w w1:=by rw[<-ag];exact zt w _
 have ch:w1.heap.size=w.heap.size+1:=by rw[<-ag];simp
 rw[ag] at aI
 have HN:=zH (fun (w':Ba) (hf:ZI p) (h0:zz p=0) (h:SAt w' w'.heap.size SV p.a.sts)=>
  gC p hf (yj hf.2 (zK h0).2.1).1 (yj hf.2 (zK h0).2.1).2.1 p.k.toNat 4096 (by have:=(zK h0).2.2.2.1;omega) (by have:=(zK h0).2.2.2.2;omega) (by decide) A kc SV ks w' h)
 unfold Pb.vs at ag aI ⊢;have bJ:=zH aI;have aY:=zH an;have HA:=zH ((hA.keep an).more (by omega:w.heap.size<=w1.heap.size));have HS:=zH ((hS.keep an).more (by omega:w.heap.size<=w1.heap.size));have al:=zH ag;obtain⟨q0,q1,q2,q3,_⟩:=Kb aI;clear hA hS ag an aI hl Ok;obtain⟨bT,GT⟩:=Kh (kp p.t);obtain⟨bA,ED⟩:=Kh (wD p.a);have Sg:As ((decide (p.a.sts.length<=8)&&decide (p.a.mvs.length<=40))=bA):=ED;rw[GT] at HT ay cz eR;rw[ED] at am cz eR;have rq:=zH GT;have ph:=zH ED;clear GT ED;go_enter func55,ntmps55;go_wp2_with fail;rw[al.out];go_wp2_with fail;refine(HT.out w1 HA.out).mono ?_;rintro e w2 ⟨rfl,ae⟩;have B2:=zH (aY.out.trans (ae.mono (by omega)));have dc:=zH ((HS.out.keep ae).more ae.size);have Fo:=zH ((HA.out.keep ae).more ae.size);have aP:=La ae bJ.out;have aU:=zH aP;have dq:=ae.size;have q4:=za aP 4 rfl;have q5:=za aP 5 rfl;clear ae aP HT al q0 q1 q2 q3
 cases bT with
 | false=>
  have hR:=zH (ay.out rfl);clear ay am az cz eR HD;go_wp2_with fail;go_ret;exact⟨ze hR.out.symm,B2.out⟩
 | true=>
 clear ay;go_wp2_with fail;refine(HD.out w2 dc.out).mono ?_;rw[Sg.out];rintro e w3 ⟨rfl,ap⟩;have B3:=zH (B2.out.trans (ap.mono (by omega)));have dz:=zH ((dc.out.keep ap).more ap.size);have Fn:=zH ((Fo.out.keep ap).more ap.size);have aP:=La ap aU.out;have bE:=zH aP;have fj:=ap.size;obtain⟨q0,q1,q2,q3,q4,q5,q6,_⟩:=Kf aP;clear ap aP HD
 cases bA with
 | false=>
  have hR:=zH (am.out rfl);clear am az cz eR;go_wp2_with fail;go_ret;exact⟨ze hR.out.symm,B3.out⟩
 | true=>
 clear am;have R9:As (ZI p):=⟨YA.1 rq.out,gT.1 ph.out⟩;have F4:=zH (cz.out (by simp) (by simp));have F5:=zH (eR.out (by simp) (by simp));clear cz eR rq ph Sg
 by_cases h3:3<p.t.n/\p.t.n<=5
 case pos=>
  have hR:=zH (az.out h3.1 h3.2);obtain⟨ER,Ht⟩:=h3;clear az F4 F5;go_wp2_with fail
  all_goals first | (exfalso;omega) | skip
  all_goals
   go_ret;exact⟨ze hR.out.symm,B3.out⟩
 case neg=>
 have G4:=zH (F4.out h3);have G5:=zH (F5.out h3);clear az F4 F5;obtain⟨E,hE⟩:=Kh (zz p);rw[hE] at HC G4 G5;have nK:=zH hE;clear hE;obtain⟨M,hM⟩:=Kh (p.t.cases.length*yw 4096 (zI p.a p.k.toNat 0));have ma:As (ge p=M):=hM;rw[hM] at HN;clear hM;have UU:¬(3<p.t.n)\/(3<p.t.n/\¬p.t.n<=5):=by omega
 clear h3;rcases UU with ER | ⟨ER,Ht⟩
 all_goals
  go_wp2_with fail
  all_goals first | (exfalso;omega) | skip
  refine(HC.out R9.out w3 Fn.out dz.out).mono ?_;rintro e w4 ⟨rfl,be⟩;have B4:=zH (B3.out.trans (be.mono (by omega)));have l8:=zH ((dz.out.keep be).more be.size);have aP:=La be bE.out;have fK:=be.size;obtain⟨q0,q1,q2,q3,q4,q5,q6,_⟩:=Kf aP;clear be aP HC
  by_cases h0:E=0
  case neg=>
   have hR:=zH (G4.out h0);have e0:(E != 0)=Av:=by simpa using h0
   clear G4 G5 h0 HN;go_wp2_with fail;go_ret;exact⟨ze hR.out.symm,B4.out⟩
  case pos=>
   subst h0;have hR:=zH (G5.out rfl);rw[ma.out] at hR;clear G4 G5;go_wp2_with fail;refine(HN.out w4 R9.out nK.out l8.out).mono ?_;rintro e w5 ⟨rfl,bZ⟩;have B5:=zH (B4.out.trans (bZ.mono (by omega)));clear bZ HN ma q0 q1 q2 q3 q4 q5 q6
   by_cases hm:M<=60
   . have fw:As (R=Av):=hR.out.trans (by rw[Lm hm];rfl)
     clear hR;go_wp2_with fail
     all_goals first | (exfalso;omega) | skip
     go_ret;exact⟨ze fw.out.symm,B5.out⟩
   . have fw:As (R=decide (4096<M)):=hR.out.trans (by rw[Ll hm];rfl)
     clear hR;go_wp2_with fail
     all_goals first | (exfalso;omega) | skip
     go_ret;exact⟨ze (by rw[fw.out,Ll (show ¬((M:Int)<=60) by omega),Bool.false_or];exact ZF (by omega)),B5.out⟩
def yQ(s:Sy):Int:=if (zD s.p).2≠0 then (zD s.p).2 else if s=(zD s.p).1 then 0 else 3
theorem Zk(p:Pb)(h:zz p=0)(da:zA p<=60):(zn p (zl p)).1.length<=2100/\(zn p (zl p)).2.length<=60:=by
 obtain⟨ep,_,_,cK,mA⟩:=zK h;obtain⟨h1,fE,nu⟩:=yn ep
 have hl:p.t.cases.length*(zo p.a p.k.toNat 0).length<=60:=by
  rw[yc];unfold zA at da;rw[N2];exact da
 rw[QE p];refine⟨uK p _ (by omega) (fun w hw=>?_) _ hl,?_⟩
 . rw[yK p.a _ 0 w hw];omega
 rw[xL,Zs];exact hl
theorem runW_mem(p:Pb)(l:List (Nat×List Rd)):∀x∈(zn p l).2,∃y∈l,∃vs,x=⟨y.1,y.2,(zk vs p.t.n.toNat (yA p y.1) y.2 y.2.length).2⟩:=by
 have key:∀n,n<=l.length->∀x∈(zn p (l.take n)).2,∃y∈l,∃vs,x=⟨y.1,y.2,(zk vs p.t.n.toNat (yA p y.1) y.2 y.2.length).2⟩:=by
  intro n
  induction n with
  | zero=>intro _ x hx;simp[jF] at hx
  | succ n ih=>
   intro hl x hx;rw[Lu (by omega),xY] at hx;rcases LR.1 hx with hx | hx
   . exact ih (by omega) x hx
   . rw[NK] at hx
     exact⟨l[n],Ld _,_,hx⟩
 have:=key l.length (Lh _);rwa[LJ] at this
theorem ZJ:LowS xS:=⟨⟨⟨by decide,fun c h=>by simp[xS] at h⟩,by decide,fun c h=>by simp[xS] at h⟩,by decide,by decide,fun c h=>by simp[xS] at h⟩
theorem qL{p:Pb}(hp:wV p)(hf:qn p):LowS (zD p).1:=by
 by_cases h0:zz p=0
 case neg=>rw[xg h0];exact ZJ
 case pos=>
 rcases hf.2 h0 with da | da
 case inr=>rw[yP h0 da];exact ZJ
 case inl=>
 rw[xI h0 (by omega)];obtain⟨r1,r2⟩:=Zk p h0 da;obtain⟨ep,_,_,cK,mA⟩:=zK h0;obtain⟨h1,fE,nu⟩:=yn ep;refine⟨hp,by show(zn p (zl p)).1.length<=_;omega,by show(zn p (zl p)).2.length<=_;omega,fun x hx=>?_⟩;obtain⟨y,hy,vs,rfl⟩:=runW_mem p (zl p) x hx
 have cu:y.2.length<=6:=by
  unfold zl at hy;obtain⟨d,_,hy⟩:=Ns.1 hy;obtain⟨w',dR,rfl⟩:=LG.1 hy;show w'.length<=6;rw[yK p.a _ 0 w' dR];omega
 refine⟨by show y.2.length<=_;omega,?_,fun v hv=>?_⟩
 . show(zk vs p.t.n.toNat (yA p y.1) y.2 y.2.length).2.length<=_
   rw[zW];omega
 rw[qe _ _ _ _ _ v hv];omega
theorem ur(s:Sy)(hs:LowS s)(hf:qn s.p)(A SV AV AX:Bb)(kc ks kv kx:Nat)(w:Ba)(hS:SyAt w w.heap.size A SV AV AX s) :
  Ap An 17 #[.agg (s.vs_ A kc SV ks AV kv AX kx)] w fun e w'=>e=Am (O U (yQ s))/\Ao w.heap.size w w':=by
 obtain⟨w1,ag⟩:=Kh (w.alloc (Ah (s.vs_ A kc SV ks AV kv AX kx) 36));have aI:=zg w (Ah (s.vs_ A kc SV ks AV kv AX kx) 36);have an:Ao w.heap.size w w1:=by rw[<-ag];exact zt w _
 have ch:w1.heap.size=w.heap.size+1:=by rw[<-ag];simp
 rw[ag] at aI;have fA:=zH (hS.up an);have HB:=zH (Zb s.p hf A kc SV ks w1 (hS.up an).fc (hS.up an).fs);have mZ:=zH (qL hs.fp hf);have mY:=zH hs;have iK:As (yQ s=if (zD s.p).2≠0 then (zD s.p).2 else if s=(zD s.p).1 then 0 else 3):=rfl
 have bu:=zH (fun (h:(zD s.p).2=0)=>(by
  by_cases h0:zz s.p=0
  case neg=>rw[xg h0] at h;exact absurd h h0
  case pos=>
   by_cases h1:4096<zA s.p
   . rw[yP h0 h1] at h;cases h
   . rw[xI h0 (by omega)];exact⟨rfl,rfl⟩:(zD s.p).1.p=s.p/\(zD s.p).1.n=s.p.t.n))
 unfold Sy.vs_ at ag aI ⊢;unfold Pb.vs at HB;have al:=zH ag;have bJ:=zH aI;have aY:=zH an;have p6:=za aI 6 rfl;obtain⟨R,hR⟩:=Kh (zD s.p);rw[hR] at HB mZ iK bu;obtain⟨r,hr⟩:=Kh (yQ s);rw[hr] at iK ⊢;clear ag aI an hS hs hf hR hr;go_enter func17,ntmps17;go_wp2_with fail;rw[al.out];go_wp2_with fail;refine HB.out.mono ?_;rintro e w2 ⟨A2,dD,db,dC,py,oe,px,od,rfl,iD,fi,fH,ae⟩;obtain⟨T,E⟩:=R;obtain⟨W3,bU,b3,fj,aW⟩:=zq w2 (T.vs_ A2 dD db dC py oe px od) 36;have dz:=zH (iD.up aW);have bE:=zH (aY.out.trans ((Lc ae aW).mono (by omega)));have dq:=ae.size;have d0:=Lb aW (by omega:w.heap.size<w2.heap.size) (Lb ae (by omega:w.heap.size<w1.heap.size) bJ.out);have pg:=zH ((fA.out.up ae).up aW);unfold Sy.vs_ at bU b3 ⊢;have ez:=zH bU;have bn:=zH d0;have lL:=zH b3;clear ae iD fi fH aW bU HB al p6 fA bJ;dsimp only at iK bu mZ dz;go_simp;rename_i eN;refine eN _ _ ?_;clear eN;refine LM rfl fun K5 aX=>?_
 go_simp;refine aX _ _ ?_;clear aX K5;refine LM rfl fun K5 aX=>?_
 go_simp;refine aX _ _ ?_;clear aX K5;refine LM rfl fun K5 aX=>?_
 go_simp;refine aX _ _ ?_;clear aX K5;refine LM rfl fun K5 aX=>?_
 go_simp;refine aX _ _ ?_;clear aX K5;refine LM rfl fun K5 aX=>?_
 go_simp;rw[ez.out];refine aX _ _ ?_
 by_cases h0:E=0
 case neg=>
  have e0:(E != 0)=Av:=by simpa using h0
  have hR:As (r=E):=iK.out.trans (Ln h0);clear iK bu h0 d0 b3;go_wp2_with fail;go_ret;exact⟨zc hR.out.symm,bE.out⟩
 case pos=>
 subst h0;obtain⟨pY,Hd⟩:=bu.out rfl;have sI:r=if s=T then 0 else 3:=iK.out.trans (Lj (by simp));have H3:As (s≠T->r=3):=fun h=>sI.trans (Lj h)
 have H0:As (s=T->r=0):=fun h=>sI.trans (Ln h)
 have ID:=zH pY;have rC:=zH (@sy_eq s T);have x7:W3.cell? ⟨w.heap.size,7,Z⟩=J (O U s.n):=za d0 7 rfl;have x8:W3.cell? ⟨w.heap.size,8,Z⟩=J (I AV s.vs.length kv):=za d0 8 rfl;have y7:W3.cell? ⟨w2.heap.size,7,Z⟩=J (O U T.n):=za b3 7 rfl;have y8:W3.cell? ⟨w2.heap.size,8,Z⟩=J (I py T.vs.length oe):=za b3 8 rfl;have mS:=zH (eqV_any AV py kv oe s.vs T.vs W3 W3.heap.size (Lh _) pg.out.fv dz.out.fv mY.out.fv mZ.out.fv);have pf:=zH (fun n=>eqX_any AX px kx od s.xs T.xs (W3.drewN n) pg.out.fx dz.out.fx (Lz mY.out.fx (by decide)) (Lz mZ.out.fx (by decide)) mY.out.fe mZ.out.fe);clear pY Hd sI iK bu d0 b3 mZ mY
 by_cases h1:s.n=T.n
 case neg=>
  have hR:=zH (H3.out (fun h=>h1 (congrArg Sy.n h)));have e0:(s.n != T.n)=Av:=by simpa using h1
  clear H3 H0 h1 mS pf rC;go_wp2_with fail
  all_goals
   go_ret;exact⟨zc hR.out.symm,bE.out⟩
 case pos=>
 have e0:(s.n != T.n)=Ax:=by simpa using h1
 have ti:=zH h1;go_wp2_with fail;refine mS.out.mono ?_;rintro e w4 ⟨rfl,n,rfl⟩;have x9:(W3.drewN n).cell? ⟨w.heap.size,9,Z⟩=J (I AX s.xs.length kx):=za bn.out 9 rfl;have y9:(W3.drewN n).cell? ⟨w2.heap.size,9,Z⟩=J (I px T.xs.length od):=za lL.out 9 rfl
 by_cases h2:s.vs=T.vs
 case neg=>
  have hR:=zH (H3.out (fun h=>h2 (congrArg Sy.vs h)));rw[Ll h2];go_wp2_with fail
  all_goals
   go_ret;exact⟨zc hR.out.symm,zu bE.out n⟩
 case pos=>
 rw[Lm h2];have ta:=zH h2;go_wp2_with fail;refine(pf.out n).mono ?_;rintro e w5 ⟨rfl,bZ⟩;have B5:=zH (bE.out.trans ((zu (Lp W3.heap.size W3) n).trans bZ |>.mono (by omega)))
 by_cases h3:s.xs=T.xs
 case neg=>
  have hR:=zH (H3.out (fun h=>h3 (congrArg Sy.xs h)));rw[Ll h3];go_wp2_with fail
  all_goals
   go_ret;exact⟨zc hR.out.symm,B5.out⟩
 have hR:=zH (H0.out (rC.out ID.out.symm ⟨ti.out,ta.out⟩ h3));rw[Lm h3];go_wp2_with fail
 all_goals
  go_ret;exact⟨zc hR.out.symm,B5.out⟩
end
section
open Go.RowKit Go.Shelf
attribute [local go_sem] Oper.semAt_some
def RetBt(p:Pb)(A:Bb)(kc:Nat)(SV:Bb)(ks:Nat)(w:Ba)(e:Ending)(w':Ba):Prop:=
 ∃AV kv AE ke,e=Am (Aj #[O U p.t.n,O U p.t.ins,O U p.t.outs,I A p.t.cases.length kc,O U p.a.n,I SV p.a.sts.length ks,O U p.k,O U p.t.n,.slice AV (zn p (zl p)).1.length kv,.slice AE (zn p (zl p)).2.length ke]) /\
  OwnV w' w.heap.size (.slice AV (zn p (zl p)).1.length kv) (zn p (zl p)).1/\OwnX ZG (fun k=>w.heap.size<=k) w' w.heap.size (.slice AE (zn p (zl p)).2.length ke) (zn p (zl p)).2/\Ao w.heap.size w w'
theorem J6(p:Pb)(hf:qn p)(fq:zz p=0)(da:zA p<=60)(A:Bb)(kc:Nat)(SV:Bb)(ks:Nat)(w:Ba)(hA:CAt w w.heap.size A p.t.cases)(hS:SAt w w.heap.size SV p.a.sts) :
  Ap An 95 #[.agg (p.vs A kc SV ks)] w (RetBt p A kc SV ks w):=by
 obtain⟨ep,ip,ln,mv,rW⟩:=zK fq;obtain⟨K,hK⟩:=Lr mv;obtain⟨lA,fE,nu⟩:=yn ep;have CR:K<=6:=by omega
 have ly:zA p=zI p.a K 0*p.t.cases.length:=by unfold zA;rw[hK];rfl
 have sy:zI p.a K 0<=60:=by
  have:=Pk (zI p.a K 0) lA;omega
 obtain⟨hz,bq⟩:zj p.a p.a.sts=0/\1<=p.a.sts.length:=⟨(yj hf.1.2 ip).1,(yj hf.1.2 ip).2.1⟩;obtain⟨N,hN⟩:=Lr (show 0<=p.t.n by omega);have fg:=zH hf;have ph:=zH ip;have AH:=zH ln;have IF:=zH (ZR ep);obtain⟨w1,ag,d0,d1,d2,aZ,hBw⟩:=xD w (p.vs A kc SV ks) #[O U 0,O U 0,O U 0,I Z 0 0,O U 0,I Z 0 0,O U 0,O U 0,I Z 0 0,I Z 0 0] #[O U p.t.n,O U p.t.ins,O U p.t.outs,I A p.t.cases.length kc,O U p.a.n,I SV p.a.sts.length ks,O U p.k,O U p.t.n,I Z 0 0,I Z 0 0] 29 36 36;have AA:=gR p.a SV ks hz hf.1.2 K CR 0 w1 (by by_cases h:K=0;exact .inl h;exact .inr ⟨by omega,by omega⟩) (by rw[yc];omega) ((hS.keep hBw).more hBw.size);have pq:=zH AA;have HA:=zH hA;have HS:=zH hS;have bh:=zH hBw;have bn:=zH d0;have bN:=zH d1;have ij:=zH d2;have al:=zH ag;have rx:=zH hK;have fd:=zH hN;have DL:=zH ly;have Sk:=zH da;have Sd:=zH lA;have UE:1<=N/\N<=5:=by omega
 clear ag d0 d1 d2 hBw hA hS hf hK hN ly da fq ep ip ln mv rW fE nu hz bq AA lA;unfold Pb.vs at al bn ⊢;go_enter func95,ntmps95;go_wp2_with fail;rw[al.out];have AA:=pq.out;unfold qN at pq;rw[<-rx.out] at AA;refine AA.mono ?_;rintro e wr ⟨v,rfl,hW,hb⟩;have b9:=bh.out.size;obtain⟨zi,dW⟩:=Kh (zo p.a K 0);rw[dW] at hW;obtain⟨AW,cw,rfl,N'⟩:=WdsAt.of (bs:=w.heap.size+1+1) hW (by omega) rfl;obtain⟨SC,sK⟩:∃SC:Au->Au->Array Au,SC=fun V E=>#[O U p.t.n,O U p.t.ins,O U p.t.outs,I A p.t.cases.length kc,O U p.a.n,I SV p.a.sts.length ks,O U p.k,O U p.t.n,V,E]:=⟨_,rfl⟩
 obtain⟨WR,rfl⟩:∃x,x=wr:=⟨_,rfl⟩;obtain⟨D,hD⟩:∃D,D=WR.heap.size:=⟨_,rfl⟩;have hDb:w.heap.size+3<=D:=by have:=hb.size;omega
 have H0:As (Bt D (w.heap.size+1+1) SC WR [] [] (I Z 0 0) (I Z 0 0) WR):=
  ⟨Wrote.refl _ _,by omega,by omega,by omega,by rw[sK];exact Lb hb (by omega) ij.out,OwnV.nil _ _,OwnX.nil _ _ _ _,fun k e=>(by cases e)⟩
 have Ds:As (WR.heap[w.heap.size]?=J (Ah #[O U p.t.n,O U p.t.ins,O U p.t.outs,I A p.t.cases.length kc,O U p.a.n,I SV p.a.sts.length ks,O U p.k] 29 (0,0))):=Lb hb (by omega) bn.out;have VF:As (WR.heap[w.heap.size+1]?=J (Ah #[O U 0,O U 0,O U 0,I Z 0 0,O U 0,I Z 0 0,O U 0,O U 0,I Z 0 0,I Z 0 0] 36 (0,0))):=Lb hb (by omega) bN.out;have Fl:As (Ao w.heap.size w WR):=bh.out.trans (hb.mono (by omega));have rg:=zH N';rw[<-hD] at rg;have l5:=zH sK;have fR:=zH dW;have AU:=zH hD;have lB:p.t.cases.length<=30:=fg.out.1.1.1;have cI:zi.length<=60:=by rw[<-dW,yc];exact sy
 have nI:As (∀x∈zi,x.length<=6):=fun x hx=>by rw[<-dW] at hx;rw[yK p.a K 0 x hx];exact CR
 clear hW hb sK dW hD N' bn bN ij al bh pq AA b9 aZ;go_wp2_with fail
 go_loopw [5] (fun i wx=>∃(c:Nat) (V E:Au),c<=p.t.cases.length/\i=O U (c:Int)/\As (Bt D (w.heap.size+1+1) SC WR (zn p (pcs zi c)).1 (zn p (pcs zi c)).2 V E wx)) (fun i _=>p.t.cases.length-(Aq i).toNat)
 case atStart=>exact⟨0,_,_,by omega,rfl,H0.out⟩
 clear H0;obtain⟨c,V0,E0,hc,rfl,fC⟩:=hrel;have hbig:=fC.out.big;have cP:∀k,k<D->k≠w.heap.size+1+1->wr.heap[k]?=WR.heap[k]?:=fun k h1 h2=>fC.out.wr.block k (by have:=AU.out;omega) h2
 have P0:=(cP _ (by omega) (by omega)).trans Ds.out;have p0:wr.cell? ⟨w.heap.size,0,Z⟩=J (O U p.t.n):=za P0 0 rfl;have p3:wr.cell? ⟨w.heap.size,3,Z⟩=J (I A p.t.cases.length kc):=za P0 3 rfl;have p6:wr.cell? ⟨w.heap.size,6,Z⟩=J (O U p.k):=za P0 6 rfl
 by_cases GN:c<p.t.cases.length
 case neg=>
  obtain rfl:c=p.t.cases.length:=by omega
  have Ck:p.t.cases.length*zi.length<=60:=by have h1:=DL.out;have h2:=Sk.out;have h3:=congrArg List.length fR.out;rw[yc] at h3;rw[h3,N2] at h1;omega
  obtain⟨AV,kv,rfl,_⟩:=fC.out.tb.form (by have:=uK p zi (by have:=fd.out;omega) nI.out p.t.cases.length Ck;omega);obtain⟨AE,ke,rfl,_,_,_⟩:=fC.out.out.form zy;have aS:=(cP (w.heap.size+1) (by omega) (by omega)).trans VF.out;have aM:=fC.out.sys;rw[l5.out] at aM;have s0:wr.cell? ⟨w.heap.size+1+1,0,Z⟩=J (O U p.t.n):=za aM 0 rfl;have s1:wr.cell? ⟨w.heap.size+1+1,1,Z⟩=J (O U p.t.ins):=za aM 1 rfl;have s2:wr.cell? ⟨w.heap.size+1+1,2,Z⟩=J (O U p.t.outs):=za aM 2 rfl;have s3:wr.cell? ⟨w.heap.size+1+1,3,Z⟩=J (I A p.t.cases.length kc):=za aM 3 rfl;have s4:wr.cell? ⟨w.heap.size+1+1,4,Z⟩=J (O U p.a.n):=za aM 4 rfl;have s5:wr.cell? ⟨w.heap.size+1+1,5,Z⟩=J (I SV p.a.sts.length ks):=za aM 5 rfl;have s6:wr.cell? ⟨w.heap.size+1+1,6,Z⟩=J (O U p.k):=za aM 6 rfl;have s7:wr.cell? ⟨w.heap.size+1+1,7,Z⟩=J (O U p.t.n):=za aM 7 rfl;have s8:wr.cell? ⟨w.heap.size+1+1,8,Z⟩=J (.slice AV (zn p (pcs zi p.t.cases.length)).1.length kv):=za aM 8 rfl;have s9:wr.cell? ⟨w.heap.size+1+1,9,Z⟩=J (.slice AE (zn p (pcs zi p.t.cases.length)).2.length ke):=za aM 9 rfl;have y0:wr.cell? ⟨w.heap.size+1,0,Z⟩=J (O U 0):=za aS 0 rfl;have f0:=zb aS 0;have y1:wr.cell? ⟨w.heap.size+1,1,Z⟩=J (O U 0):=za aS 1 rfl;have f1:=zb aS 1;have y2:wr.cell? ⟨w.heap.size+1,2,Z⟩=J (O U 0):=za aS 2 rfl;have f2:=zb aS 2
  have y3:wr.cell? ⟨w.heap.size+1,3,Z⟩=J (I Z 0 0):=za aS 3 rfl;have f3:=zb aS 3;have y4:wr.cell? ⟨w.heap.size+1,4,Z⟩=J (O U 0):=za aS 4 rfl;have f4:=zb aS 4;have y5:wr.cell? ⟨w.heap.size+1,5,Z⟩=J (I Z 0 0):=za aS 5 rfl;have f5:=zb aS 5;have y6:wr.cell? ⟨w.heap.size+1,6,Z⟩=J (O U 0):=za aS 6 rfl;have f6:=zb aS 6;have y7:wr.cell? ⟨w.heap.size+1,7,Z⟩=J (O U 0):=za aS 7 rfl;have f7:=zb aS 7;have y8:wr.cell? ⟨w.heap.size+1,8,Z⟩=J (I Z 0 0):=za aS 8 rfl;have f8:=zb aS 8;have y9:wr.cell? ⟨w.heap.size+1,9,Z⟩=J (I Z 0 0):=za aS 9 rfl;have f9:=zb aS 9;have rB:=zH fC.out;have aB:Ao w.heap.size w wr:=Fl.out.trans (fC.out.wr.below (by have:=Fl.out.size;omega) (fun k h1 h2=>by have h3:k=w.heap.size+1+1:=h2;omega));obtain⟨k1,k2,k3,k4,k5⟩:=xj (O U p.t.n) (O U p.t.ins) (O U p.t.outs) (I A p.t.cases.length kc) (O U p.a.n) (I SV p.a.sts.length ks) (O U p.k) (O U p.t.n) (.slice AV (zn p (pcs zi p.t.cases.length)).1.length kv) (.slice AE (zn p (pcs zi p.t.cases.length)).2.length ke) aS aB (by omega:w.heap.size<=w.heap.size+1)
  obtain⟨WF,cU⟩:=Kh (((((((((((wr.setCell ⟨w.heap.size+1,0,Z⟩ (O U p.t.n)).setCell ⟨w.heap.size+1,1,Z⟩ (O U p.t.ins)).setCell ⟨w.heap.size+1,2,Z⟩ (O U p.t.outs)).setCell ⟨w.heap.size+1,3,Z⟩ (I A p.t.cases.length kc)).setCell ⟨w.heap.size+1,4,Z⟩ (O U p.a.n)).setCell ⟨w.heap.size+1,5,Z⟩ (I SV p.a.sts.length ks)).setCell ⟨w.heap.size+1,6,Z⟩ (O U p.k)).setCell ⟨w.heap.size+1,7,Z⟩ (O U p.t.n)).setCell ⟨w.heap.size+1,8,Z⟩ (.slice AV (zn p (pcs zi p.t.cases.length)).1.length kv)).setCell ⟨w.heap.size+1,9,Z⟩ (.slice AE (zn p (pcs zi p.t.cases.length)).2.length ke)));rw[cU] at k1 k2 k3 k4 k5;have K1:=zH k1;have K2:=zH k2;have K4:=zH k4;have K5:=zH k5;have iJ:=zH cU;clear aS aM P0 aB k1 k2 k3 k4 k5 cU;go_wp2_with fail;rw[iJ.out];obtain⟨z0,z1,z2,z3,z4,z5,z6,z7,z8,z9⟩:=ya K1.out;refine Nb (v:=Aj #[O U p.t.n,O U p.t.ins,O U p.t.outs,I A p.t.cases.length kc,O U p.a.n,I SV p.a.sts.length ks,O U p.k,O U p.t.n,.slice AV (zn p (pcs zi p.t.cases.length)).1.length kv,.slice AE (zn p (pcs zi p.t.cases.length)).2.length ke]) (by simp[results,results95,go_sem,z0,z1,z2,z3,z4,z5,z6,z7,z8,z9]) rfl ?_;have fq:zl p=pcs zi p.t.cases.length:=by rw[QE,<-fR.out,show p.k.toNat=K by have:=rx.out;omega]
  unfold RetBt;rw[fq];have b9:=rB.out.big;refine⟨AV,kv,AE,ke,rfl,?_,?_,K2.out⟩
  . exact(rB.out.tb.of_same fun k hk=>K4.out k (by have:=(rB.out.tb.lt' k hk).1;omega)).low (by omega)
  exact(OwnX.mono zy (rB.out.out.keep zy ⟨by have:=K5.out;omega,fun k hs _=>K4.out k (by omega)⟩ fun k hk=>K4.out k (by have:=(rB.out.out.lt k hk).1;omega)) fun k _ hs=>(by omega)).low (by omega)
 have hc1:(c:Int)<(p.t.cases.length:Int):=by omega
 have E4:=zH cP;clear cP P0;go_wp2_with fail;obtain⟨wo,rfl⟩:∃x,x=wr:=⟨_,rfl⟩
 go_loopw [6] (fun i wx=>∃(j:Nat) (V E:Au),j<=zi.length/\i=O U (j:Int)/\As (Bt D (w.heap.size+1+1) SC WR (zn p (pcw zi c j)).1 (zn p (pcw zi c j)).2 V E wx)) (fun i _=>zi.length-(Aq i).toNat)
 case atStart=>exact⟨0,V0,E0,by omega,rfl,by rw[Yg];exact fC.out⟩
 obtain⟨j,V1,E1,hj,rfl,dp⟩:=hrel
 by_cases Gq:j<zi.length
 case neg=>
  obtain rfl:j=zi.length:=by omega
  have Wl:=zH (by have h:=dp.out;rw[pcw_end] at h;exact h);clear dp;go_wp2_with fail
  go_roundw
  case rel=>exact⟨c+1,V1,E1,by omega,by go_num,Wl.out⟩
  simp[Aq];omega
 obtain⟨gw,A2,c2,U8,ex,fN,nB,fw,lN⟩:=rg.out j Gq;subst U8;have Oo:KeepB (fun k=>k<D/\k≠w.heap.size+1+1) WR wr:=dp.out.wr.keep fun k _ hs=>hs.2
 have rN:wr.cell? ⟨gw,j,Z⟩=J (I A2 zi[j].length c2):=xZ Oo ⟨fN,by omega⟩ nB
 have dY:c*zi.length+j<60:=by
  have h1:=DL.out;have h2:=Sk.out;have h3:=congrArg List.length fR.out;rw[yc] at h3;rw[h3,N2] at h1;have h4:=N8 zi.length (show c+1<=p.t.cases.length by omega);rw[Nat.succ_mul] at h4;omega
 obtain⟨mn,nn⟩:=gA p zi (by have:=fd.out;omega) nI.out c j (by omega) (by omega);have BF:=xY p (pcw zi c j) (c,zi[j]);rw[<-pcw_succ zi c j Gq] at BF;obtain⟨word,eS⟩:=Kh (zi[j]);rw[eS] at rN fw BF nB lN;have io:word∈zo p.a K 0:=by rw[fR.out,<-eS];exact Ld Gq
 have oo:=yK p.a K 0 word io
 have iJ:As (∀r∈word,zO r=0/\r.n=(N:Int)):=fun r hr=>by
  obtain⟨m,hm,rfl⟩:=qP p.a K 0 word io r hr;obtain⟨z1,z2,_⟩:=xa (yj fg.out.1.2 ph.out).1 m hm;exact⟨z1,by rw[z2,<-AH.out,fd.out]⟩
 obtain⟨AE,ke,rfl,_,_,_⟩:=dp.out.out.form zy;obtain⟨f',rO⟩:=Kh ((zn p (pcw zi c j)).1);obtain⟨iS,rM⟩:=Kh ((zn p (pcw zi c j)).2);rw[rO,rM] at BF dp;rw[rO] at mn;rw[rM] at nn;have mC:yA p c=p.t.cases[c].inp:=by unfold yA;rw[Lf,Lg GN];rfl
 have Dn:As (zn p (pcw zi c (j+1))=((stQ f' N p.t.cases[c].inp word (K+1)).1,iS++[⟨(c:Int),word,(stQ f' N p.t.cases[c].inp word (K+1)).2⟩])):=by
  rw[BF];show(_,_)=_;rw[mC,oo,show p.t.n.toNat=N by have:=fd.out;omega]
  rfl
 obtain⟨bc,oc,A0,c0,A1',Vc,WB,Ic,eA,GR,sz,_,_,Hl,_,_⟩:=HA.out.row c GN;subst eA;have so:p.t.cases[c].inp.length=N:=by have h1:=IF.out _ (Ld GN);have:=fd.out;omega
 obtain⟨inp,pO⟩:=Kh (p.t.cases[c].inp);rw[pO] at sz Hl Dn so;have Ks:=zH Hl;have V7:=zH nB;have Wk:=zH sz;have ce:=zH fw;have Di:=zH lN;clear lN;have VY:=zH so;have lH:As (iS.length<60):=by show iS.length<60;omega
 have mV:=zH mn;have Dh:=zH oo;have tR:(j:Int)<(zi.length:Int):=by omega
 have T6:gw<wr.heap.size:=by have:=dp.out.big;omega
 clear so pO BF mC Hl sz fw nB Oo rO rM eS io nn mn oo;go_wp2_with fail;clear rN;obtain⟨W1,cG,x1,bq,aw⟩:=zq wr #[O U c,I A2 word.length c2,I Z 0 0] 42;rw[cG];have IY:As (Bq D (w.heap.size+1+1) wr.heap.size SC WR c (I A2 word.length c2) f' iS [] [] V1 (I AE iS.length ke) (I Z 0 0) (I Z 0 0) W1):=Bt.start dp.out aw x1;clear cG x1 bq aw dp;obtain⟨bx,aL⟩:∃bx,bx=wr.heap.size:=⟨_,rfl⟩;rw[<-aL] at IY ⊢;clear aL
 go_loopw [8] (fun i wx=>∃(k:Nat) (V Y:Au),k<=K+1/\i=O U (k:Int)/\As (Bq D (w.heap.size+1+1) bx SC WR c (I A2 word.length c2) (stQ f' N inp word k).1 iS (stQ f' N inp word k).2 [] V (I AE iS.length ke) Y (I Z 0 0) wx)) (fun i _=>K+1-(Aq i).toNat)
 case atStart=>exact⟨0,V1,_,by omega,rfl,IY.out⟩
 clear IY;obtain⟨k,V2,Y2,hk,rfl,HQ⟩:=hrel;have hbig:=HQ.out.big;have P0:=(HQ.out.wr.block _ (by have:=AU.out;omega) (by omega)).trans Ds.out;have p0:wr.cell? ⟨w.heap.size,0,Z⟩=J (O U p.t.n):=za P0 0 rfl;have p3:wr.cell? ⟨w.heap.size,3,Z⟩=J (I (J ⟨bc,oc,Z⟩) p.t.cases.length kc):=za P0 3 rfl;have p6:wr.cell? ⟨w.heap.size,6,Z⟩=J (O U p.k):=za P0 6 rfl;clear P0
 by_cases MF:k<=K
 case neg=>
  have VT:As (k=K+1):=by show k=K+1;omega
  have dr:¬((k:Int)<=p.k):=by have:=rx.out;omega
  obtain⟨AY,ky,rfl,_,_,_⟩:=HQ.out.vw.form yr;have aM:=HQ.out.sys;rw[l5.out] at aM;have II:=zH aM;have s9:wr.cell? ⟨w.heap.size+1+1,9,Z⟩=J (I AE iS.length ke):=za aM 9 rfl;have f9:=zb aM 9;have x0:wr.cell? ⟨bx,0,Z⟩=J (O U c):=za HQ.out.x 0 rfl;have x1:wr.cell? ⟨bx,1,Z⟩=J (I A2 word.length c2):=za HQ.out.x 1 rfl;have x2:wr.cell? ⟨bx,2,Z⟩=J (.slice AY (stQ f' N inp word k).2.length ky):=za HQ.out.x 2 rfl;have nO:=zH (zg wr (Ah #[O U c,I A2 word.length c2,.slice AY (stQ f' N inp word k).2.length ky] 42));have pi:=zH (HQ.out.out.below zy (zt wr (Ah #[O U c,I A2 word.length c2,.slice AY (stQ f' N inp word k).2.length ky] 42)) (Lh _));have Cu:=HQ.out.bsl;have Uq:w.heap.size+1+1<wr.heap.size:=by omega
  have Cr:=HQ.out.bxl;clear aM;go_wp2_with (at_builtin;obtain⟨aD,bk,fb,bj⟩:=pi.out;refine yg kXn_ok rfl (.tmp 110) (.tmp 112) rfl D (I AE iS.length ke) iS.length aD.flatten rfl fb wr.heap.size #[O U c,I A2 word.length c2,.slice AY (stQ f' N inp word k).2.length ky] rfl nO.out rfl (by simp[Value.oneCell']) (Lz (Nat.le_of_lt lH.out) (by decide)) (by simp;omega) _ rfl ?_;intro g' cap w7 dS de cd d9;have b7:=(de.block _ (by simp;omega) (fun e=>pi.out.ne Cu e.symm)).trans (zw II.out _);have c7:=za b7 9 rfl;have Hz:=zb b7 9;have We:=zH (Bq.done HQ.out (zt wr _) bk bj rfl rfl ce.out Di.out dS de cd (by rw[l5.out];rfl));clear dS de cd bk bj fb b7)
  go_roundw
  case rel=>exact⟨j+1,V2,_,by omega,by go_num,by rw[Dn.out,<-VT.out];exact We.out⟩
  simp[Aq];omega
 have dr:(k:Int)<=p.k:=by have:=rx.out;omega
 have B7:k<=6:=by omega
 obtain⟨vk,Ed⟩:=Kh ((stQ f' N inp word k).1);obtain⟨yk,cO⟩:=Kh ((stQ f' N inp word k).2);obtain⟨f,hf⟩:=Kh (fQ inp word yk k);have cu:=stQ_len f' N inp word k;have cp:=Qr f' N inp word k;have Br:=stQ_row f' N inp word k;have tH:=stQ_succ f' N inp word k;rw[Ed,cO] at HQ;rw[cO] at cu Br;rw[Ed] at cp;rw[Ed,cO,hf] at tH;have O8:=zH tH;have Vg:=zH Br;have rf:=zH cu
 have dy:As (vk.length<=2100+30):=by
  have h1:=NZ B7 UE.2;have h2:=mV.out;show vk.length<=2130;omega
 have Kx:=zH hf;clear Ed cO hf cu cp Br tH;obtain⟨AY,ky,rfl,_,_,_⟩:=HQ.out.vw.form yr;go_wp2_with fail;clear p0 p3 p6
 go_loopw [9,10] (fun l i wx=>∃(q:Nat) (V:Au),q<=N/\i=O U (q:Int)/\As (Bq D (w.heap.size+1+1) bx SC WR c (I A2 word.length c2) (zP f vk q).1 iS yk (zP f vk q).2 V (I AE iS.length ke) (I AY yk.length ky) l wx)) (fun _ i _=>N-(Aq i).toNat)
 case atStart=>exact⟨0,V2,by omega,rfl,HQ.out⟩
 clear HQ;obtain⟨q,V3,hq,rfl,HQ⟩:=hrel;have hbig:=HQ.out.big;have P0:=(HQ.out.wr.block _ (by have:=AU.out;omega) (by omega)).trans Ds.out;have p0:wr.cell? ⟨w.heap.size,0,Z⟩=J (O U p.t.n):=za P0 0 rfl;have p3:wr.cell? ⟨w.heap.size,3,Z⟩=J (I (J ⟨bc,oc,Z⟩) p.t.cases.length kc):=za P0 3 rfl;clear P0;obtain⟨AL,kl,eL,TQ,TP,_⟩:=HQ.out.row.form;subst eL
 by_cases tK:q<N
 case neg=>
  have VB:As (q=N):=by show q=N;omega
  have Tv:¬((q:Int)<p.t.n):=by have:=fd.out;omega
  have x2:wr.cell? ⟨bx,2,Z⟩=J (I AY yk.length ky):=za HQ.out.x 2 rfl;have nO:=zH (zg wr (Ah #[.slice AL (zP f vk q).2.length kl] 49));have pi:=zH (HQ.out.vw.below yr (zt wr (Ah #[.slice AL (zP f vk q).2.length kl] 49)) (Lh _));have Cr:=HQ.out.bxl;have Um:=HQ.out.hx;go_wp2_with (at_builtin;obtain⟨aD,bk,fb,bj⟩:=pi.out;refine yg Xz rfl (.tmp 104) (.tmp 106) rfl D (I AY yk.length ky) yk.length aD.flatten rfl fb wr.heap.size #[.slice AL (zP f vk q).2.length kl] rfl nO.out rfl (by simp[Value.oneCell']) (by rw[rf.out];omega) (by simp;omega) _ rfl ?_;intro g' cap w7 dS de cd d9;have b7:=(de.block bx (by simp;omega) (fun e=>(HQ.out.nY bx e.symm).1 rfl)).trans (zw HQ.out.x _);have c7:=za b7 2 rfl;have Hz:=zb b7 2;have tv:=zH (Bq.close HQ.out (zt wr _) bk bj dS de cd);clear dS de cd bk bj fb b7)
  go_roundw
  case rel=>exact⟨k+1,V3,_,by omega,by go_num,by rw[O8.out,<-VB.out];exact tv.out⟩
  simp[Aq];omega
 have Tv:(q:Int)<p.t.n:=by have:=fd.out;omega
 have iA:Ao w.heap.size w wr:=Fl.out.trans (HQ.out.wr.below (by have:=Fl.out.size;omega) (fun k h1 h2=>by have h3:k=w.heap.size+1+1:=h2;omega));have nB:=(iA.cell (p:=⟨bc,oc+c*3,Z⟩) GR).trans Wk.out;have Mw:q<inp.length:=by have:=VY.out;omega
 obtain⟨bi,oi,eI,GQ,Cl⟩:=Ks.out.at_ q Mw;subst eI;have MM:=(iA.cell (p:=⟨bi,oi+q,Z⟩) GQ).trans Cl;obtain⟨iv,tT⟩:=Kh (inp[q]);rw[tT] at MM;have VX:As (inp.getD q 0=iv):=by show _=_;rw[Lf,Lg Mw,<-tT];rfl
 have lQ:(0:Int)<=(q:Int):=by omega
 have tM:(q:Int)<(inp.length:Int):=by omega
 have hcp:(0:Int)<=(c:Int):=by omega
 have mc:=zH (JO q iv wr);have HPO:=zH (Qr f' N inp word k);have Cr:=HQ.out.bxl;clear iA Cl tT;go_wp2_with fail;refine mc.out.mono ?_;rintro e w5 ⟨rfl,bZ⟩;obtain⟨W6,mJ,b6,oD,iG⟩:=zq w5 (yq q iv).cells 100;have cS:Ao wr.heap.size wr W6:=Lc bZ iG;have mt:=bZ.size;have nI:=zH mJ;have dQ:=zH cS;have fZ:=zH b6;unfold Vw.cells at nI;unfold Vw.cells;clear mc bZ mJ b6 iG cS nB MM p0 p3;go_simp;rename_i eN;refine eN _ _ ?_;clear eN;refine LM rfl fun K5 aX=>?_
 go_simp;refine aX _ _ ?_;clear aX K5;refine LM rfl fun K5 aX=>?_
 go_simp;rw[nI.out];refine aX _ _ ?_;clear aX K5 nI;rcases Na k with cK | Et
 case' inl=>
  have Es:¬((0:Int)<(k:Int)):=by omega
  have rA:As (f q=yq q iv):=by
   show f q=_;rw[<-Kx.out,cK];show yq q (inp.getD q 0)=_;rw[VX.out]
  rw[<-rA.out] at fZ;have fZ:As (W6.heap[w5.heap.size]?=J (Ah (f q).cells 100 (0,0))):=fZ;obtain⟨W9,lW⟩:=Kh W6;rw[lW] at dQ fZ ⊢;clear lW rA cK
 case' inr=>
  obtain⟨k',cX⟩:∃k',k=k'+1:=⟨k-1,by omega⟩;have Es:(0:Int)<(k:Int):=by omega
  have B8:IntKind.i64.wrap ((k:Int)-1)=(k':Int):=by rw[Ly];omega
  have sn:k'<word.length:=by have:=Dh.out;omega
  have sm:k'<yk.length:=by have:=rf.out;omega
  have rA:As (f q=xz word[k'] k q yk[k']):=by
   show f q=_;rw[<-Kx.out,cX];show xz (word.getD k' default) (k'+1) q (yk.getD k' [])=_;rw[Lf,Lg sn,Lf,Lg sm]
   rfl
  have Q6:=HQ.out.on dQ.out;have Oj:RAtS (fun k=>w.heap.size+1+1<k/\k<D) W6 A2 word:=ce.out.keep (Q6.wr.keep fun k _ hs e=>by have h3:k=w.heap.size+1+1:=e;omega);have SY:W6.cell? ⟨gw,j,Z⟩=J (I A2 word.length c2):=xZ (S:=fun k=>w.heap.size+1+1<k/\k<D) (Q6.wr.keep fun k _ hs e=>by have h3:k=w.heap.size+1+1:=e;omega) ⟨ex,fN⟩ V7.out;obtain⟨br,SD,U9,fO,r0,r1,r2,r3,r4,r5,r6⟩:=Oj.rat.row k' sn;subst U9;obtain⟨AYx,kyx,eY,_,_,NQ⟩:=Q6.vw.form yr
  cases eY
  obtain⟨gy,U7,_,i9,Md⟩:=NQ (by omega);subst U7;obtain⟨cs,⟨A3,c3,rfl,fF⟩,aQ⟩:=Md k' sm;have Me:W6.cell? ⟨gy,k',Z⟩=J (I A3 yk[k'].length c3):=by simpa[cIs,kIs] using aQ 0 _ rfl
  have x6:W6.cell? ⟨bx,2,Z⟩=J (I (J ⟨gy,0,Z⟩) yk.length ky):=za Q6.x 2 rfl;have eG:=Vg.out k' sm;obtain⟨row,aR⟩:=Kh (yk[k']);obtain⟨rd,oF⟩:=Kh (word[k']);have tI:=iJ.out word[k'] (Ld sn);rw[aR] at Me fF eG rA;rw[oF] at r0 r1 r2 r3 r4 r5 r6 tI rA;have MP:=vZ (qQ tI.1).2.2.1 q (by omega);have rk:=zH (fun (X:Ba) (hX:Ao W6.heap.size W6 X)=>seen_any rd k q (by omega) MP A3 c3 row (by rw[tI.2,eG]) (by omega) X ((fF.iat.keep hX).more hX.size));have T0:(0:Int)<=(k':Int):=by omega
  have TZ:(k':Int)<(word.length:Int):=by omega
  have TY:(k':Int)<(yk.length:Int):=by omega
  have hjp:(0:Int)<=(j:Int):=by omega
  have VR:=zH cX;have Hu:w5.heap.size<W6.heap.size:=zd fZ.out;clear Et cX Q6 Oj NQ Md aQ fF aR oF tI MP eG;go_wp2_with fail
  go_still_tail 17,(by kernel_rfl)
  change wpList _ _ _ _ _ W6.drew;obtain⟨W7,lC⟩:∃W7,W7=W6.drew:=⟨_,rfl⟩;have me:As (Ao W6.heap.size W6 W7):=by rw[lC];exact(Lp _ _).drew
  rw[<-lC];clear lC r0 r1 r2 r3 r4 r5 r6 SY Me x6;go_wp2_with fail;refine(rk.out W7 me.out).mono ?_;rintro e w8 ⟨rfl,ed⟩;obtain⟨vv,Mi⟩:=Kh (xz rd k q row);rw[Mi] at rA ⊢;have sG:Ao W6.heap.size W6 w8:=Lc me.out ed;have b8:=Lb sG Hu fZ.out;unfold Vw.cells at b8;obtain⟨k1,k2⟩:=Q3 vv b8 (Lc dQ.out sG) (by omega:wr.heap.size<=w5.heap.size);obtain⟨W9,lW⟩:=Kh (((((((((w8.setCell ⟨w5.heap.size,0,Z⟩ (O U vv.p)).setCell ⟨w5.heap.size,1,Z⟩ (O U vv.r)).setCell ⟨w5.heap.size,2,Z⟩ (O U vv.i)).setCell ⟨w5.heap.size,3,Z⟩ (O U vv.h0)).setCell ⟨w5.heap.size,4,Z⟩ (O U vv.h1)).setCell ⟨w5.heap.size,5,Z⟩ (O U vv.h2)).setCell ⟨w5.heap.size,6,Z⟩ (O U vv.h3)).setCell ⟨w5.heap.size,7,Z⟩ (O U vv.h4)));rw[lW] at k1 k2;have O1:=zH lW;have y0:w8.cell? ⟨w5.heap.size,0,Z⟩=J (O U (yq q iv).p):=za b8 0 rfl;have U5:=zb b8 0;have y1:w8.cell? ⟨w5.heap.size,1,Z⟩=J (O U (yq q iv).r):=za b8 1 rfl;have U4:=zb b8 1;have y2:w8.cell? ⟨w5.heap.size,2,Z⟩=J (O U (yq q iv).i):=za b8 2 rfl;have U3:=zb b8 2;have y3:w8.cell? ⟨w5.heap.size,3,Z⟩=J (O U (yq q iv).h0):=za b8 3 rfl;have U2:=zb b8 3;have y4:w8.cell? ⟨w5.heap.size,4,Z⟩=J (O U (yq q iv).h1):=za b8 4 rfl;have U1:=zb b8 4;have y5:w8.cell? ⟨w5.heap.size,5,Z⟩=J (O U (yq q iv).h2):=za b8 5 rfl;have UZ:=zb b8 5
  have y6:w8.cell? ⟨w5.heap.size,6,Z⟩=J (O U (yq q iv).h3):=za b8 6 rfl;have UY:=zb b8 6;have y7:w8.cell? ⟨w5.heap.size,7,Z⟩=J (O U (yq q iv).h4):=za b8 7 rfl;have Hz:=zb b8 7;have fZ:As (W9.heap[w5.heap.size]?=J (Ah (f q).cells 100 (0,0))):=by rw[rA.out];exact k1
  have dQ:As (Ao wr.heap.size wr W9):=k2;clear sG b8 k1 k2 lW Mi ed rk me rA;unfold Vw.cells;go_simp;rename_i eN;refine eN _ _ ?_;refine LM rfl fun K5 aX=>?_
  go_simp;rw[O1.out];refine aX _ _ ?_;clear O1 VR Es B8 y0 y1 y2 y3 y4 y5 y6 y7 U5 U4 U3 U2 U1 UZ UY Hz
 all_goals
  have Q9:=HQ.out.on dQ.out;have tI:=qB f vk q;have BH:=yY f vk q;obtain⟨AV,kv,eV,hT⟩:=Q9.tb.form (by have:=dy.out;omega);subst eV;have I4:=zH (put_any p.t.n AV kv (zP f vk q).1 (f q) W9 hT (by have:=dy.out;omega));have aM:=Q9.sys;rw[l5.out] at aM;have s7:W9.cell? ⟨w.heap.size+1+1,7,Z⟩=J (O U p.t.n):=za aM 7 rfl;have s8:W9.cell? ⟨w.heap.size+1+1,8,Z⟩=J (.slice AV (zP f vk q).1.length kv):=za aM 8 rfl;have Do:=zH Q9;have IR:=zH BH;obtain⟨v,hv⟩:=Kh (f q);have R8:=zH hv;rw[hv] at I4 fZ;have x0:W9.cell? ⟨w5.heap.size,0,Z⟩=J (O U v.p):=za fZ.out 0 rfl;have x1:W9.cell? ⟨w5.heap.size,1,Z⟩=J (O U v.r):=za fZ.out 1 rfl;have x2:W9.cell? ⟨w5.heap.size,2,Z⟩=J (O U v.i):=za fZ.out 2 rfl;have x3:W9.cell? ⟨w5.heap.size,3,Z⟩=J (O U v.h0):=za fZ.out 3 rfl;have x4:W9.cell? ⟨w5.heap.size,4,Z⟩=J (O U v.h1):=za fZ.out 4 rfl;have x5:W9.cell? ⟨w5.heap.size,5,Z⟩=J (O U v.h2):=za fZ.out 5 rfl;have x6:W9.cell? ⟨w5.heap.size,6,Z⟩=J (O U v.h3):=za fZ.out 6 rfl;have x7:W9.cell? ⟨w5.heap.size,7,Z⟩=J (O U v.h4):=za fZ.out 7 rfl;clear hv tI BH hT aM Q9;go_wp2_with fail
  all_goals first | (exfalso;omega) | skip
  refine I4.out.mono ?_;rintro e rD BM;obtain⟨A3,k3,rfl,Hj,CK,CB⟩:=put_out BM Do.out.tb Do.out.big;have Fr:=Lc dQ.out CB;have aM:=(HQ.out.on Fr).sys;rw[l5.out] at aM;have s7:rD.cell? ⟨w.heap.size+1+1,7,Z⟩=J (O U p.t.n):=za aM 7 rfl;have s8:rD.cell? ⟨w.heap.size+1+1,8,Z⟩=J (.slice AV (zP f vk q).1.length kv):=za aM 8 rfl;have f7:=zb aM 7;have f8:=zb aM 8;have IN:=zH aM;obtain⟨rF,ou⟩:=Kh ((xF (zP f vk q).1 v).1);obtain⟨iz,Gr⟩:=Kh ((xF (zP f vk q).1 v).2);rw[ou] at Hj CK;have E2:=zH ou;have RW:=zH Gr;have pj:=zH Hj;have E3:=zH CK;have KF:=zH Fr;have FY:=Fr.size;have Cu:=HQ.out.bsl;rw[ou,Gr];clear BM Hj CK CB Fr aM ou Gr I4 x0 x1 x2 x3 x4 x5 x6 x7 fZ;obtain⟨rc,CJ,Id,FX,sU⟩:=zq rD #[O U p.t.n,I A3 rF.length k3] 33;have Dj:=zH CJ;have DT:As (Ao wr.heap.size wr rc):=KF.out.trans (sU.mono FY);have t0:rc.cell? ⟨rD.heap.size,0,Z⟩=J (O U p.t.n):=za Id 0 rfl;have t1:rc.cell? ⟨rD.heap.size,1,Z⟩=J (I A3 rF.length k3):=za Id 1 rfl;have aM:=(HQ.out.on DT.out).sys;rw[l5.out] at aM;have e7:rc.cell? ⟨w.heap.size+1+1,7,Z⟩=J (O U p.t.n):=za aM 7 rfl;have e8:rc.cell? ⟨w.heap.size+1+1,8,Z⟩=J (.slice AV (zP f vk q).1.length kv):=za aM 8 rfl;have fe7:=zb aM 7;have fe8:=zb aM 8;have Nz:w.heap.size+1+1<rc.heap.size:=by omega
  have rq:=zH (Bq.put HQ.out DT.out (u:=O U p.t.n) (pj.out.of_same fun k hk=>sU.block k (pj.out.lt' k hk).2) (fun k hk=>by
   rcases E3.out k hk with e | e
   . exact .inl e
   . exact .inr (by have:=dQ.out.size;omega)) (by rw[l5.out];rfl) (by rw[l5.out];rfl))
  obtain⟨C4,oU⟩:=Kh ((rc.setCell ⟨w.heap.size+1+1,7,Z⟩ (O U p.t.n)).setCell ⟨w.heap.size+1+1,8,Z⟩ (I A3 rF.length k3));rw[oU] at rq;have Is:=zH oU;have Bx:C4.heap.size=rc.heap.size:=by rw[<-oU];simp
  have nN:As ((C4.alloc (Ah #[O U iz] 3)).heap[rD.heap.size+1]?=J (Ah #[O U iz] 3 (0,0))):=by show _=_;rw[<-FX,<-Bx];exact zg C4 _
  have td:=zH (rq.out.row.alloc (Ah #[O U iz] 3));have Wd:=zH rq.out.big
  have nJ:As (zP f vk (q+1)=(rF,(zP f vk q).2++[iz])):=by
   show(_,_)=_;rw[R8.out,E2.out,RW.out]
  clear CJ Id sU aM oU s7 s8 f7 f8 IN pj E3 E2 RW R8 Do;go_simp;rename_i eN;refine eN _ _ ?_;clear eN;refine LM rfl fun K5 aX=>?_
  go_simp;refine aX _ _ ?_;clear aX K5;refine LM rfl fun K5 aX=>?_
  go_simp;refine aX _ _ ?_;clear aX K5;refine LM rfl fun K5 aX=>?_
  go_simp;refine aX _ _ ?_;clear aX K5;refine LM rfl fun K5 aX=>?_
  go_simp;refine aX _ _ ?_;clear aX K5;refine LM rfl fun K5 aX=>?_
  go_simp;rw[Dj.out];refine aX _ _ ?_;clear aX K5 Dj;have IQ:As ((zP f vk q).2.length<=1000000000):=by show _<=_;rw[IR.out];omega
  have nR:As (D<=(C4.alloc (Ah #[O U iz] 3)).heap.size):=by show _<=_;have:=Wd.out;simp;omega
  go_wp2_with (at_builtin;go_loud (rw[Is.out];refine yg wk rfl (.tmp 99) (.tmp 101) rfl D (.slice AL (zP f vk q).2.length kl) (zP f vk q).2.length ((zP f vk q).2.map (O U)) rfl td.out (rD.heap.size+1) #[O U iz] rfl nN.out rfl (by simp[Value.oneCell']) IQ.out nR.out _ rfl ?_;intro g' cap tC dS de cd d9;have Dp:=zH (Bq.push rq.out (zt C4 _) dS de cd);clear dS de cd))
  go_roundw
  case rel=>exact⟨q+1,_,by omega,by go_num,by rw[nJ.out];exact Dp.out⟩
  case measure=>simp[Aq];omega
end
end Go.Proofs.YtkledihebeidlaaGreatDoor
