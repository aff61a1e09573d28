/- Merged. -/
import Derived.Test.YtkledihebeidlaaGreatDoorWd
open Go.Proofs.Tryz
open Go.Value renaming int->O,slice->I,bool->Ai,agg->Aj,pointer->Ak
open Go.IntKind renaming i64->U
open Option renaming none->Z,some->J
open Go.Obj renaming cells->Ah
open Go.Ending renaming returned->Am
open Go.Proofs.Tryz renaming prog->An
open Go.RowKit renaming Below->Ao,intOf->Aq,Hid->As
open Go renaming Calls->Ap,Value->Au
open Bool renaming true->Av,false->Ax
open Go.World.ownsRow renaming lt->PY
open Go.RowKit.Below renaming setCell->Ls
namespace Go.Proofs.YtkledihebeidlaaGreatDoor
abbrev Pd:=@Nat.mul_comm
set_option maxRecDepth 100000
set_option maxHeartbeats 8000000
section
open Go.RowKit
theorem qe(w:Ba)(c1 c2 c3:Array Au)(t1 t2 t3:TypeId):∃W0,((w.alloc (Ah c1 t1)).alloc (Ah c2 t2)).alloc (Ah c3 t3)=W0/\W0.heap[w.heap.size]?=J (Ah c1 t1 (0,0))/\W0.heap[w.heap.size+1]?=J (Ah c2 t2 (0,0)) /\
  W0.heap[w.heap.size+1+1]?=J (Ah c3 t3 (0,0))/\W0.heap.size=w.heap.size+3/\Ao w.heap.size w W0:=
 ⟨_,rfl,zB (zB (zh _ _) _) _,zB (by have:=zh (w.alloc (Ah c1 t1)) (Ah c2 t2);rwa[LZ] at this) _,
  by have:=zh ((w.alloc (Ah c1 t1)).alloc (Ah c2 t2)) (Ah c3 t3);rwa[LZ,LZ] at this,by simp,bel3 w _ _ _⟩
def PutCut(n:Int)(vs:List Vw)(v:Vw)(g:Nat)(w1:Ba)(s:Au)(wx:Ba):Prop:=
 s=Ak (J ⟨g,0,Z⟩)/\∃A cap,wx.cell? ⟨g,0,Z⟩=J (O U n)/\wx.cell? ⟨g,1,Z⟩=J (I A (vs.length+1) cap)/\OwnV wx (g+1) (I A (vs.length+1) cap) (vs++[v])/\Ao g w1 wx
theorem put_any(n:Int)(A:Bb)(cap:Nat)(vs:List Vw)(v:Vw)(w:Ba)(hT:TArg w A cap vs)(hl:vs.length<100000) :
  Ap An 126 #[Aj #[O U n,I A vs.length cap],.agg v.cells] w (RetPut n A cap vs v w):=by
 have HT:=zH hT;have dc:=hT.few;go_enter func126,ntmps126;unfold Vw.cells;go_wp2_with fail;obtain⟨W0,bH,b0,b1,b2,bn,aX⟩:=qe w #[O U n,I A vs.length cap] v.cells #[O U 0,I Z 0 0] 33 100 33;unfold Vw.cells at bH;rw[bH];have c0:W0.heap[w.heap.size+1]?=J (Ah v.cells 100 (0,0)):=b1;have Sw:=HT.out.keep aX;refine(JS n A cap vs v W0 W0.heap.size (Lh _) Sw.rows (by omega)).mono ?_;rintro e w1 ⟨rfl,hb⟩;have HV:As (w1.heap[w.heap.size+1]?=J (Ah v.cells 100 (0,0))):=Lb hb (by omega) c0;have d0:=Lb hb (by omega) b0;have d2:=Lb hb (by omega) b2;have FR:=zH (Sw.keep hb);have B1:As (Ao w.heap.size w w1):=aX.trans (hb.mono (by omega));have l0:w.heap.size+3<=w1.heap.size:=by have:=hb.size;omega
 obtain⟨t0,t1,_⟩:=Ka d0;obtain⟨r0,r1,_⟩:=Ka d2;have f0:=zb d2 0;have f1:=zb d2 1
 by_cases hv:v∈vs
 . have hz:=zH hv
   have h0:0<=qq vs v:=YI hv;go_wp2_with fail;have bG:As (Ao w.heap.size w ((w1.setCell ⟨w.heap.size+1+1,0,Z⟩ (O U n)).setCell ⟨w.heap.size+1+1,1,Z⟩ (I A vs.length cap))):=(B1.out.setCell (by simp;omega) _).setCell (by simp;omega) _;exact Na (v:=.tuple #[Aj #[O U n,I A vs.length cap],O U (qq vs v)]) (by simp[results,results126,go_sem,r0,r1]) rfl ⟨bG.out,fun _=>rfl,fun h=>absurd hz.out h⟩
 have hz:As (v∉vs):=hv;have h0:qq vs v=-1:=by unfold qq;rw[Lj hv]
 have h1:qq vs v<0:=by omega
 go_upto_region 5 with fail
 obtain⟨W2,eM,g0,ed,aQ⟩:=zt w1 #[O U n,I Z 0 0] 33;rw[eM];clear eM;have rA:W2.heap[w.heap.size+1]?=J (Ah v.cells 100 (0,0)):=Lb aQ (by omega) HV.out;have D0:W2.heap[w.heap.size]?=J (Ah #[O U n,I A vs.length cap] 33 (0,0)):=Lb aQ (by omega) d0;have D2:W2.heap[w.heap.size+1+1]?=J (Ah #[O U 0,I Z 0 0] 33 (0,0)):=Lb aQ (by omega) d2;have x0:W2.cell? ⟨w.heap.size+1,0,Z⟩=J (O U v.p):=za rA 0 rfl;have x1:W2.cell? ⟨w.heap.size+1,1,Z⟩=J (O U v.r):=za rA 1 rfl;have x2:W2.cell? ⟨w.heap.size+1,2,Z⟩=J (O U v.i):=za rA 2 rfl;have x3:W2.cell? ⟨w.heap.size+1,3,Z⟩=J (O U v.h0):=za rA 3 rfl;have x4:W2.cell? ⟨w.heap.size+1,4,Z⟩=J (O U v.h1):=za rA 4 rfl;have x5:W2.cell? ⟨w.heap.size+1,5,Z⟩=J (O U v.h2):=za rA 5 rfl;have x6:W2.cell? ⟨w.heap.size+1,6,Z⟩=J (O U v.h3):=za rA 6 rfl;have x7:W2.cell? ⟨w.heap.size+1,7,Z⟩=J (O U v.h4):=za rA 7 rfl;have s1:W2.cell? ⟨w.heap.size,1,Z⟩=J (I A vs.length cap):=za D0 1 rfl;have y1:W2.cell? ⟨w1.heap.size,1,Z⟩=J (I Z 0 0):=za g0 1 rfl;have y0:W2.cell? ⟨w1.heap.size,0,Z⟩=J (O U n):=za g0 0 rfl;have BX:=zH aQ;have l3:w.heap.size<W2.heap.size:=by omega
 have z1:=zb g0 1;have l2:w1.heap.size<W2.heap.size:=by omega
 have tl:=zH (FR.out.keep aQ);have B2:As (Ao w.heap.size w W2):=Lc B1.out aQ;have bu:=zH d0;have iJ:=zH d2;clear d0 d2 t0 t1 r0 r1 f0 f1 aQ ed
 go_cut [7] (fun s7 wx=>PutCut n vs v w1.heap.size w1 s7 wx)
 case first=>
  go_region_law ((first
    | (refine Xk (by rfl) (.tmp 19) (.tmp 21) (by rfl) W2.heap.size (by rfl) A cap vs (by rfl) (by first | exact tl.out.keep (Lp _ _).drew | exact tl.out.keep (zw W2 _).drew) (by simp) ?_;intro A1 DY wA cX b9;have hG:W2.grownBy wA Z:=(by first | exact⟨b9.os,b9.tape,b9.output,b9.size,b9.block⟩ | exact yV (o:=Ah v.cells 100) ⟨b9.os,b9.tape,b9.output,b9.size,b9.block⟩);have e0:=zO hG x0 (by simp);have e1:=zO hG x1 (by simp);have e2:=zO hG x2 (by simp);have e3:=zO hG x3 (by simp);have e4:=zO hG x4 (by simp);have e5:=zO hG x5 (by simp);have e6:=zO hG x6 (by simp);have e7:=zO hG x7 (by simp);have e8:=zO hG y1 (by simp);have e9:=jG hG z1 l2 (by simp);have e10:W2.heap.size<=wA.heap.size:=hG.size)
    | (refine wg (by rfl) (.tmp 22) (.tmp 24) (by rfl) W2.heap.size _ vs v (by rfl) (cX.alloc _) (by omega) wA.heap.size (by rfl) (zh wA _) (by first | omega | (simp;omega)) ?_;intro A3 ey wB mY aH;have hH:wA.grownBy wB (I A1 vs.length DY).ownBlock:=(by first | exact⟨aH.os,aH.tape,aH.output,aH.size,aH.block⟩ | exact yV (o:=Ah v.cells 100) ⟨aH.os,aH.tape,aH.output,aH.size,aH.block⟩);have h8:=zO hH e8 (cX.ne (by omega));have h9:=jG hH e9 (by omega) (cX.ne (by omega));have BF:Ao w1.heap.size w1 wB:=(BX.out.grown hG (by omega) (by simp)).grown hH (by omega) (fun k hk=>by have:=(cX.lt k hk).1;omega);have S9:=zO hH (zO hG y0 (by simp)) (cX.ne (by omega)))
    | (refine wg (by rfl) (.tmp 22) (.tmp 24) (by rfl) W2.heap.size _ vs v (by rfl) (cX) (by omega) W2.heap.size (by rfl) (Qe b9 (zh W2 _) (by simp)) (by first | omega | (simp;omega)) ?_;intro A3 ey wB mY aH;have hH:wA.grownBy wB (I A1 vs.length DY).ownBlock:=(by first | exact⟨aH.os,aH.tape,aH.output,aH.size,aH.block⟩ | exact yV (o:=Ah v.cells 100) ⟨aH.os,aH.tape,aH.output,aH.size,aH.block⟩);have h8:=zO hH e8 (cX.ne (by omega));have h9:=jG hH e9 (by omega) (cX.ne (by omega));have BF:Ao w1.heap.size w1 wB:=(BX.out.grown hG (by omega) (by simp)).grown hH (by omega) (fun k hk=>by have:=(cX.lt k hk).1;omega);have S9:=zO hH (zO hG y0 (by simp)) (cX.ne (by omega)))))
  all_goals
   go_wp2_with fail
   go_meet
   refine⟨rfl,A3,ey,by simp[go_sem,S9],by simp[go_sem,h8],?_,BF.setCell (by simp) _⟩;exact(OwnV.kept mY (jF wB w1.heap.size 1 _) (Or.inr (mY.ne l2))).low l2
 obtain⟨rfl,A3,ey,c0,c1,Ky,aZ⟩:=hcut;have D0:=Lb aZ (by omega) bu.out;have D2:=Lb aZ (by omega) iJ.out;have t1:wc.cell? ⟨w.heap.size,1,Z⟩=J (I A vs.length cap):=za D0 1 rfl;obtain⟨r0,r1,_⟩:=Ka D2;have f0:=zb D2 0;have f1:=zb D2 1;have tL:=zH Ky;have bL:As (Ao w.heap.size w wc):=Lc B1.out aZ;go_wp2_with fail
 go_region
 all_goals
  go_wp2_with fail;have bG:As (Ao w.heap.size w (((wc.setCell ⟨w.heap.size+1+1,0,Z⟩ (O U n)).setCell ⟨w.heap.size+1+1,1,Z⟩ (I A3 (vs.length+1) ey)).drew)):=((bL.out.setCell (by simp;omega) _).setCell (by simp;omega) _).drew
  have pi:OwnV ((wc.setCell ⟨w.heap.size+1+1,0,Z⟩ (O U n)).setCell ⟨w.heap.size+1+1,1,Z⟩ (I A3 (vs.length+1) ey)) (w1.heap.size+1) (I A3 (vs.length+1) ey) (vs++[v]):=
   (tL.out.kept (jF wc (w.heap.size+1+1) 0 _) (Or.inr (tL.out.ne (by omega)))).kept (jF _ (w.heap.size+1+1) 1 _) (Or.inr (tL.out.ne (by omega)))
  exact Na (v:=.tuple #[Aj #[O U n,I A3 (vs.length+1) ey],O U vs.length]) (by simp[results,results126,go_sem,r0,r1]) rfl ⟨bG.out,fun h=>absurd h hz.out,fun _=>⟨A3,ey,rfl,(OwnV.drew pi).low (by have:=B1.out.size;omega)⟩⟩
end
section
open Go.RowKit Go.Shelf
attribute [local go_sem] Oper.semAt_some
theorem kM{w X:Ba}{g h B:Nat}{a0 a1 a2 a3 a4 a5 a6 a7 a8 a9 u0:Au}(v0 v1 v2 v3 v4 v5 v6 v7 v8 v9 u:Au)(hg:X.heap[g]?=J (Ah #[a0,a1,a2,a3,a4,a5,a6,a7,a8,a9] 36 (0,0)))(hh:X.heap[h]?=J (Ah #[u0] 46 (0,0)))
  (bt:g≠h) (hB:Ao B w X) (h1:B<=g) (h2:B<=h) :
  (((((((((((X.setCell ⟨g,0,Z⟩ v0).setCell ⟨g,1,Z⟩ v1).setCell ⟨g,2,Z⟩ v2).setCell ⟨g,3,Z⟩ v3).setCell ⟨g,4,Z⟩ v4).setCell ⟨g,5,Z⟩ v5).setCell ⟨g,6,Z⟩ v6).setCell ⟨g,7,Z⟩ v7).setCell ⟨g,8,Z⟩ v8).setCell ⟨g,9,Z⟩ v9).setCell ⟨h,0,Z⟩ u).heap[g]?=J (Ah #[v0,v1,v2,v3,v4,v5,v6,v7,v8,v9] 36 (0,0))/\(((((((((((X.setCell ⟨g,0,Z⟩ v0).setCell ⟨g,1,Z⟩ v1).setCell ⟨g,2,Z⟩ v2).setCell ⟨g,3,Z⟩ v3).setCell ⟨g,4,Z⟩ v4).setCell ⟨g,5,Z⟩ v5).setCell ⟨g,6,Z⟩ v6).setCell ⟨g,7,Z⟩ v7).setCell ⟨g,8,Z⟩ v8).setCell ⟨g,9,Z⟩ v9).setCell ⟨h,0,Z⟩ u).heap[h]?=J (Ah #[u] 46 (0,0))/\Ao B w (((((((((((X.setCell ⟨g,0,Z⟩ v0).setCell ⟨g,1,Z⟩ v1).setCell ⟨g,2,Z⟩ v2).setCell ⟨g,3,Z⟩ v3).setCell ⟨g,4,Z⟩ v4).setCell ⟨g,5,Z⟩ v5).setCell ⟨g,6,Z⟩ v6).setCell ⟨g,7,Z⟩ v7).setCell ⟨g,8,Z⟩ v8).setCell ⟨g,9,Z⟩ v9).setCell ⟨h,0,Z⟩ u) /\
   (((((((((((X.setCell ⟨g,0,Z⟩ v0).setCell ⟨g,1,Z⟩ v1).setCell ⟨g,2,Z⟩ v2).setCell ⟨g,3,Z⟩ v3).setCell ⟨g,4,Z⟩ v4).setCell ⟨g,5,Z⟩ v5).setCell ⟨g,6,Z⟩ v6).setCell ⟨g,7,Z⟩ v7).setCell ⟨g,8,Z⟩ v8).setCell ⟨g,9,Z⟩ v9).setCell ⟨h,0,Z⟩ u).heap.size=X.heap.size/\(∀k,k≠g->k≠h->(((((((((((X.setCell ⟨g,0,Z⟩ v0).setCell ⟨g,1,Z⟩ v1).setCell ⟨g,2,Z⟩ v2).setCell ⟨g,3,Z⟩ v3).setCell ⟨g,4,Z⟩ v4).setCell ⟨g,5,Z⟩ v5).setCell ⟨g,6,Z⟩ v6).setCell ⟨g,7,Z⟩ v7).setCell ⟨g,8,Z⟩ v8).setCell ⟨g,9,Z⟩ v9).setCell ⟨h,0,Z⟩ u).heap[k]?=X.heap[k]?):=by
 have k0:(X.setCell ⟨g,0,Z⟩ v0).heap[g]?=J (Ah #[v0,a1,a2,a3,a4,a5,a6,a7,a8,a9] 36 (0,0)):=Lk _ g 0 _ _ v0 hg;have k1:((X.setCell ⟨g,0,Z⟩ v0).setCell ⟨g,1,Z⟩ v1).heap[g]?=J (Ah #[v0,v1,a2,a3,a4,a5,a6,a7,a8,a9] 36 (0,0)):=Lk _ g 1 _ _ v1 k0;have k2:(((X.setCell ⟨g,0,Z⟩ v0).setCell ⟨g,1,Z⟩ v1).setCell ⟨g,2,Z⟩ v2).heap[g]?=J (Ah #[v0,v1,v2,a3,a4,a5,a6,a7,a8,a9] 36 (0,0)):=Lk _ g 2 _ _ v2 k1;have k3:((((X.setCell ⟨g,0,Z⟩ v0).setCell ⟨g,1,Z⟩ v1).setCell ⟨g,2,Z⟩ v2).setCell ⟨g,3,Z⟩ v3).heap[g]?=J (Ah #[v0,v1,v2,v3,a4,a5,a6,a7,a8,a9] 36 (0,0)):=Lk _ g 3 _ _ v3 k2;have k4:(((((X.setCell ⟨g,0,Z⟩ v0).setCell ⟨g,1,Z⟩ v1).setCell ⟨g,2,Z⟩ v2).setCell ⟨g,3,Z⟩ v3).setCell ⟨g,4,Z⟩ v4).heap[g]?=J (Ah #[v0,v1,v2,v3,v4,a5,a6,a7,a8,a9] 36 (0,0)):=Lk _ g 4 _ _ v4 k3;have k5:((((((X.setCell ⟨g,0,Z⟩ v0).setCell ⟨g,1,Z⟩ v1).setCell ⟨g,2,Z⟩ v2).setCell ⟨g,3,Z⟩ v3).setCell ⟨g,4,Z⟩ v4).setCell ⟨g,5,Z⟩ v5).heap[g]?=J (Ah #[v0,v1,v2,v3,v4,v5,a6,a7,a8,a9] 36 (0,0)):=Lk _ g 5 _ _ v5 k4;have k6:(((((((X.setCell ⟨g,0,Z⟩ v0).setCell ⟨g,1,Z⟩ v1).setCell ⟨g,2,Z⟩ v2).setCell ⟨g,3,Z⟩ v3).setCell ⟨g,4,Z⟩ v4).setCell ⟨g,5,Z⟩ v5).setCell ⟨g,6,Z⟩ v6).heap[g]?=J (Ah #[v0,v1,v2,v3,v4,v5,v6,a7,a8,a9] 36 (0,0)):=Lk _ g 6 _ _ v6 k5
 have k7:((((((((X.setCell ⟨g,0,Z⟩ v0).setCell ⟨g,1,Z⟩ v1).setCell ⟨g,2,Z⟩ v2).setCell ⟨g,3,Z⟩ v3).setCell ⟨g,4,Z⟩ v4).setCell ⟨g,5,Z⟩ v5).setCell ⟨g,6,Z⟩ v6).setCell ⟨g,7,Z⟩ v7).heap[g]?=J (Ah #[v0,v1,v2,v3,v4,v5,v6,v7,a8,a9] 36 (0,0)):=Lk _ g 7 _ _ v7 k6;have k8:(((((((((X.setCell ⟨g,0,Z⟩ v0).setCell ⟨g,1,Z⟩ v1).setCell ⟨g,2,Z⟩ v2).setCell ⟨g,3,Z⟩ v3).setCell ⟨g,4,Z⟩ v4).setCell ⟨g,5,Z⟩ v5).setCell ⟨g,6,Z⟩ v6).setCell ⟨g,7,Z⟩ v7).setCell ⟨g,8,Z⟩ v8).heap[g]?=J (Ah #[v0,v1,v2,v3,v4,v5,v6,v7,v8,a9] 36 (0,0)):=Lk _ g 8 _ _ v8 k7;have k9:((((((((((X.setCell ⟨g,0,Z⟩ v0).setCell ⟨g,1,Z⟩ v1).setCell ⟨g,2,Z⟩ v2).setCell ⟨g,3,Z⟩ v3).setCell ⟨g,4,Z⟩ v4).setCell ⟨g,5,Z⟩ v5).setCell ⟨g,6,Z⟩ v6).setCell ⟨g,7,Z⟩ v7).setCell ⟨g,8,Z⟩ v8).setCell ⟨g,9,Z⟩ v9).heap[g]?=J (Ah #[v0,v1,v2,v3,v4,v5,v6,v7,v8,v9] 36 (0,0)):=Lk _ g 9 _ _ v9 k8
 have l9:=(Lf _ ⟨g,9,Z⟩ v9 h (PC bt)).trans ((Lf _ ⟨g,8,Z⟩ v8 h (PC bt)).trans ((Lf _ ⟨g,7,Z⟩ v7 h (PC bt)).trans ((Lf _ ⟨g,6,Z⟩ v6 h (PC bt)).trans ((Lf _ ⟨g,5,Z⟩ v5 h (PC bt)).trans ((Lf _ ⟨g,4,Z⟩ v4 h (PC bt)).trans ((Lf _ ⟨g,3,Z⟩ v3 h (PC bt)).trans ((Lf _ ⟨g,2,Z⟩ v2 h (PC bt)).trans ((Lf _ ⟨g,1,Z⟩ v1 h (PC bt)).trans ((Lf _ ⟨g,0,Z⟩ v0 h (PC bt)).trans (hh))))))))));refine⟨(Lf _ ⟨h,0,Z⟩ u g bt).trans k9,?_,?_,by simp,fun k n1 n2=>?_⟩
 . rw[Lk _ h 0 _ _ u l9];rfl
 . refine Ls (p:=⟨h,0,Z⟩) ?_ h2 _
   refine Ls (p:=⟨g,9,Z⟩) ?_ h1 _;refine Ls (p:=⟨g,8,Z⟩) ?_ h1 _;refine Ls (p:=⟨g,7,Z⟩) ?_ h1 _;refine Ls (p:=⟨g,6,Z⟩) ?_ h1 _;refine Ls (p:=⟨g,5,Z⟩) ?_ h1 _;refine Ls (p:=⟨g,4,Z⟩) ?_ h1 _;refine Ls (p:=⟨g,3,Z⟩) ?_ h1 _;refine Ls (p:=⟨g,2,Z⟩) ?_ h1 _;refine Ls (p:=⟨g,1,Z⟩) ?_ h1 _;refine Ls (p:=⟨g,0,Z⟩) ?_ h1 _;exact hB
 refine(Lf _ ⟨h,0,Z⟩ u k n2).trans ?_;refine(Lf _ ⟨g,9,Z⟩ v9 k n1).trans ?_;refine(Lf _ ⟨g,8,Z⟩ v8 k n1).trans ?_;refine(Lf _ ⟨g,7,Z⟩ v7 k n1).trans ?_;refine(Lf _ ⟨g,6,Z⟩ v6 k n1).trans ?_;refine(Lf _ ⟨g,5,Z⟩ v5 k n1).trans ?_;refine(Lf _ ⟨g,4,Z⟩ v4 k n1).trans ?_;refine(Lf _ ⟨g,3,Z⟩ v3 k n1).trans ?_;refine(Lf _ ⟨g,2,Z⟩ v2 k n1).trans ?_;refine(Lf _ ⟨g,1,Z⟩ v1 k n1).trans ?_;exact Lf _ ⟨g,0,Z⟩ v0 k n1
theorem ZK(w:Ba)(o:Obj):∃W0,w.alloc o=W0/\W0.heap[w.heap.size]?=J o/\W0.heap.size=w.heap.size+1/\Ao w.heap.size w W0:=⟨_,rfl,zh _ _,by simp,zw w _⟩
theorem vd{t:Tk}:∀ {q:Option Cs} {l:List Cs},xV t q l=0->∀c∈l,(c.inp.length:Int)=t.n
 | _,[],_,c,hc=>by cases hc
 | q,d::l,h,c,hc=>by
  rw[xV] at h
  split at h
  . rename_i h1;exact absurd h h1
  . rename_i h1
    rcases LT.1 hc with rfl | hc
    . have h2:xE t q c=0:=by simpa using h1
      unfold xE at h2
      split at h2
      . rename_i h3;exact absurd h2 h3
      . rename_i h3
        have h4:zr c.inp t.n t.ins=0:=by simpa using h3
        unfold zr at h4
        split at h4
        . cases h4
        . rename_i h5;simpa using h5
    . exact vd h c hc
theorem Z8{t:Tk}(h:yA t=0):∀c∈t.cases,(c.inp.length:Int)=t.n:=by
 unfold yA at h
 split at h
 . cases h
 split at h
 . cases h
 exact vd (by unfold yM at h;rwa[LQ] at h)
theorem RowX.turnC{α:Type}{C:Ct α}(ok:CtOk C){S:Nat->Prop}{w w':Ba}{g:Nat}{xs:List α}(h:RowX C S w g xs)(hs:w.heap.size<=w'.heap.size)(hc:∀(k:Nat) (o:Obj),w.heap[k]?=J o->o.isCells=Av->w'.heap[k]?=J o):RowX C S w' g xs:=by
 obtain⟨dr,h1,h2⟩:=h;refine⟨dr,hc _ _ h1 rfl,fun i hi=>?_⟩;obtain⟨cs,h3,h4⟩:=h2 i hi;exact⟨cs,ok.keepC h3 (KeepC.of_cells _ hs hc),h4⟩
theorem OwnV.of_same{w w':Ba}{aa:Nat}{v:Au}{vs:List Vw}(h:OwnV w aa v vs)(hk:∀k,v.ownBlock=J k->w'.heap[k]?=w.heap[k]?):OwnV w' aa v vs:=by
 refine⟨h.1,?_⟩;rcases h.2 with hn | ⟨g,cap,cur,hv,hb,hg,rest⟩
 . exact .inl hn
 exact .inr ⟨g,cap,cur,hv,hb,(hk g (by rw[hv];rfl)).trans hg,rest⟩
def RetSys(r:Sy×Int)(w:Ba)(e:Ending)(w':Ba):Prop:=∃A kc SV ks AV kv AX kx,e=Am (.tuple #[.agg (r.1.vs_ A kc SV ks AV kv AX kx),O U r.2])/\SyAt w' w'.heap.size A SV AV AX r.1/\r.1.vs.length<=kv/\kv<=maxLen/\Ao w.heap.size w w'
theorem RetSys.zero{w W:Ba}(n:Int)(h:Ao w.heap.size w W):RetSys (xW,n) w (Am (.tuple #[Aj #[O U 0,O U 0,O U 0,I Z 0 0,O U 0,I Z 0 0,O U 0,O U 0,I Z 0 0,I Z 0 0],O U n])) W:=
 ⟨Z,0,Z,0,Z,0,Z,0,rfl,⟨CAt.nil _ _ _,SAt.nil _ _ _,fun h=>absurd h (by simp[xW]),XAt.nil _ _ _⟩,Lh _,Nu _,h⟩
def RetSysF(L0 B0:Nat)(r:Sy×Int)(w:Ba)(e:Ending)(w':Ba):Prop:=∃A kc SV ks AV kv AX kx,e=Am (.tuple #[.agg (r.1.vs_ A kc SV ks AV kv AX kx),O U r.2]) /\
 (∀W':Ba,w'.heap.size<=W'.heap.size->(∀k,((L0<=k/\k<B0)\/w.heap.size<=k)->k<w'.heap.size->W'.heap[k]?=w'.heap[k]?)->SyAt W' W'.heap.size A SV AV AX r.1)/\r.1.vs.length<=kv/\kv<=maxLen/\Ao w.heap.size w w'
theorem RetSysF.sys{L0 B0:Nat}{r:Sy×Int}{w W:Ba}{e:Ending}(h:RetSysF L0 B0 r w e W):RetSys r w e W:=by
 obtain⟨A,kc,SV,ks,AV,kv,AX,kx,he,h1,h2,h3,h4⟩:=h;exact⟨A,kc,SV,ks,AV,kv,AX,kx,he,h1 W (Lh _) (fun _ _ _=>rfl),h2,h3,h4⟩
def RetSysFC(L0 B0:Nat)(r:Sy×Int)(w:Ba)(e:Ending)(w':Ba):Prop:=∃A kc SV ks AV kv AX kx,e=Am (.tuple #[.agg (r.1.vs_ A kc SV ks AV kv AX kx),O U r.2]) /\
 (∀W':Ba,w'.heap.size<=W'.heap.size->(∀k,((L0<=k/\k<B0)\/w.heap.size<=k)->k<w'.heap.size->W'.heap[k]?=w'.heap[k]?)->SyAt W' W'.heap.size A SV AV AX r.1/\XCap W' AX r.1.xs)/\r.1.vs.length<=kv/\kv<=maxLen/\Ao w.heap.size w w'
theorem RetSysFC.zero{L0 B0:Nat}{w W:Ba}(n:Int)(h:Ao w.heap.size w W):RetSysFC L0 B0 (xW,n) w (Am (.tuple #[Aj #[O U 0,O U 0,O U 0,I Z 0 0,O U 0,I Z 0 0,O U 0,O U 0,I Z 0 0,I Z 0 0],O U n])) W:=
 ⟨Z,0,Z,0,Z,0,Z,0,rfl,fun W' _ _=>⟨⟨CAt.nil _ _ _,SAt.nil _ _ _,fun h=>absurd h (by simp[xW]),XAt.nil _ _ _⟩,fun _ _ _ e=>by cases e⟩,Lh _,Nu _,h⟩
theorem RetSysFC.f{L0 B0:Nat}{r:Sy×Int}{w W:Ba}{e:Ending}(h:RetSysFC L0 B0 r w e W):RetSysF L0 B0 r w e W:=by
 obtain⟨A,kc,SV,ks,AV,kv,AX,kx,he,h1,h2,h3,h4⟩:=h;exact⟨A,kc,SV,ks,AV,kv,AX,kx,he,fun W' a b=>(h1 W' a b).1,h2,h3,h4⟩
theorem uz(p:Pb)(hf:xY p)(A:Bb)(kc:Nat)(SV:Bb)(ks:Nat)(w:Ba)(L0 B0:Nat)(aX:B0<=w.heap.size)(eP:CAt w B0 A p.t.cases)(nX:SAt w B0 SV p.a.sts)(mv:CAtL L0 B0 w A p.t.cases)(mt:SAtL L0 B0 w SV p.a.sts) :
  Ap An 19 #[.agg (p.vs A kc SV ks)] w (RetSysFC L0 B0 (zD p) w):=by
 have hA:=eP.more aX;have hS:=nX.more aX;have HA0:=zH mv;have lE:=zH mt;clear mv mt eP nX;have B9:=zH (fun (W:Ba) (h1:CAt W W.heap.size A p.t.cases) (h2:SAt W W.heap.size SV p.a.sts)=>Qo p hf.1 A kc SV ks W h1 h2);have ay:=zH (@xm p);have al:=zH (@yW p);have aw:=zH (@xr p);have iI:=zH hf;obtain⟨w1,ah,d0,d1,d2,bn,hBw⟩:=qe w (p.vs A kc SV ks) #[O U 0,O U 0,O U 0,I Z 0 0,O U 0,I Z 0 0,O U 0,O U 0,I Z 0 0,I Z 0 0] #[O U 0] 29 36 46;have HA:=zH hA;have HS:=zH hS;have bk:=zH hBw;have bu:=zH d0;have bQ:=zH d1;have iJ:=zH d2;have ES:=B9.out w1 ((hA.keep hBw).more hBw.size) ((hS.keep hBw).more hBw.size);have ES:=zH ES;unfold Pb.vs at ah d0 ES ⊢;obtain⟨q0,q1,q2,q3,q4,q5,q6,_⟩:=Kf d0;have aq:=zH ah;clear ah d0 d1 d2 hBw hA hS hf B9;refine yd func19 rfl ?_;simp only[ntmps19,List.size_toArray,List.length_cons,List.length_nil,Nat.reduceAdd,Nat.reduceSub,Array.replicate_succ,Array.replicate_zero,List.push_toArray,List.append_toArray,List.nil_append,List.cons_append];go_wp2_with fail;rw[aq.out];go_wp2_with fail;refine ES.out.mono ?_;rintro e w2 ⟨rfl,af⟩;clear ES aq q0 q1 q2 q3 q4 q5 q6;have D0:=zH (La af bu.out);have D1:=zH (La af bQ.out);have D2:=zH (La af iJ.out);have B2:=zH (bk.out.trans (af.mono (by omega)));have ed:=af.size;clear af
 by_cases fH:zC p=0
 case neg=>
  have Bs:jJ p=(0,zC p):=Ln fH;rw[Bs,ay.out fH];have e0:(zC p != 0)=Av:=by simpa using fH
  obtain⟨pe,CQ⟩:=Kh (zC p);rw[CQ] at e0 ⊢;have x0:w2.cell? ⟨w.heap.size+1,0,Z⟩=J (O U 0):=za D1.out 0 rfl;have f0:=zb D1.out 0;have x1:w2.cell? ⟨w.heap.size+1,1,Z⟩=J (O U 0):=za D1.out 1 rfl;have f1:=zb D1.out 1;have x2:w2.cell? ⟨w.heap.size+1,2,Z⟩=J (O U 0):=za D1.out 2 rfl;have f2:=zb D1.out 2;have x3:w2.cell? ⟨w.heap.size+1,3,Z⟩=J (I Z 0 0):=za D1.out 3 rfl;have f3:=zb D1.out 3;have x4:w2.cell? ⟨w.heap.size+1,4,Z⟩=J (O U 0):=za D1.out 4 rfl;have f4:=zb D1.out 4;have x5:w2.cell? ⟨w.heap.size+1,5,Z⟩=J (I Z 0 0):=za D1.out 5 rfl;have f5:=zb D1.out 5;have x6:w2.cell? ⟨w.heap.size+1,6,Z⟩=J (O U 0):=za D1.out 6 rfl;have f6:=zb D1.out 6;have x7:w2.cell? ⟨w.heap.size+1,7,Z⟩=J (O U 0):=za D1.out 7 rfl;have f7:=zb D1.out 7;have x8:w2.cell? ⟨w.heap.size+1,8,Z⟩=J (I Z 0 0):=za D1.out 8 rfl;have f8:=zb D1.out 8;have x9:w2.cell? ⟨w.heap.size+1,9,Z⟩=J (I Z 0 0):=za D1.out 9 rfl;have f9:=zb D1.out 9;have y0:w2.cell? ⟨w.heap.size+1+1,0,Z⟩=J (O U 0):=za D2.out 0 rfl;have g0:=zb D2.out 0;go_wp2_with fail;obtain⟨k1,k2,k3,_,_⟩:=kM (O U 0) (O U 0) (O U 0) (I Z 0 0) (O U 0) (I Z 0 0) (O U 0) (O U 0) (I Z 0 0) (I Z 0 0) (O U pe) D1.out D2.out (by omega) B2.out (by omega:w.heap.size<=w.heap.size+1) (by omega:w.heap.size<=w.heap.size+1+1);refine yD (B:=w.heap.size) (Marks.nil _ _) ?_
  intro W hX;have c0:W.cell? ⟨w.heap.size+1,0,Z⟩=J (O U 0):=hX.cell (za k1 0 rfl);have c1:W.cell? ⟨w.heap.size+1,1,Z⟩=J (O U 0):=hX.cell (za k1 1 rfl);have c2:W.cell? ⟨w.heap.size+1,2,Z⟩=J (O U 0):=hX.cell (za k1 2 rfl);have c3:W.cell? ⟨w.heap.size+1,3,Z⟩=J (I Z 0 0):=hX.cell (za k1 3 rfl);have c4:W.cell? ⟨w.heap.size+1,4,Z⟩=J (O U 0):=hX.cell (za k1 4 rfl);have c5:W.cell? ⟨w.heap.size+1,5,Z⟩=J (I Z 0 0):=hX.cell (za k1 5 rfl);have c6:W.cell? ⟨w.heap.size+1,6,Z⟩=J (O U 0):=hX.cell (za k1 6 rfl);have c7:W.cell? ⟨w.heap.size+1,7,Z⟩=J (O U 0):=hX.cell (za k1 7 rfl);have c8:W.cell? ⟨w.heap.size+1,8,Z⟩=J (I Z 0 0):=hX.cell (za k1 8 rfl);have c9:W.cell? ⟨w.heap.size+1,9,Z⟩=J (I Z 0 0):=hX.cell (za k1 9 rfl);have tD:W.cell? ⟨w.heap.size+1+1,0,Z⟩=J (O U pe):=hX.cell (za k2 0 rfl);have hR:=RetSysFC.zero (L0:=L0) (B0:=B0) pe (k3.trans hX.below);rw[ay.out fH,CQ];exact⟨_,by simp[results,results19,go_sem,c0,c1,c2,c3,c4,c5,c6,c7,c8,c9,tD],hR⟩
 case pos=>
 have Bs:jJ p=ja 1048576 (zK p):=Lj (by simpa using fH);rw[Bs]
 by_cases hT:4096<zK p
 case pos=>
  have HB:=zH (al.out fH hT)
  by_cases tl:1048576<zK p
  case pos=>
   have rt:ja 1048576 (zK p)=(0,17):=Ln tl;rw[rt];clear ay al aw Bs hT tl rt iI fH;have x0:w2.cell? ⟨w.heap.size+1,0,Z⟩=J (O U 0):=za D1.out 0 rfl;have f0:=zb D1.out 0;have x1:w2.cell? ⟨w.heap.size+1,1,Z⟩=J (O U 0):=za D1.out 1 rfl;have f1:=zb D1.out 1;have x2:w2.cell? ⟨w.heap.size+1,2,Z⟩=J (O U 0):=za D1.out 2 rfl;have f2:=zb D1.out 2;have x3:w2.cell? ⟨w.heap.size+1,3,Z⟩=J (I Z 0 0):=za D1.out 3 rfl;have f3:=zb D1.out 3;have x4:w2.cell? ⟨w.heap.size+1,4,Z⟩=J (O U 0):=za D1.out 4 rfl;have f4:=zb D1.out 4;have x5:w2.cell? ⟨w.heap.size+1,5,Z⟩=J (I Z 0 0):=za D1.out 5 rfl;have f5:=zb D1.out 5;have x6:w2.cell? ⟨w.heap.size+1,6,Z⟩=J (O U 0):=za D1.out 6 rfl;have f6:=zb D1.out 6;have x7:w2.cell? ⟨w.heap.size+1,7,Z⟩=J (O U 0):=za D1.out 7 rfl;have f7:=zb D1.out 7;have x8:w2.cell? ⟨w.heap.size+1,8,Z⟩=J (I Z 0 0):=za D1.out 8 rfl;have f8:=zb D1.out 8;have x9:w2.cell? ⟨w.heap.size+1,9,Z⟩=J (I Z 0 0):=za D1.out 9 rfl;have f9:=zb D1.out 9;have y0:w2.cell? ⟨w.heap.size+1+1,0,Z⟩=J (O U 0):=za D2.out 0 rfl;have g0:=zb D2.out 0;go_wp2_with fail
   obtain⟨k1,k2,k3,_,_⟩:=kM (O U 0) (O U 0) (O U 0) (I Z 0 0) (O U 0) (I Z 0 0) (O U 0) (O U 0) (I Z 0 0) (I Z 0 0) (O U 17) D1.out D2.out (by omega) B2.out (by omega:w.heap.size<=w.heap.size+1) (by omega:w.heap.size<=w.heap.size+1+1);refine yD (B:=w.heap.size) (Marks.nil _ _) ?_;intro W hX;have c0:W.cell? ⟨w.heap.size+1,0,Z⟩=J (O U 0):=hX.cell (za k1 0 rfl);have c1:W.cell? ⟨w.heap.size+1,1,Z⟩=J (O U 0):=hX.cell (za k1 1 rfl);have c2:W.cell? ⟨w.heap.size+1,2,Z⟩=J (O U 0):=hX.cell (za k1 2 rfl);have c3:W.cell? ⟨w.heap.size+1,3,Z⟩=J (I Z 0 0):=hX.cell (za k1 3 rfl);have c4:W.cell? ⟨w.heap.size+1,4,Z⟩=J (O U 0):=hX.cell (za k1 4 rfl);have c5:W.cell? ⟨w.heap.size+1,5,Z⟩=J (I Z 0 0):=hX.cell (za k1 5 rfl);have c6:W.cell? ⟨w.heap.size+1,6,Z⟩=J (O U 0):=hX.cell (za k1 6 rfl);have c7:W.cell? ⟨w.heap.size+1,7,Z⟩=J (O U 0):=hX.cell (za k1 7 rfl);have c8:W.cell? ⟨w.heap.size+1,8,Z⟩=J (I Z 0 0):=hX.cell (za k1 8 rfl);have c9:W.cell? ⟨w.heap.size+1,9,Z⟩=J (I Z 0 0):=hX.cell (za k1 9 rfl);have tD:W.cell? ⟨w.heap.size+1+1,0,Z⟩=J (O U 17):=hX.cell (za k2 0 rfl);have hR:=RetSysFC.zero (L0:=L0) (B0:=B0) 17 (k3.trans hX.below);rw[HB.out];exact⟨_,by simp[results,results19,go_sem,c0,c1,c2,c3,c4,c5,c6,c7,c8,c9,tD],hR⟩
  have rt:ja 1048576 (zK p)=((zK p:Int),0):=Lj tl;rw[rt];obtain⟨T,rB⟩:=Kh (zK p);rw[rB] at hT tl ⊢;have Ky:(4096:Int)<(T:Int):=by omega
  clear ay al aw Bs rt iI fH rB;have x0:w2.cell? ⟨w.heap.size+1,0,Z⟩=J (O U 0):=za D1.out 0 rfl;have f0:=zb D1.out 0;have x1:w2.cell? ⟨w.heap.size+1,1,Z⟩=J (O U 0):=za D1.out 1 rfl;have f1:=zb D1.out 1;have x2:w2.cell? ⟨w.heap.size+1,2,Z⟩=J (O U 0):=za D1.out 2 rfl;have f2:=zb D1.out 2;have x3:w2.cell? ⟨w.heap.size+1,3,Z⟩=J (I Z 0 0):=za D1.out 3 rfl;have f3:=zb D1.out 3;have x4:w2.cell? ⟨w.heap.size+1,4,Z⟩=J (O U 0):=za D1.out 4 rfl;have f4:=zb D1.out 4;have x5:w2.cell? ⟨w.heap.size+1,5,Z⟩=J (I Z 0 0):=za D1.out 5 rfl;have f5:=zb D1.out 5;have x6:w2.cell? ⟨w.heap.size+1,6,Z⟩=J (O U 0):=za D1.out 6 rfl;have f6:=zb D1.out 6;have x7:w2.cell? ⟨w.heap.size+1,7,Z⟩=J (O U 0):=za D1.out 7 rfl;have f7:=zb D1.out 7;have x8:w2.cell? ⟨w.heap.size+1,8,Z⟩=J (I Z 0 0):=za D1.out 8 rfl;have f8:=zb D1.out 8;have x9:w2.cell? ⟨w.heap.size+1,9,Z⟩=J (I Z 0 0):=za D1.out 9 rfl;have f9:=zb D1.out 9;have y0:w2.cell? ⟨w.heap.size+1+1,0,Z⟩=J (O U 0):=za D2.out 0 rfl;have g0:=zb D2.out 0;go_wp2_with fail;obtain⟨k1,k2,k3,_,_⟩:=kM (O U 0) (O U 0) (O U 0) (I Z 0 0) (O U 0) (I Z 0 0) (O U 0) (O U 0) (I Z 0 0) (I Z 0 0) (O U 17) D1.out D2.out (by omega) B2.out (by omega:w.heap.size<=w.heap.size+1) (by omega:w.heap.size<=w.heap.size+1+1);refine yD (B:=w.heap.size) (Marks.nil _ _) ?_
  intro W hX;have c0:W.cell? ⟨w.heap.size+1,0,Z⟩=J (O U 0):=hX.cell (za k1 0 rfl);have c1:W.cell? ⟨w.heap.size+1,1,Z⟩=J (O U 0):=hX.cell (za k1 1 rfl);have c2:W.cell? ⟨w.heap.size+1,2,Z⟩=J (O U 0):=hX.cell (za k1 2 rfl);have c3:W.cell? ⟨w.heap.size+1,3,Z⟩=J (I Z 0 0):=hX.cell (za k1 3 rfl);have c4:W.cell? ⟨w.heap.size+1,4,Z⟩=J (O U 0):=hX.cell (za k1 4 rfl);have c5:W.cell? ⟨w.heap.size+1,5,Z⟩=J (I Z 0 0):=hX.cell (za k1 5 rfl);have c6:W.cell? ⟨w.heap.size+1,6,Z⟩=J (O U 0):=hX.cell (za k1 6 rfl);have c7:W.cell? ⟨w.heap.size+1,7,Z⟩=J (O U 0):=hX.cell (za k1 7 rfl);have c8:W.cell? ⟨w.heap.size+1,8,Z⟩=J (I Z 0 0):=hX.cell (za k1 8 rfl);have c9:W.cell? ⟨w.heap.size+1,9,Z⟩=J (I Z 0 0):=hX.cell (za k1 9 rfl);have tD:W.cell? ⟨w.heap.size+1+1,0,Z⟩=J (O U 17):=hX.cell (za k2 0 rfl);have hR:=RetSysFC.zero (L0:=L0) (B0:=B0) 17 (k3.trans hX.below);rw[HB.out];exact⟨_,by simp[results,results19,go_sem,c0,c1,c2,c3,c4,c5,c6,c7,c8,c9,tD],hR⟩
 case neg=>
 have rt:ja 1048576 (zK p)=((zK p:Int),0):=Lj (by omega);rw[rt];have HB:=zH (aw.out fH (by omega));have df:zK p<=60:=by have:=iI.out.2 fH;omega
 obtain⟨cK,dO,ia,mX,sA⟩:=zJ fH;obtain⟨K,hK⟩:=Lr mX;obtain⟨lS,fU,na⟩:=yt cK;have DQ:K<=6:=by omega
 have lQ:zK p=zG p.a K 0*p.t.cases.length:=by unfold zK;rw[hK];rfl
 have nk:zG p.a K 0<=60:=by
  have:=Pm (zG p.a K 0) lS;omega
 have iY:=B2.out;have Tu:=zH (Jm p.a iI.out.1.2 dO K (by omega) (by omega) SV ks w2 ((HS.out.keep iY).more iY.size));have rY:=zH hK;obtain⟨T,rB⟩:=Kh (zK p);rw[rB] at df lQ ⊢;have rM:=zH rB;have EQ:=zH lQ;have Ky:¬(4096:Int)<(T:Int):=by omega
 have q4:=za D0.out 4 rfl;have q5:=za D0.out 5 rfl;have q6:w2.cell? ⟨w.heap.size,6,Z⟩=J (O U (K:Int)):=by rw[<-hK];exact za D0.out 6 rfl
 obtain⟨N,hN⟩:=Lr (show 0<=p.t.n by omega);have fy:=zH hN;have tQ:=zH dO;have rU:=zH ia;have Mt:=zH (Z8 cK);clear ay al aw Bs rt hT rB lQ hK fH cK dO ia mX sA iY hN;go_wp2_with fail;refine Tu.out.mono ?_;rintro e w3 ⟨AW,cw,rfl,bP,ap⟩;clear q4 q5 q6 Tu;have iO:=ap.size;have NR:=zH (La ap D0.out);have Ur:=zH (La ap D1.out);have Uq:=zH (La ap D2.out);have B3:=zH (B2.out.trans (ap.mono (by omega)));have dV:=zH bP;have bI:=(yq iI.out.1.2 tQ.out).2.1;have Nj:=zH (Qp p iI.out.1 lS bI A kc SV ks w3 L0 B0 (Lx aX B3.out.size) (HA0.out.keep (B3.out.mono aX)) (lE.out.keep (B3.out.mono aX)));unfold Pb.vs at Nj;obtain⟨q0,q1,q2,q3,q4,q5,q6,_⟩:=Kf NR.out;clear ap bP D0 D1 D2 B2;go_wp2_with fail;refine Nj.out.mono ?_;rintro e w4 ⟨g4,nN,FX,nM,rfl,SY,Sz,RW,VG,aU⟩;obtain⟨A4,tA⟩:∃A4:Bb,A4=J ⟨g4,0,Z⟩:=⟨_,rfl⟩;obtain⟨oe,tp⟩:∃S4:Bb,S4=J ⟨FX,0,Z⟩:=⟨_,rfl⟩;rw[<-tA,<-tp];have NP:=zH tA;have MA:=zH tp;clear tA tp;have lJ:=aU.size;have nI:=zH (La aU NR.out);have GF:=zH (La aU Ur.out);have D24:=zH (La aU Uq.out);have B4:=zH (B3.out.trans (aU.mono (by omega)));have GB:=zH SY;have mx:=zH Sz;have Ga:=zH ((dV.out.keep aU).more aU.size);unfold Pb.vs
 have p0:w4.cell? ⟨w.heap.size,0,Z⟩=J (O U p.t.n):=za nI.out 0 rfl;have p1:w4.cell? ⟨w.heap.size,1,Z⟩=J (O U p.t.ins):=za nI.out 1 rfl;have p2:w4.cell? ⟨w.heap.size,2,Z⟩=J (O U p.t.outs):=za nI.out 2 rfl;have p3:w4.cell? ⟨w.heap.size,3,Z⟩=J (I A p.t.cases.length kc):=za nI.out 3 rfl;have p4:w4.cell? ⟨w.heap.size,4,Z⟩=J (O U p.a.n):=za nI.out 4 rfl;have p5:w4.cell? ⟨w.heap.size,5,Z⟩=J (I SV p.a.sts.length ks):=za nI.out 5 rfl;have p6:w4.cell? ⟨w.heap.size,6,Z⟩=J (O U p.k):=za nI.out 6 rfl;have AI:w.heap.size<w4.heap.size:=by omega
 clear SY Sz aU q0 q1 q2 q3 q4 q5 q6 Nj NR Ur Uq dV;have ie:=@run_makeMap An;have pX:w.heap.size<w4.heap.size+1:=by omega
 have lr:w.heap.size<w4.heap.size+1+1:=by omega
 have mf:w.heap.size<w4.heap.size+1+1+1:=by omega
 have iB:w.heap.size<w4.heap.size+1+1+1+1:=by omega
 go_wp2_with fail;obtain⟨W5,mq,x5,lA,dT⟩:=ZK w4 (Ah #[O U p.t.n,O U p.t.ins,O U p.t.outs,I A4 p.t.cases.length nN,O U p.a.n,I oe p.a.sts.length nM,O U p.k,O U 0,I Z 0 0,I Z 0 0] 36);rw[mq];obtain⟨W6,mp,x6,sx,lc⟩:=ZK W5 (.map #[] 0);rw[mp];obtain⟨W7,iC,x7,fZ,rG⟩:=ZK W6 (Ah #[O U p.t.n,I Z 0 0,.map (J (w4.heap.size+1))] 111);rw[iC];obtain⟨W8,DE,x8,AN,lW⟩:=ZK W7 (Ah #[Ak (J ⟨w4.heap.size+1+1,0,Z⟩)] 108);rw[DE];have lN:MapOf (fun v:Vw=>.agg v.cells) W6 W5.heap.size 0 (j6 []):=by rw[<-mp,numF_nil];exact MapOf.made W5
 have pz:Ao w4.heap.size w4 W8:=dT.trans ((lc.mono (by omega)).trans ((rG.mono (by omega)).trans (lW.mono (by omega))));have D08:=zH (Lb pz (by omega) nI.out);clear mq mp iC DE ie p0 p1 p2 p3 p4 p5 p6 pX lr mf iB;have Br:=execs_any p A kc SV ks AW (zn p.a K 0).length cw W8;unfold Pb.vs at Br;refine Br.mono ?_;rintro e W9 ⟨rfl,fM⟩;have U3:W9.heap.size=w4.heap.size+6:=by rw[<-fM];simp;omega
 have lV:Ao W8.heap.size W8 W9:=by rw[<-fM];exact xX W8 _ _
 have pz:Ao w4.heap.size w4 W8:=dT.trans ((lc.mono (by omega)).trans ((rG.mono (by omega)).trans (lW.mono (by omega))));have py:Ao w4.heap.size w4 W9:=pz.trans (lV.mono (by omega));have CR:W9.heap[W8.heap.size]?=J (Ah (p.vs A kc SV ks) 29 (0,0)):=by rw[<-fM];exact zB (zh W8 _) _
 have Hu:W9.heap[W8.heap.size+1]?=J (Ah #[.slice AW (zn p.a K 0).length cw] 104 (0,0)):=by
  rw[<-fM];have:=zh (W8.alloc (Ah (p.vs A kc SV ks) 29)) (Ah #[.slice AW (zn p.a K 0).length cw] 104);rwa[LZ] at this
 have y5:=Lb lV (by omega) (Lb lW (by omega) (Lb rG (by omega) (Lb lc (by omega) x5)));have y7:=Lb lV (by omega) (Lb lW (by omega) x7);have y8:=Lb lV (by omega) x8;have ym:=((lN.same (rG.block _ (by omega))).same (lW.block _ (by omega))).same (lV.block _ (by omega));rw[lA] at ym;rw[sx,lA] at y7;rw[fZ,sx,lA] at y8;have F6:=zH y8;have HP9:=zH CR;have SZ:W8.heap.size=w4.heap.size+1+1+1+1:=by omega
 -- the words' slices
 obtain⟨sl,mh⟩:∃sl:Nat->Au,sl=fun j=>match AW with | some ad=>(w4.cell? ⟨ad.block,ad.off+j,Z⟩).getD undef | none=>undef:=⟨_,rfl⟩
 have HSL:As (∀(j:Nat) (hj:j<(zn p.a K 0).length),∃A' c,sl j=.slice A' (zn p.a K 0)[j].length c/\RAt w4 w4.heap.size A' (zn p.a K 0)[j]):=fun j hj=>by
  obtain⟨b,off,A',c,e,_,hc,hr⟩:=Ga.out.at_ j hj;subst e;refine⟨A',c,?_,hr⟩;rw[mh];show(w4.cell? ⟨b,off+j,Z⟩).getD undef=_;rw[hc];rfl
 have i9:SlAt w4 w4.heap.size AW (zn p.a K 0).length sl:=fun j hj=>by
  obtain⟨b,off,A',c,e,hb,hc,hr⟩:=Ga.out.at_ j hj;subst e;refine⟨b,off,rfl,hb,?_⟩;rw[mh];show _=J ((w4.cell? ⟨b,off+j,Z⟩).getD undef);rw[hc];rfl
 have ec:(zn p.a K 0).length<=60:=by rw[yr];exact nk
 have mc:=zH (YR (p.vs A kc SV ks) p.t.cases.length iI.out.1.1.1 A kc rfl AW (zn p.a K 0).length cw (by omega) sl w4.heap.size W8.heap.size (W8.heap.size+1) W9 CR Hu (i9.same fun k hk=>py.block k hk) py.size);obtain⟨SC,tn⟩:∃SC:Au->Array Au,SC=fun E=>#[O U p.t.n,O U p.t.ins,O U p.t.outs,I A4 p.t.cases.length nN,O U p.a.n,I oe p.a.sts.length nM,O U p.k,O U 0,I Z 0 0,E]:=⟨_,rfl⟩
 have H0:As (BlIn p W9.heap.size w4.heap.size (w4.heap.size+1+1) (w4.heap.size+1) w4.heap.size SC W9 [] (I Z 0 0) (I Z 0 0) W9):=
  ⟨Wrote.refl _ _,⟨y7,⟨0,ym⟩,OwnV.nil _ _,fun k e=>(by cases e),by omega,by omega,by omega⟩,by rw[tn];exact y5,OwnX.nil _ _ _ _,fun k e=>(by cases e)⟩
 have bK:As (BlB W9.heap.size w4.heap.size (w4.heap.size+1+1) (w4.heap.size+1) w4.heap.size W9):=⟨rfl,by omega,by omega,by omega,⟨by omega,by omega,by omega⟩,by omega,by omega⟩;have mw:=zH tn;have Az:=zH py;have Eq:=zH Hu;clear Br fM lV pz py CR Hu y5 y7 y8 ym mh i9 tn lN x5 x6 x7 x8 dT lc rG lW;rw[SZ];rw[SZ] at mc HP9 Eq;go_wp2_with fail
 refine kg rfl (PX func87 (by kernel_rfl) rfl) mc.out (by rintro k (h | rfl | rfl)<;>omega) (fun _=>rfl)
  (fun (pre:List { x:Nat×Nat // x∈zA (zn p.a K 0).length 0 p.t.cases.length }) (X:Ba)=>∃V E,BlIn p W9.heap.size w4.heap.size (w4.heap.size+1+1) (w4.heap.size+1) w4.heap.size SC W9 (kZ (zn p.a K 0) (pre.map (·.1))) V E X)
  (fun _ _ _=>False) ?hI (fun _ _ _ _ _ h _ _=>h) ⟨_,_,H0.out⟩ ?a1 ?assign ?body ?done ?stop
 case hI=>
  rintro s X X' row ⟨V,E,h⟩ hg hr;exact⟨V,E,h.turn bK.out hg hr⟩
 case assign=>
  intro l x X K' hK;gi_wp2;exact hK
 case body=>
  rintro l pre x X ⟨V,E,hI⟩ ac;obtain⟨nO,mK,Ff⟩:=kp _ _ _ x.2;have ij:=Az.out;have iZ:=hI.bel bK.out;have cD:Ao w.heap.size w X:=B4.out.trans ((ij.trans iZ).mono (by omega));have hM:x.1.1<p.t.cases.length:=by omega
  obtain⟨bc,oc,A0,c0,A1,c1,A2,c2,eA,hbc,i0,_,_,I0,_,_⟩:=(HA.out.keep cD).row x.1.1 hM;subst eA;obtain⟨AL,Tg,Tb,KB⟩:=HSL.out x.1.2 Ff;have iA:=Ld (l:=zn p.a K 0) Ff;have dZ:(zn p.a K 0).getD x.1.2 []=(zn p.a K 0)[x.1.2]:=by rw[Le,Lg Ff];rfl
  have nf:zW p x.1.1=p.t.cases[x.1.1].inp:=by unfold zW;rw[Le,Lg hM];rfl
  obtain⟨word,fi⟩:=Kh ((zn p.a K 0)[x.1.2]);rw[fi] at Tb KB iA dZ;have oJ:=yQ p.a K 0 word iA;have HWM:=zH (qS p.a K 0 word iA);obtain⟨AV,kv,rfl⟩:=hI.bd.own.lit;obtain⟨AE,ke,rfl,_,_,_⟩:=hI.out.form zy;have ff:=zH hI;have aL:(kZ (zn p.a K 0) (pre.map (·.1))).length=pre.length:=by simp[kZ]
  have dc:=wl p (by omega) (kZ (zn p.a K 0) (pre.map (·.1))) (fun y hy=>by
   obtain⟨z,hz,rfl⟩:=LA.1 hy;obtain⟨z2,cp,rfl⟩:=LA.1 hz;have h2:=(kp _ _ _ z2.2).2.2;have e2:(zn p.a K 0).getD z2.1.2 []=(zn p.a K 0)[z2.1.2]:=by rw[Le,Lg h2];rfl
   show((zn p.a K 0).getD z2.1.2 []).length<=6;rw[e2,yQ p.a K 0 _ (Ld h2)]
   exact DQ)
  rw[aL] at dc
  have ib:pre.length<60:=by
   have h6:(zA (zn p.a K 0).length 0 p.t.cases.length).length<=60:=by
    rw[km,yr,Pd];have:=EQ.out;omega
   omega
  obtain⟨PL,KD⟩:=Kh (kZ (zn p.a K 0) (pre.map (·.1)));have Er:=zH KD;rw[KD] at hI ff dc aL;have KP:=hI.big bK.out;have e7:X.cell? ⟨w4.heap.size,9,Z⟩=J (.slice AE (zo p PL).2.length ke):=za hI.sys 9 (by rw[mw.out];rfl);have f7:=zb hI.sys 9;have e8:X.cell? ⟨w4.heap.size+1+1+1,0,Z⟩=J (Ak (J ⟨w4.heap.size+1+1,0,Z⟩)):=za ((hI.same bK.out (by omega) (by omega) (by omega) (by omega)).trans F6.out) 0 rfl;have e3:X.cell? ⟨w.heap.size,3,Z⟩=J (I (J ⟨bc,oc,Z⟩) p.t.cases.length kc):=za (Lb iZ (by omega) (Lb ij (by omega) nI.out)) 3 rfl;have KL:((x.1.1:Nat):Int)<(p.t.cases.length:Int):=by omega
  have eN:(0:Int)<=((x.1.1:Nat):Int):=by omega
  have iq:As (∀W,Ao X.heap.size X W->W.cell? ⟨w4.heap.size,9,Z⟩=J (.slice AE (zo p PL).2.length ke)/\W.cell? ⟨w4.heap.size+1+1+1,0,Z⟩=J (Ak (J ⟨w4.heap.size+1+1,0,Z⟩))/\W.cell? ⟨w.heap.size,3,Z⟩=J (I (J ⟨bc,oc,Z⟩) p.t.cases.length kc)/\W.cell? ⟨bc,oc+x.1.1*3,Z⟩=J (I A0 p.t.cases[x.1.1].inp.length c0)):=fun W hW=>
   ⟨(hW.cell (p:=⟨w4.heap.size,9,Z⟩) (by show w4.heap.size<_;omega)).trans e7,(hW.cell (p:=⟨w4.heap.size+1+1+1,0,Z⟩) (by show w4.heap.size+1+1+1<_;omega)).trans e8,(hW.cell (p:=⟨w.heap.size,3,Z⟩) (by show w.heap.size<_;omega)).trans e3,(hW.cell (p:=⟨bc,_,Z⟩) (by show bc<_;omega)).trans i0⟩
  have EN:=zH dc;have Ej:=zH oJ;have BZ:=zH dZ;have MZ:=zH nf;have M7:=zH I0;have my:=zH KB;have dA:=zH iZ;clear hI iZ cD dZ nf oJ dc aL fi iA I0 KB KD
  try dsimp only
  rw[Tb];gi_wp2_with fail
  refine vo [(0,Av),(1,Av),(2,Av),(3,Av),(5,Av),(6,Av),(7,Av),(8,Av),(9,Av),(10,Av),(11,Av),(12,Av),(13,Av),(4,Ax),(14,Ax),(15,Ax),(16,Ax),(17,Ax),(18,Ax),(19,Ax)]
   (fun W=>W.cell? ⟨w4.heap.size,9,Z⟩=J (.slice AE (zo p PL).2.length ke)/\W.cell? ⟨w4.heap.size+1+1+1,0,Z⟩=J (Ak (J ⟨w4.heap.size+1+1,0,Z⟩))/\W.cell? ⟨w.heap.size,3,Z⟩=J (I (J ⟨bc,oc,Z⟩) p.t.cases.length kc)/\W.cell? ⟨bc,oc+x.1.1*3,Z⟩=J (I A0 p.t.cases[x.1.1].inp.length c0))
   (by kernel_rfl) (by kernel_rfl) (by kernel_rfl) (by rintro⟨_,_,h⟩;exact h) (iq.out _ (Lp _ _).drew) ?_
  clear e7 e8 e3 i0
  repeat
   apply zg rfl
   . rintro K' ae W ⟨y0,y1,y2,y3⟩
     go_simp;exact ae
  have Kz:RAt X w4.heap.size AL word:=my.out.keep (Az.out.trans dA.out)
  -- the word's copy
  refine zE rfl ?_;intro K' ae;go_simp;refine(Zo AL word.length Tg (yj word) X.drew (xf word) (wD (w:=X.drew) (Kz.more (by show w4.heap.size<=X.heap.size;omega))) (jA word) (by have:=Ej.out;omega)).mono ?_;rintro e w5 ⟨v5,rfl,mZ,cd⟩;have cd:Ao X.heap.size X w5:=vK cd;have mZ:OwnR kRd w5 X.heap.size v5 word.length (yj word):=mZ;obtain⟨A5,c5,rfl,ru,_,iR⟩:=jz mZ;have Ni:=zH ru;clear ru;refine ae _ _ (iq.out _ cd) ?_;clear ae K' mZ
  -- the views
  refine zE rfl ?_;intro K' ae;go_simp;have tg:=ff.out.bd.on cd;rw[fy.out] at tg;have lA:=cd.size;have bZ:(p.t.cases[x.1.1].inp).length=N:=by have:=Mt.out _ (Ld hM);have:=fy.out;omega
  have SR:IAt w5 w4.heap.size A0 p.t.cases[x.1.1].inp:=(M7.out.keep (cd.mono (by omega:w.heap.size<=X.heap.size))).more (by omega)
  have TK:=zH (play_any w4.heap.size (w4.heap.size+1+1) (w4.heap.size+1) N (by have:=fy.out;omega) (by have:=fy.out;omega) (.slice AV (zo p PL).1.length kv) (zo p PL).1 (by have:=EN.out;omega) p.t.cases[x.1.1].inp bZ word (by have:=Ej.out;omega) (fun r hr=>by
   obtain⟨m,hm,rfl⟩:=HWM.out r hr;obtain⟨z1,z2,_⟩:=xv (yq iI.out.1.2 tQ.out).1 m hm
   exact⟨z1,by rw[z2,<-rU.out,fy.out]⟩) A0 AL c0 Tg w5 (by omega) tg SR (Kz.keep (cd.mono (by omega))))
  refine TK.out.mono ?_;rintro e w6 ⟨v6,V6,rfl,FG,sG,Fe,H7⟩;obtain⟨GH,Fb,rfl⟩:=FG.own.lit;obtain⟨VV,FO⟩:=Kh ((zm (zo p PL).1 N p.t.cases[x.1.1].inp word word.length).1);have nA:=zH FO
  have Wl:VV.length<=4000:=by
   have h2:=qG (zo p PL).1 N p.t.cases[x.1.1].inp word word.length;have h4:(word.length+1)*N<=7*5:=NY (by have:=Ej.out;omega) (by have:=fy.out;omega);have h5:=EN.out;rw[FO] at h2;omega
  rw[FO] at FG sG Fe H7;clear FO;clear TK tg Kz SR bZ;obtain⟨A6,c6,rfl,_,_,Fv⟩:=Zs Fe;have OS:=fun k hk=>(Fe.lt k hk).1
  have eT:=zH cd;have EF:=zH iR;have HD6:=zH FG;have mb:=zH sG;have BS:=zH Fv;have TN:=zH H7;have Tz:=zH OS;have U5:=sG.1.size
  have Gn:As (∀(k o:Nat) (u:Au),k≠w4.heap.size+1+1->k≠w4.heap.size+1->k<W9.heap.size->w5.cell? ⟨k,o,Z⟩=J u->w6.cell? ⟨k,o,Z⟩=J u):=fun k o u h1 h2 h3 hc=>
   (L7 (sG.1.block k (by omega) fun hr=>by
    rcases hr with e | e | e
    . exact h1 e
    . exact h2 e
    . have:=(ff.out.no k e).1;omega)).trans hc
  have k5:=iq.out _ cd
  have k6:w6.cell? ⟨w4.heap.size,9,Z⟩=J (.slice AE (zo p PL).2.length ke)/\w6.cell? ⟨w4.heap.size+1+1+1,0,Z⟩=J (Ak (J ⟨w4.heap.size+1+1,0,Z⟩))/\w6.cell? ⟨w.heap.size,3,Z⟩=J (I (J ⟨bc,oc,Z⟩) p.t.cases.length kc)/\w6.cell? ⟨bc,oc+x.1.1*3,Z⟩=J (I A0 p.t.cases[x.1.1].inp.length c0):=
   ⟨Gn.out _ _ _ (by omega) (by omega) (by omega) k5.1,Gn.out _ _ _ (by omega) (by omega) (by omega) k5.2.1,Gn.out _ _ _ (by omega) (by omega) (by omega) k5.2.2.1,Gn.out _ _ _ (by omega) (by omega) (by omega) k5.2.2.2⟩
  refine ae _ _ k6 ?_;clear ae K' cd iR FG sG Fe Fv H7 OS k5;have EH:=zH k6;obtain⟨VS,Kw⟩:=Kh ((zm (zo p PL).1 N p.t.cases[x.1.1].inp word word.length).2);have Gb:=zH Kw;rw[Kw] at BS Tz TN ⊢;clear Kw k6
  -- the execution
  refine zE rfl ?_;intro K' ae;go_simp;refine ae _ _ EH.out ?_;clear ae K';refine zE rfl ?_;intro K' ae;go_simp;obtain⟨BH,DF,d7,U4,j'⟩:=zt w6 #[O U x.1.1,I A5 word.length c5,I A6 VS.length c6] 42;rw[DF];clear DF
  have k7:BH.cell? ⟨w4.heap.size,9,Z⟩=J (.slice AE (zo p PL).2.length ke)/\BH.cell? ⟨w4.heap.size+1+1+1,0,Z⟩=J (Ak (J ⟨w4.heap.size+1+1,0,Z⟩))/\BH.cell? ⟨w.heap.size,3,Z⟩=J (I (J ⟨bc,oc,Z⟩) p.t.cases.length kc)/\BH.cell? ⟨bc,oc+x.1.1*3,Z⟩=J (I A0 p.t.cases[x.1.1].inp.length c0):=
   ⟨(j'.cell (p:=⟨w4.heap.size,9,Z⟩) (by show w4.heap.size<_;omega)).trans EH.out.1,(j'.cell (p:=⟨w4.heap.size+1+1+1,0,Z⟩) (by show w4.heap.size+1+1+1<_;omega)).trans EH.out.2.1,(j'.cell (p:=⟨w.heap.size,3,Z⟩) (by show w.heap.size<_;omega)).trans EH.out.2.2.1,(j'.cell (p:=⟨bc,_,Z⟩) (by show bc<_;omega)).trans EH.out.2.2.2⟩
  refine ae _ _ k7 ?_;clear ae K';refine zE rfl ?_;intro K' ae;rw[Ln (by rfl)];have cQ:=ff.out.outn bK.out eT.out mb.out;have fb:=xP p PL;have aL:PL.length=pre.length:=by rw[<-Er.out];simp[kZ]
  obtain⟨aD,bh,fu,bq⟩:=cQ.1.below zy j' (Lh _);refine uK kXn_ok (.tmp 50) (.tmp 65) (by rfl) W9.heap.size (.slice AE (zo p PL).2.length ke) (zo p PL).2.length aD.flatten (by rfl) fu w6.heap.size #[O U x.1.1,I A5 word.length c5,I A6 VS.length c6] (by rfl) d7 rfl (by simp[Value.oneCell']) (by omega) (by omega) _ rfl ?_;intro g' cap w8 hr hg bz Vm;clear fb aL;have hX:=ff.out.lies (i:=x.1.1) (c2:=c5) (c3:=c6) bK.out eT.out mb.out j' EF.out BS.out Tz.out TN.out Ni.out
  have KC:zm (zo p PL).1 p.t.n.toNat (zW p x.1.1) word word.length=zm (zo p PL).1 N p.t.cases[x.1.1].inp word word.length:=by
   rw[MZ.out,show p.t.n.toNat=N by have:=fy.out;omega]
  have R8:BdIn w4.heap.size (w4.heap.size+1+1) (w4.heap.size+1) p.t.n (I GH VV.length Fb) (zm (zo p PL).1 p.t.n.toNat (zW p x.1.1) word word.length).1 w6:=by
   rw[KC,nA.out,fy.out];exact HD6.out
  have Sr:ZW.lies (fun k=>(W9.heap.size<=k/\(I GH VV.length Fb).ownBlock≠J k)/\(I AE (zo p PL).2.length ke).ownBlock≠J k) BH [O U x.1.1,I A5 word.length c5,I A6 VS.length c6] ⟨x.1.1,word,(zm (zo p PL).1 p.t.n.toNat (zW p x.1.1) word word.length).2⟩:=by rw[KC,Gb.out];exact hX
  have BN:=ff.out.next (x:=(x.1.1,word)) bK.out eT.out mb.out j' R8 (fun E'=>by rw[mw.out];rfl) bh bq Sr hr hg bz;have BN:=zH BN;have DU:=ff.out.out.lt
  have k8:∀(k o:Nat) (u:Au),k<W9.heap.size->BH.cell? ⟨k,o,Z⟩=J u->w8.cell? ⟨k,o,Z⟩=J u:=fun k o u h3 hc=>
   (L7 (hg.block k (by omega) fun e=>by have:=(DU k e.symm).1;omega)).trans hc
  have AN:=hg.size;have BM:=zH (⟨k8 _ _ _ (by omega) k7.1,k8 _ _ _ (by omega) k7.2.1,k8 _ _ _ (by omega) k7.2.2.1,k8 _ _ _ (by omega) k7.2.2.2⟩:w8.cell? ⟨w4.heap.size,9,Z⟩=J (.slice AE (zo p PL).2.length ke)/\w8.cell? ⟨w4.heap.size+1+1+1,0,Z⟩=J (Ak (J ⟨w4.heap.size+1+1,0,Z⟩))/\w8.cell? ⟨w.heap.size,3,Z⟩=J (I (J ⟨bc,oc,Z⟩) p.t.cases.length kc)/\w8.cell? ⟨bc,oc+x.1.1*3,Z⟩=J (I A0 p.t.cases[x.1.1].inp.length c0))
  have f8:w8.frozen? ⟨w4.heap.size,9,Z⟩=Ax:=by
   have z:=BN.out.1.sys;have z2:=zb z 9;rwa[World.frozen?_setCell] at z2
  refine ae _ _ BM.out ?_;clear ae K' hr hg bz hX Sr bh fu bq cQ k7 k8 R8 KC;refine zE rfl ?_;intro K' ae;go_simp;refine ae _ _ BM.out ?_;clear ae K';have e9:=BM.out.1;refine xh rfl (by kernel_rfl) ?_;intro K' ae;go_simp;refine ae (fun _=>True) _ _ trivial ?_;refine ya ?_;clear ae K' e9 f8
  try dsimp only
  obtain⟨WF,cZ⟩:=Kh (w8.setCell ⟨w4.heap.size,9,Z⟩ (I (J ⟨g',0,Z⟩) ((zo p PL).2.length+1) cap));rw[cZ] at BN ⊢;clear cZ;have rD:=BN.out.1;have a8:WF.cell? ⟨w4.heap.size+1+1+1,0,Z⟩=J (Ak (J ⟨w4.heap.size+1+1,0,Z⟩)):=za ((rD.same bK.out (by omega) (by omega) (by omega) (by omega)).trans F6.out) 0 rfl;have b8:WF.cell? ⟨w4.heap.size+1+1,1,Z⟩=J (I GH VV.length Fb):=za rD.bd.hB 1 rfl;have hng:¬(8192:Int)<(VV.length:Int):=by omega
  clear rD;gi_wp2_with fail;have rD:=BN.out;rw[U3] at rD;refine⟨rD.2.1,rD.2.2.keep fun k hk hs hr=>?_,⟨I GH VV.length Fb,I (J ⟨g',0,Z⟩) ((zo p PL).2.length+1) cap,?_⟩⟩
  . have:=ij.size
    rcases hs with hs | hs | hs<;>rcases hr with e | e | e | e<;>omega
  rw[LI,List.map_singleton,JI,Er.out,BZ.out];exact rD.1
 case done=>
  rintro D ys X hD fB ⟨V,E,hI⟩ ex;rw[fB,gZ p K rY.out] at hI;obtain⟨AV,kv,rfl⟩:=hI.bd.own.lit;obtain⟨AE,ke,rfl,Vv,Vu,_⟩:=hI.out.form zy;have ff:=zH hI;have ij:=Az.out;have iZ:=hI.bel bK.out;have KP:=hI.big bK.out;have Gs:=zH ex;have hDX:D<X.heap.size:=zd ex;have e8:X.cell? ⟨w4.heap.size+1+1+1,0,Z⟩=J (Ak (J ⟨w4.heap.size+1+1,0,Z⟩)):=za ((hI.same bK.out (by omega) (by omega) (by omega) (by omega)).trans F6.out) 0 rfl;have sw:=hI.sys;rw[mw.out] at sw;have t7:X.cell? ⟨w4.heap.size,7,Z⟩=J (O U 0):=za sw 7 rfl;have t8:X.cell? ⟨w4.heap.size,8,Z⟩=J (I Z 0 0):=za sw 8 rfl;have u7:=zb sw 7;have u8:=zb sw 8;have Mw:=zH sw;have dA:=zH iZ;have aG:=hI.bd.hB;have Ti:=(iZ.block (w.heap.size+1) (by omega)).trans (Lb ij (by omega) GF.out);have Th:=(iZ.block (w.heap.size+1+1) (by omega)).trans (Lb ij (by omega) D24.out);have tU:=zH Ti;have rV:=zH Th;clear hI iZ sw ex fB H0 mc Ti Th;go_wp2_with fail
  refine zz [(0,Av),(1,Av),(2,Av),(3,Av),(4,Av),(5,Av),(6,Av),(7,Av),(8,Ax),(9,Ax),(10,Ax)]
   (fun W=>W.cell? ⟨w4.heap.size+1+1+1,0,Z⟩=J (Ak (J ⟨w4.heap.size+1+1,0,Z⟩))/\W.heap[w4.heap.size+1+1]?=J (Ah #[O U p.t.n,.slice AV (zo p (zk p)).1.length kv,.map (J (w4.heap.size+1))] 111 (0,0)))
   (by kernel_rfl) (by kernel_rfl) ⟨e8,aG⟩ ?_
  clear e8 aG
  repeat
   apply zg rfl
   . rintro K' ae W ⟨y0,y1⟩
     have z0:W.cell? ⟨w4.heap.size+1+1,0,Z⟩=J (O U p.t.n):=za y1 0 rfl;have z1:W.cell? ⟨w4.heap.size+1+1,1,Z⟩=J (.slice AV (zo p (zk p)).1.length kv):=za y1 1 rfl;clear y1;go_simp;exact ae
  have e8:X.cell? ⟨w4.heap.size+1+1+1,0,Z⟩=J (Ak (J ⟨w4.heap.size+1+1,0,Z⟩)):=za ((ff.out.same bK.out (by omega) (by omega) (by omega) (by omega)).trans F6.out) 0 rfl;refine zE rfl ?_;intro K' ae;go_simp;refine ae _ _ ⟨e8,ff.out.bd.hB⟩ ?_;clear ae K';refine zE rfl ?_;intro K' ae;go_simp;refine ae _ _ ⟨e8,ff.out.bd.hB⟩ ?_;clear ae K';refine xh rfl (by kernel_rfl) ?_;intro K' ae;go_simp;refine ae (fun _=>True) _ _ trivial ?_;refine ya ?_;clear ae K' e8 t7 t8 u7 u8;obtain⟨W7,iC⟩:=Kh (((X.setCell ⟨w4.heap.size,7,Z⟩ (O U p.t.n)).setCell ⟨w4.heap.size,8,Z⟩ (.slice AV (zo p (zk p)).1.length kv)).drew)
  have fZ:W7.heap[w4.heap.size]?=J (Ah #[O U p.t.n,O U p.t.ins,O U p.t.outs,I A4 p.t.cases.length nN,O U p.a.n,I oe p.a.sts.length nM,O U p.k,O U p.t.n,.slice AV (zo p (zk p)).1.length kv,.slice AE (zo p (zk p)).2.length ke] 36 (0,0)):=by
   rw[<-iC];have q1:(X.setCell ⟨w4.heap.size,7,Z⟩ (O U p.t.n)).heap[w4.heap.size]?=J (Ah #[O U p.t.n,O U p.t.ins,O U p.t.outs,I A4 p.t.cases.length nN,O U p.a.n,I oe p.a.sts.length nM,O U p.k,O U p.t.n,I Z 0 0,.slice AE (zo p (zk p)).2.length ke] 36 (0,0)):=Lk X w4.heap.size 7 _ _ _ Mw.out;exact Lk _ w4.heap.size 8 _ _ _ q1
  have Bd:∀k,k≠w4.heap.size->W7.heap[k]?=X.heap[k]?:=fun k hk=>by
   rw[<-iC];exact(Lf _ ⟨w4.heap.size,8,Z⟩ _ k hk).trans (Lf _ ⟨w4.heap.size,7,Z⟩ _ k hk)
  have eK:Ao w.heap.size w W7:=by
   rw[<-iC];exact(((B4.out.trans ((ij.trans dA.out).mono (by omega))).setCell (p:=⟨w4.heap.size,7,Z⟩) (by show w.heap.size<=w4.heap.size;omega) _).setCell (p:=⟨w4.heap.size,8,Z⟩) (by show w.heap.size<=w4.heap.size;omega) _).drew
  have oI:W7.heap.size=X.heap.size:=by rw[<-iC];show(World.setCell _ _ _).heap.size=_;simp
  have eQ:=(Bd (w.heap.size+1) (by omega)).trans tU.out;have F1:=(Bd (w.heap.size+1+1) (by omega)).trans rV.out;have s0:W7.cell? ⟨w4.heap.size,0,Z⟩=J (O U p.t.n):=za fZ 0 rfl;have s1:W7.cell? ⟨w4.heap.size,1,Z⟩=J (O U p.t.ins):=za fZ 1 rfl;have s2:W7.cell? ⟨w4.heap.size,2,Z⟩=J (O U p.t.outs):=za fZ 2 rfl;have s3:W7.cell? ⟨w4.heap.size,3,Z⟩=J (I A4 p.t.cases.length nN):=za fZ 3 rfl;have s4:W7.cell? ⟨w4.heap.size,4,Z⟩=J (O U p.a.n):=za fZ 4 rfl;have s5:W7.cell? ⟨w4.heap.size,5,Z⟩=J (I oe p.a.sts.length nM):=za fZ 5 rfl;have s6:W7.cell? ⟨w4.heap.size,6,Z⟩=J (O U p.k):=za fZ 6 rfl;have s7:W7.cell? ⟨w4.heap.size,7,Z⟩=J (O U p.t.n):=za fZ 7 rfl;have s8:W7.cell? ⟨w4.heap.size,8,Z⟩=J (.slice AV (zo p (zk p)).1.length kv):=za fZ 8 rfl;have s9:W7.cell? ⟨w4.heap.size,9,Z⟩=J (.slice AE (zo p (zk p)).2.length ke):=za fZ 9 rfl;have n0:W7.cell? ⟨w.heap.size+1,0,Z⟩=J (O U 0):=za eQ 0 rfl;have m0:=zb eQ 0;have n1:W7.cell? ⟨w.heap.size+1,1,Z⟩=J (O U 0):=za eQ 1 rfl;have m1:=zb eQ 1;have n2:W7.cell? ⟨w.heap.size+1,2,Z⟩=J (O U 0):=za eQ 2 rfl;have m2:=zb eQ 2;have n3:W7.cell? ⟨w.heap.size+1,3,Z⟩=J (I Z 0 0):=za eQ 3 rfl;have m3:=zb eQ 3;have n4:W7.cell? ⟨w.heap.size+1,4,Z⟩=J (O U 0):=za eQ 4 rfl;have m4:=zb eQ 4;have n5:W7.cell? ⟨w.heap.size+1,5,Z⟩=J (I Z 0 0):=za eQ 5 rfl
  have m5:=zb eQ 5;have n6:W7.cell? ⟨w.heap.size+1,6,Z⟩=J (O U 0):=za eQ 6 rfl;have m6:=zb eQ 6;have n7:W7.cell? ⟨w.heap.size+1,7,Z⟩=J (O U 0):=za eQ 7 rfl;have m7:=zb eQ 7;have n8:W7.cell? ⟨w.heap.size+1,8,Z⟩=J (I Z 0 0):=za eQ 8 rfl;have m8:=zb eQ 8;have n9:W7.cell? ⟨w.heap.size+1,9,Z⟩=J (I Z 0 0):=za eQ 9 rfl;have m9:=zb eQ 9;have Fa:W7.cell? ⟨w.heap.size+1+1,0,Z⟩=J (O U 0):=za F1 0 rfl;have m10:=zb F1 0;have tS:=zH Bd;have lm:=zH eK;have MO:=zH eQ;have MN:=zH F1;rw[iC];clear iC Bd eK eQ F1 fZ;go_wp2_with fail;obtain⟨k1,k2,k3,k4,k5⟩:=kM (O U p.t.n) (O U p.t.ins) (O U p.t.outs) (I A4 p.t.cases.length nN) (O U p.a.n) (I oe p.a.sts.length nM) (O U p.k) (O U p.t.n) (.slice AV (zo p (zk p)).1.length kv) (.slice AE (zo p (zk p)).2.length ke) (O U 0) MO.out MN.out (by omega) lm.out (by omega:w.heap.size<=w.heap.size+1) (by omega:w.heap.size<=w.heap.size+1+1)
  obtain⟨WF,cZ⟩:=Kh ((((((((((((W7.setCell ⟨w.heap.size+1,0,Z⟩ (O U p.t.n)).setCell ⟨w.heap.size+1,1,Z⟩ (O U p.t.ins)).setCell ⟨w.heap.size+1,2,Z⟩ (O U p.t.outs)).setCell ⟨w.heap.size+1,3,Z⟩ (I A4 p.t.cases.length nN)).setCell ⟨w.heap.size+1,4,Z⟩ (O U p.a.n)).setCell ⟨w.heap.size+1,5,Z⟩ (I oe p.a.sts.length nM)).setCell ⟨w.heap.size+1,6,Z⟩ (O U p.k)).setCell ⟨w.heap.size+1,7,Z⟩ (O U p.t.n)).setCell ⟨w.heap.size+1,8,Z⟩ (.slice AV (zo p (zk p)).1.length kv)).setCell ⟨w.heap.size+1,9,Z⟩ (.slice AE (zo p (zk p)).2.length ke)).setCell ⟨w.heap.size+1+1,0,Z⟩ (O U 0)));rw[cZ] at k1 k2 k3 k4 k5 ⊢;clear cZ;have aj:∀k,k≠w4.heap.size->k≠w.heap.size+1->k≠w.heap.size+1+1->WF.heap[k]?=X.heap[k]?:=fun k a b c=>(k5 k b c).trans (tS.out k a)
  have hsf:WF.heap.size=X.heap.size:=k4.trans oI;have WD:WF.heap[D]?=J (.deferred (J [])):=(aj D (by omega) (by omega) (by omega)).trans Gs.out
  have oZ:∀k,k<w4.heap.size->k≠w.heap.size+1->k≠w.heap.size+1+1->WF.heap[k]?=w4.heap[k]?:=fun k a b c=>
   (aj k (by omega) b c).trans ((dA.out.block k a).trans (ij.block k a))
  have pY:w4.heap.size<=WF.heap.size:=by omega
  have RA:RowX cCs (fun b=>((L0<=b/\b<B0)\/w3.heap.size<=b)/\b<w4.heap.size) WF g4 p.t.cases:=(GB.out.mono xC fun b hb hs=>⟨hs,hb⟩).keep xC ⟨pY,fun k hk _=>oZ k hk.1.2 (by have:=hk.1.1;omega) (by have:=hk.1.1;omega)⟩ (oZ g4 GB.out.lt (by omega) (by omega));have RS:RowX cMl (fun b=>((L0<=b/\b<B0)\/w3.heap.size<=b)/\b<w4.heap.size) WF FX p.a.sts:=(mx.out.mono qo fun b hb hs=>⟨hs,hb⟩).keep qo ⟨pY,fun k hk _=>oZ k hk.1.2 (by have:=hk.1.1;omega) (by have:=hk.1.1;omega)⟩ (oZ FX mx.out.lt (by omega) (by omega))
  have RV:OwnV WF w4.heap.size (.slice AV (zo p (zk p)).1.length kv) (zo p (zk p)).1:=ff.out.bd.own.of_same fun k hk=>by
   have:=(ff.out.no k hk).1;exact aj k (by omega) (by omega) (by omega)
  have RX:OwnX ZW (fun k=>W9.heap.size<=k/\(I AV (zo p (zk p)).1.length kv).ownBlock≠J k) WF W9.heap.size (.slice AE (zo p (zk p)).2.length ke) (zo p (zk p)).2:=
   ff.out.out.keep zy ⟨by omega,fun k hk _=>aj k (by have:=hk.1;omega) (by have:=hk.1;omega) (by have:=hk.1;omega)⟩ fun k hk=>by
    have:=(ff.out.out.lt k hk).1;exact aj k (by omega) (by omega) (by omega)
  have ib:(zk p).length<=60:=by
   have h1:=congrArg List.length (gZ p K rY.out);rw[kZ,LG,km,yr] at h1;have:=EQ.out;rw[<-h1,Pd];omega
  have dc:=wl p (by have:=fy.out;omega) (zk p) (fun y hy=>by
   unfold zk at hy;obtain⟨d,_,hy⟩:=LR.1 hy;obtain⟨w',db,rfl⟩:=LA.1 hy;show w'.length<=6;rw[yQ p.a _ 0 w' db,rY.out]
   exact DQ)
  refine yD (B:=W9.heap.size) (kq (by omega) WD) ?_;intro W hX;have c0:W.cell? ⟨w.heap.size+1,0,Z⟩=J (O U p.t.n):=hX.cell (za k1 0 rfl);have c1:W.cell? ⟨w.heap.size+1,1,Z⟩=J (O U p.t.ins):=hX.cell (za k1 1 rfl);have c2:W.cell? ⟨w.heap.size+1,2,Z⟩=J (O U p.t.outs):=hX.cell (za k1 2 rfl);have c3:W.cell? ⟨w.heap.size+1,3,Z⟩=J (I A4 p.t.cases.length nN):=hX.cell (za k1 3 rfl);have c4:W.cell? ⟨w.heap.size+1,4,Z⟩=J (O U p.a.n):=hX.cell (za k1 4 rfl);have c5:W.cell? ⟨w.heap.size+1,5,Z⟩=J (I oe p.a.sts.length nM):=hX.cell (za k1 5 rfl);have c6:W.cell? ⟨w.heap.size+1,6,Z⟩=J (O U p.k):=hX.cell (za k1 6 rfl);have c7:W.cell? ⟨w.heap.size+1,7,Z⟩=J (O U p.t.n):=hX.cell (za k1 7 rfl);have c8:W.cell? ⟨w.heap.size+1,8,Z⟩=J (.slice AV (zo p (zk p)).1.length kv):=hX.cell (za k1 8 rfl);have c9:W.cell? ⟨w.heap.size+1,9,Z⟩=J (.slice AE (zo p (zk p)).2.length ke):=hX.cell (za k1 9 rfl);have tD:W.cell? ⟨w.heap.size+1+1,0,Z⟩=J (O U 0):=hX.cell (za k2 0 rfl);have DB:=hX.below.size;obtain⟨Ut,OG,eV,FQ⟩:=(show OwnV W w4.heap.size _ _ from hX.own RV).form (by omega)
  cases eV
  obtain⟨N7,GO,eE,_,_,FL,_⟩:=kV (RX.turn zy DB hX.same)
  cases eE
  refine⟨.tuple #[Aj #[O U p.t.n,O U p.t.ins,O U p.t.outs,I A4 p.t.cases.length nN,O U p.a.n,I oe p.a.sts.length nM,O U p.k,O U p.t.n,.slice AV (zo p (zk p)).1.length kv,.slice AE (zo p (zk p)).2.length ke],O U 0],by simp[results,results19,go_sem,c0,c1,c2,c3,c4,c5,c6,c7,c8,c9,tD],?_⟩;rw[HB.out];refine⟨A4,nN,oe,nM,AV,kv,AE,ke,rfl,fun W' Fc iP=>⟨⟨?_,?_,?_,?_⟩,?_⟩,FQ.lec,FQ.lem,k3.trans (hX.below.mono (by omega))⟩
  . rw[NP.out]
    have R:=RA.turnC xC DB hX.same;have RW:=GB.out.lt;exact(R.keep xC ⟨Fc,fun k hk hl=>iP k (by have:=hk.1.1;omega) hl⟩ (iP g4 (by omega) (by omega))).cat
  . rw[MA.out]
    have R:=RS.turnC qo DB hX.same;have RW:=mx.out.lt;exact(R.keep qo ⟨Fc,fun k hk hl=>iP k (by have:=hk.1.1;omega) hl⟩ (iP FX (by omega) (by omega))).sat
  . have LV:=(show OwnV W w4.heap.size _ _ from hX.own RV)
    obtain⟨Ut,OG,eV,FQ⟩:=(LV.of_same (w':=W') fun k hk=>iP k (.inr (by have:=(OwnV.lt LV k hk).1;omega)) (OwnV.lt LV k hk).2).form (by omega)
    cases eV
    exact FQ.rows
  . have tF:=RX.turn zy DB hX.same
    obtain⟨N7,GO,eE,_,_,FL,_⟩:=kV (tF.keep (w':=W') zy ⟨Fc,fun k hk hl=>iP k (.inr (by have:=hk.1;omega)) hl⟩ fun k hk=>iP k (.inr (by have:=(tF.lt k hk).1;omega)) (tF.lt k hk).2)
    cases eE
    exact FL
  have tF:=RX.turn zy DB hX.same;obtain⟨N7,GO,eE,_,_,_,Wj⟩:=kV (tF.keep (w':=W') zy ⟨Fc,fun k hk hl=>iP k (.inr (by have:=hk.1;omega)) hl⟩ fun k hk=>iP k (.inr (by have:=(tF.lt k hk).1;omega)) (tF.lt k hk).2)
  cases eE
  exact Wj
 intro D c pre W _ _ h;exact h.elim
theorem Qv(p:Pb)(hf:xY p)(A:Bb)(kc:Nat)(SV:Bb)(ks:Nat)(w:Ba)(L0 B0:Nat)(aX:B0<=w.heap.size)(eP:CAt w B0 A p.t.cases)(nX:SAt w B0 SV p.a.sts)(mv:CAtL L0 B0 w A p.t.cases)(mt:SAtL L0 B0 w SV p.a.sts) :
  Ap An 19 #[.agg (p.vs A kc SV ks)] w (RetSysF L0 B0 (zD p) w):=
 (uz p hf A kc SV ks w L0 B0 aX eP nX mv mt).mono fun _ _ h=>h.f
theorem Y0(p:Pb)(hf:xY p)(A:Bb)(kc:Nat)(SV:Bb)(ks:Nat)(w:Ba)(B0:Nat)(aX:B0<=w.heap.size)(mv:CAt w B0 A p.t.cases)(mt:SAt w B0 SV p.a.sts) :
  Ap An 19 #[.agg (p.vs A kc SV ks)] w (RetSysFC 0 B0 (zD p) w):=
 uz p hf A kc SV ks w 0 B0 aX mv mt (CAtL.of mv aX) (SAtL.of mt aX)
theorem Qw(p:Pb)(hf:xY p)(A:Bb)(kc:Nat)(SV:Bb)(ks:Nat)(w:Ba)(B0:Nat)(aX:B0<=w.heap.size)(mv:CAt w B0 A p.t.cases)(mt:SAt w B0 SV p.a.sts) :
  Ap An 19 #[.agg (p.vs A kc SV ks)] w (RetSysF 0 B0 (zD p) w):=
 Qv p hf A kc SV ks w 0 B0 aX mv mt (CAtL.of mv aX) (SAtL.of mt aX)
theorem Zt(p:Pb)(hf:xY p)(A:Bb)(kc:Nat)(SV:Bb)(ks:Nat)(w:Ba)(hA:CAt w w.heap.size A p.t.cases)(hS:SAt w w.heap.size SV p.a.sts) :
  Ap An 19 #[.agg (p.vs A kc SV ks)] w (RetSys (zD p) w):=
 (Qw p hf A kc SV ks w w.heap.size (Lh _) hA hS).mono fun _ _ h=>h.sys
end
section
open Go.RowKit
attribute [local go_sem] Oper.semAt_some
def hq(f:Nat->Int)(k j:Nat):Int:=if j<k then f j else 0
def vq(p r i:Int)(f:Nat->Int)(k:Nat):Array Au:=#[O U p,O U r,O U i,O U (hq f k 0),O U (hq f k 1),O U (hq f k 2),O U (hq f k 3),O U (hq f k 4)]
theorem Xd(p r i:Int)(f:Nat->Int)(k:Nat)(hk:k<5):(vq p r i f k).setIfInBounds (3+k) (O U (f k))=vq p r i f (k+1):=by
 match k,hk with
 | 0,_=>rfl
 | 1,_=>rfl
 | 2,_=>rfl
 | 3,_=>rfl
 | 4,_=>rfl
theorem vq_set2(p r i:Int)(f:Nat->Int)(k:Nat)(hk:k<5)(u:Au):((vq p r i f k).setIfInBounds (3+k) u).setIfInBounds (3+k) (O U (f k))=vq p r i f (k+1):=by
 match k,hk with
 | 0,_=>rfl
 | 1,_=>rfl
 | 2,_=>rfl
 | 3,_=>rfl
 | 4,_=>rfl
theorem vq_at(p r i:Int)(f:Nat->Int)(k:Nat)(hk:k<5):(vq p r i f k)[3+k]?=J (O U 0):=by
 match k,hk with
 | 0,_=>rfl
 | 1,_=>rfl
 | 2,_=>rfl
 | 3,_=>rfl
 | 4,_=>rfl
theorem J7(p:Nat)(i:Int)(w:Ba):Ap An 124 #[O U (p:Int),O U i] w fun e w'=>e=Am (.agg (yw p i).cells)/\Ao w.heap.size w w':=by
 obtain⟨w1,ah,d0,d1,bI,hB⟩:=zZ w (#[O U 0,O U 0,O U 0,O U 0,O U 0,O U 0,O U 0,O U 0]) (vq p 0 i (fun _=>-1) 0) 100 100;have aq:=zH ah;go_enter func124,ntmps124;go_wp2_with fail;rw[show((w.alloc (Ah #[O U 0,O U 0,O U 0,O U 0,O U 0,O U 0,O U 0,O U 0] 100)).alloc (Ah #[O U p,O U 0,O U i,O U 0,O U 0,O U 0,O U 0,O U 0] 100))=w1 from aq.out];have H0:=zH d0;have H1:=zH d1;have HB:=zH hB
 go_loopw [6] (fun j wr=>∃k:Nat,k<=5/\j=O U (k:Int)/\As (wr.heap[w.heap.size]?=J (Ah #[O U 0,O U 0,O U 0,O U 0,O U 0,O U 0,O U 0,O U 0] 100 (0,0)))/\As (wr.heap[w.heap.size+1]?=J (Ah (vq p 0 i (fun _=>-1) k) 100 (0,0)))/\As (Ao w.heap.size w wr)) (fun j _=>5-(Aq j).toNat)
 case atStart=>exact⟨0,by omega,rfl,H0.out,H1.out,HB.out⟩
 obtain⟨k,hk,rfl,H0,H1,nH⟩:=hrel
 by_cases mn:k<5
 case neg=>
  obtain rfl:k=5:=by omega
  have x0:wr.cell? ⟨w.heap.size+1,0,Z⟩=J (O U p):=za H1.out 0 rfl;have x1:wr.cell? ⟨w.heap.size+1,1,Z⟩=J (O U 0):=za H1.out 1 rfl;have x2:wr.cell? ⟨w.heap.size+1,2,Z⟩=J (O U i):=za H1.out 2 rfl;have x3:wr.cell? ⟨w.heap.size+1,3,Z⟩=J (O U (-1)):=za H1.out 3 rfl;have x4:wr.cell? ⟨w.heap.size+1,4,Z⟩=J (O U (-1)):=za H1.out 4 rfl;have x5:wr.cell? ⟨w.heap.size+1,5,Z⟩=J (O U (-1)):=za H1.out 5 rfl;have x6:wr.cell? ⟨w.heap.size+1,6,Z⟩=J (O U (-1)):=za H1.out 6 rfl;have x7:wr.cell? ⟨w.heap.size+1,7,Z⟩=J (O U (-1)):=za H1.out 7 rfl;have y0:wr.cell? ⟨w.heap.size,0,Z⟩=J (O U 0):=za H0.out 0 rfl;have y1:wr.cell? ⟨w.heap.size,1,Z⟩=J (O U 0):=za H0.out 1 rfl;have y2:wr.cell? ⟨w.heap.size,2,Z⟩=J (O U 0):=za H0.out 2 rfl;have y3:wr.cell? ⟨w.heap.size,3,Z⟩=J (O U 0):=za H0.out 3 rfl;have y4:wr.cell? ⟨w.heap.size,4,Z⟩=J (O U 0):=za H0.out 4 rfl;have y5:wr.cell? ⟨w.heap.size,5,Z⟩=J (O U 0):=za H0.out 5 rfl;have y6:wr.cell? ⟨w.heap.size,6,Z⟩=J (O U 0):=za H0.out 6 rfl;have y7:wr.cell? ⟨w.heap.size,7,Z⟩=J (O U 0):=za H0.out 7 rfl;have f0:=zb H0.out 0;have f1:=zb H0.out 1;have f2:=zb H0.out 2;have f3:=zb H0.out 3;have f4:=zb H0.out 4;have f5:=zb H0.out 5;have f6:=zb H0.out 6;have f7:=zb H0.out 7;go_wp2_with fail
  refine Na (v:=Aj #[O U p,O U 0,O U i,O U (-1),O U (-1),O U (-1),O U (-1),O U (-1)]) (by simp[results,results124,go_sem,y0,y1,y2,y3,y4,y5,y6,y7]) rfl ⟨rfl,?_⟩;exact(((((((nH.out.setCell (Lh _) _).setCell (Lh _) _).setCell (Lh _) _).setCell (Lh _) _).setCell (Lh _) _).setCell (Lh _) _).setCell (Lh _) _).setCell (Lh _) _
 have x0:=za H1.out (3+k) (vq_at _ _ _ _ k mn);have f0:=zb H1.out (3+k);have cq:(0:Int)<=(k:Int):=by omega
 have cy:(k:Int)<5:=by omega
 go_wp2_with fail
 go_roundw
 case rel=>exact⟨k+1,by omega,by go_num,(Lf wr _ _ w.heap.size (by show w.heap.size≠w.heap.size+1;omega)).trans H0.out,by show _=_;rw[Lk wr _ (3+k) _ _ _ H1.out,Xd _ _ _ (fun _=>-1) k mn],nH.out.setCell (by show w.heap.size<=w.heap.size+1;omega) _⟩
 simp[Aq];omega
theorem seen_any(r:Rd)(K p:Nat)(hp:p<5)(hs:0<=r.h p/\r.h p<32)(A:Bb)(ca:Nat)(row:List Int)(hn:r.n=(row.length:Int))(_h5:row.length<=5)(w:Ba)(hI:IAt w w.heap.size A row) :
  Ap An 125 #[.agg r.gcells,O U (K:Int),O U (p:Int),I A row.length ca] w fun e w'=>e=Am (.agg (yI r K p row).cells)/\Ao w.heap.size w w':=by
 obtain⟨s,pZ⟩:∃s:Nat,r.h p=(s:Int):=⟨(r.h p).toNat,by omega⟩;have Ho:s<32:=by omega
 have HH:=zH (fun q hq w=>uM s q Ho hq w);have My:=zH pZ;have HN:=zH hn;clear hn pZ hs;obtain⟨w1,ah,g0,d0,d1,bI,hB⟩:=qe w r.gcells #[O U 0,O U 0,O U 0,O U 0,O U 0,O U 0,O U 0,O U 0] (vq p K 0 (zM r p row) 0) 45 100 100;have aq:=zH ah;go_enter func125,ntmps125;unfold Rd.gcells;go_wp2_with fail;rw[show(((w.alloc (Ah #[O U r.n,O U r.h0,O U r.h1,O U r.h2,O U r.h3,O U r.h4] 45)).alloc (Ah #[O U 0,O U 0,O U 0,O U 0,O U 0,O U 0,O U 0,O U 0] 100)).alloc (Ah #[O U p,O U K,O U 0,O U 0,O U 0,O U 0,O U 0,O U 0] 100))=w1 from aq.out];have HG:=zH g0;have H0:=zH d0;have H1:=zH d1;have HB:=zH hB;have HI:=zH hI
 go_loopw [10] (fun j wr=>∃k:Nat,k<=5/\j=O U (k:Int)/\As (wr.heap[w.heap.size]?=J (Ah r.gcells 45 (0,0)))/\As (wr.heap[w.heap.size+1]?=J (Ah #[O U 0,O U 0,O U 0,O U 0,O U 0,O U 0,O U 0,O U 0] 100 (0,0)))/\As (wr.heap[w.heap.size+1+1]?=J (Ah (vq p K 0 (zM r p row) k) 100 (0,0)))/\As (Ao w.heap.size w wr)) (fun j _=>5-(Aq j).toNat)
 case atStart=>exact⟨0,by omega,rfl,HG.out,H0.out,H1.out,HB.out⟩
 obtain⟨k,hk,rfl,HG,H0,H1,nH⟩:=hrel
 by_cases mn:k<5
 case neg=>
  obtain rfl:k=5:=by omega
  have x0:wr.cell? ⟨w.heap.size+1+1,0,Z⟩=J (O U p):=za H1.out 0 rfl;have x1:wr.cell? ⟨w.heap.size+1+1,1,Z⟩=J (O U K):=za H1.out 1 rfl;have x2:wr.cell? ⟨w.heap.size+1+1,2,Z⟩=J (O U 0):=za H1.out 2 rfl;have x3:wr.cell? ⟨w.heap.size+1+1,3,Z⟩=J (O U (zM r p row 0)):=za H1.out 3 rfl;have x4:wr.cell? ⟨w.heap.size+1+1,4,Z⟩=J (O U (zM r p row 1)):=za H1.out 4 rfl;have x5:wr.cell? ⟨w.heap.size+1+1,5,Z⟩=J (O U (zM r p row 2)):=za H1.out 5 rfl;have x6:wr.cell? ⟨w.heap.size+1+1,6,Z⟩=J (O U (zM r p row 3)):=za H1.out 6 rfl;have x7:wr.cell? ⟨w.heap.size+1+1,7,Z⟩=J (O U (zM r p row 4)):=za H1.out 7 rfl;have y0:wr.cell? ⟨w.heap.size+1,0,Z⟩=J (O U 0):=za H0.out 0 rfl;have y1:wr.cell? ⟨w.heap.size+1,1,Z⟩=J (O U 0):=za H0.out 1 rfl;have y2:wr.cell? ⟨w.heap.size+1,2,Z⟩=J (O U 0):=za H0.out 2 rfl;have y3:wr.cell? ⟨w.heap.size+1,3,Z⟩=J (O U 0):=za H0.out 3 rfl;have y4:wr.cell? ⟨w.heap.size+1,4,Z⟩=J (O U 0):=za H0.out 4 rfl;have y5:wr.cell? ⟨w.heap.size+1,5,Z⟩=J (O U 0):=za H0.out 5 rfl;have y6:wr.cell? ⟨w.heap.size+1,6,Z⟩=J (O U 0):=za H0.out 6 rfl;have y7:wr.cell? ⟨w.heap.size+1,7,Z⟩=J (O U 0):=za H0.out 7 rfl;have f0:=zb H0.out 0;have f1:=zb H0.out 1;have f2:=zb H0.out 2;have f3:=zb H0.out 3;have f4:=zb H0.out 4;have f5:=zb H0.out 5;have f6:=zb H0.out 6;have f7:=zb H0.out 7;go_wp2_with fail
  refine Na (v:=.agg (yI r K p row).cells) (by unfold yI Vw.cells;simp[results,results125,go_sem,y0,y1,y2,y3,y4,y5,y6,y7]) rfl ⟨rfl,?_⟩;exact((((((((nH.out.setCell (by show w.heap.size<=w.heap.size+1;omega) _).setCell (by show w.heap.size<=w.heap.size+1;omega) _).setCell (by show w.heap.size<=w.heap.size+1;omega) _).setCell (by show w.heap.size<=w.heap.size+1;omega) _).setCell (by show w.heap.size<=w.heap.size+1;omega) _).setCell (by show w.heap.size<=w.heap.size+1;omega) _).setCell (by show w.heap.size<=w.heap.size+1;omega) _).setCell (by show w.heap.size<=w.heap.size+1;omega) _)
 have x0:=za H1.out (3+k) (vq_at _ _ _ _ k mn);have f0:=zb H1.out (3+k);have g0:wr.cell? ⟨w.heap.size,0,Z⟩=J (O U (row.length:Int)):=by rw[<-HN.out];exact za HG.out 0 rfl
 have gp:wr.cell? ⟨w.heap.size,1+p,Z⟩=J (O U (s:Int)):=by
  rw[<-My.out]
  match p,hp with
  | 0,_=>exact za HG.out 1 rfl
  | 1,_=>exact za HG.out 2 rfl
  | 2,_=>exact za HG.out 3 rfl
  | 3,_=>exact za HG.out 4 rfl
  | 4,_=>exact za HG.out 5 rfl
 have cq:(0:Int)<=(k:Int):=by omega
 have cy:(k:Int)<5:=by omega
 have oW:(0:Int)<=(p:Int):=by omega
 have CS:(p:Int)<5:=by omega
 have HS:As ((wr.setCell ⟨w.heap.size+1+1,3+k,Z⟩ (O U (-1))).heap[w.heap.size+1+1]?=J (Ah ((vq p K 0 (zM r p row) k).setIfInBounds (3+k) (O U (-1))) 100 (0,0))):=Lk wr _ (3+k) _ _ _ H1.out
 by_cases hq:k<row.length
 case neg=>
  have hE:As (zM r p row k=-1):=by unfold zM;exact Lj (fun h=>hq h.1)
  have rc:¬((k:Int)<(row.length:Int)):=by omega
  go_wp2_with fail
  go_roundw
  case rel=>exact⟨k+1,by omega,by go_num,((Lf wr _ _ w.heap.size (by show w.heap.size≠w.heap.size+1+1;omega)).trans HG.out),((Lf wr _ _ (w.heap.size+1) (by show w.heap.size+1≠w.heap.size+1+1;omega)).trans H0.out),(HS.out.trans (by have e:=Xd p K 0 (zM r p row) k mn;rw[hE.out] at e;rw[e])),(nH.out.setCell (by show w.heap.size<=w.heap.size+1+1;omega) _)⟩
  simp[Aq];omega
 have rc:((k:Int)<(row.length:Int)):=by omega
 by_cases hb:s.testBit k=Av
 case neg=>
  have hE:As (zM r p row k=-1):=by unfold zM;exact Lj (fun h=>hb (by have h2:=h.2;rw[My.out] at h2;exact h2))
  go_wp2_with (go_at_call 146;refine(HH.out k mn _).mono ?_;rintro e w' ⟨rfl,db⟩;obtain rfl:=db.symm)
  go_roundw
  case rel=>exact⟨k+1,by omega,by go_num,((Lf wr _ _ w.heap.size (by show w.heap.size≠w.heap.size+1+1;omega)).trans HG.out),((Lf wr _ _ (w.heap.size+1) (by show w.heap.size+1≠w.heap.size+1+1;omega)).trans H0.out),(HS.out.trans (by have e:=Xd p K 0 (zM r p row) k mn;rw[hE.out] at e;rw[e])),(nH.out.setCell (by show w.heap.size<=w.heap.size+1+1;omega) _)⟩
  simp[Aq];omega
 have hE:As (zM r p row k=row[k]):=by
  unfold zM;rw[Ln ⟨hq,by rw[My.out];exact hb⟩,Le,Lg hq];rfl
 have HX:=zH ((HI.out.keep nH.out).at_ k hq);obtain⟨ba,off,rfl,ac,hc⟩:=HX.out;have f1:=zb HS.out (3+k);go_wp2_with (go_at_call 146;refine(HH.out k mn _).mono ?_;rintro e w' ⟨rfl,db⟩;obtain rfl:=db.symm)
 go_roundw
 case rel=>exact⟨k+1,by omega,by go_num,((Lf _ _ _ w.heap.size (by show w.heap.size≠w.heap.size+1+1;omega)).trans ((Lf wr _ _ w.heap.size (by show w.heap.size≠w.heap.size+1+1;omega)).trans HG.out)),((Lf _ _ _ (w.heap.size+1) (by show w.heap.size+1≠w.heap.size+1+1;omega)).trans ((Lf wr _ _ (w.heap.size+1) (by show w.heap.size+1≠w.heap.size+1+1;omega)).trans H0.out)),(by show _=_;rw[Lk _ _ (3+k) _ _ _ HS.out,<-hE.out,vq_set2 _ _ _ (zM r p row) k mn]),((nH.out.setCell (by show w.heap.size<=w.heap.size+1+1;omega) _).setCell (by show w.heap.size<=w.heap.size+1+1;omega) _)⟩
 simp[Aq];omega
end
section
open Go.RowKit Go.Shelf
structure Bt(D bs:Nat)(SC:Au->Au->Array Au)(WR:Ba)(vs:List Vw)(xs:List Exn)(V E:Au)(X:Ba):Prop where
 wr:Wrote (fun k=>k=bs) WR X
 wd:WR.heap.size<=D
 big:D<=X.heap.size
 bsl:bs<D
 sys:X.heap[bs]?=J (Ah (SC V E) 36 (0,0))
 tb:OwnV X D V vs
 out:OwnX ZW (fun k=>bs<k) X D E xs
 no:∀k,V.ownBlock=J k->E.ownBlock≠J k
structure Bq(D bs bx:Nat)(SC:Au->Au->Array Au)(WR:Ba)(c:Int)(wv:Au)(vs:List Vw)(xs:List Exn)(views:List (List Int))(row:List Int)(V E Y L:Au)(X:Ba):Prop where
 wr:Wrote (fun k=>k=bs) WR X
 wd:WR.heap.size<=D
 big:D<=X.heap.size
 bsl:bs<D
 sys:X.heap[bs]?=J (Ah (SC V E) 36 (0,0))
 x:X.heap[bx]?=J (Ah #[O U c,wv,Y] 42 (0,0))
 hx:D<=bx
 tb:OwnV X D V vs
 out:OwnX ZW (fun k=>bs<k/\k≠bx/\Y.ownBlock≠J k/\L.ownBlock≠J k) X D E xs
 vw:OwnX cIs (fun k=>D<=k/\k≠bx/\E.ownBlock≠J k/\L.ownBlock≠J k) X D Y views
 row:OwnR kIn X D L row.length (row.map (O U))
 nV:∀k,V.ownBlock=J k->k≠bx/\E.ownBlock≠J k/\Y.ownBlock≠J k/\L.ownBlock≠J k
 nE:∀k,E.ownBlock=J k->k≠bx/\Y.ownBlock≠J k/\L.ownBlock≠J k
 nY:∀k,Y.ownBlock=J k->k≠bx/\L.ownBlock≠J k
 nL:∀k,L.ownBlock=J k->k≠bx
section
variable {D bs bx:Nat} {SC:Au->Au->Array Au} {WR X:Ba} {c:Int} {wv:Au} {vs:List Vw} {xs:List Exn} {views:List (List Int)} {row:List Int} {V E Y L:Au}
theorem OwnV.lt'{w:Ba}{aa:Nat}{v:Au}{vs:List Vw}(h:OwnV w aa v vs):∀k,v.ownBlock=J k->aa<=k/\k<w.heap.size:=PY h
theorem Bq.bxl(h:Bq D bs bx SC WR c wv vs xs views row V E Y L X):bx<X.heap.size:=(Li.1 h.x).1
theorem Bt.on(h:Bt D bs SC WR vs xs V E X){X':Ba}(hb:Ao X.heap.size X X'):Bt D bs SC WR vs xs V E X':=
 ⟨h.wr.trans (Wrote.of_below (R:=fun _=>False) hb) (fun _ _ h=>h.elim),h.wd,by have:=hb.size;have:=h.big;omega,h.bsl,Lb hb (by have:=h.bsl;have:=h.big;omega) h.sys,
  h.tb.of_same fun k hk=>hb.block k (h.tb.lt' k hk).2,h.out.below zy hb (Lh _),h.no⟩
theorem Bq.on(h:Bq D bs bx SC WR c wv vs xs views row V E Y L X){X':Ba}(hb:Ao X.heap.size X X'):Bq D bs bx SC WR c wv vs xs views row V E Y L X':=
 ⟨h.wr.trans (Wrote.of_below (R:=fun _=>False) hb) (fun _ _ h=>h.elim),h.wd,by have:=hb.size;have:=h.big;omega,h.bsl,Lb hb (by have:=h.bsl;have:=h.big;omega) h.sys,
  Lb hb h.bxl h.x,h.hx,h.tb.of_same fun k hk=>hb.block k (h.tb.lt' k hk).2,h.out.below zy hb (Lh _),h.vw.below yx hb (Lh _),h.row.below hb (Lh _),h.nV,h.nE,h.nY,h.nL⟩
theorem Bt.start(h:Bt D bs SC WR vs xs V E X){X':Ba}(hb:Ao X.heap.size X X')(hx:X'.heap[X.heap.size]?=J (Ah #[O U c,wv,I Z 0 0] 42 (0,0))) :
  Bq D bs X.heap.size SC WR c wv vs xs [] [] V E (I Z 0 0) (I Z 0 0) X':=by
 have h':=h.on hb;refine⟨h'.wr,h'.wd,h'.big,h'.bsl,h'.sys,hx,h.big,h'.tb,?_,OwnX.nil _ _ _ _,OwnR.nil _ _ _,fun k hk=>?_,fun k hk=>?_,fun k hk=>?_,fun k hk=>?_⟩
 . refine OwnX.below zy (OwnX.mono zy h.out fun k hk hs=>⟨hs,by omega,?_,?_⟩) hb (Lh _)
   . simp[Value.ownBlock]
   simp[Value.ownBlock]
 . have:=(h.tb.lt' k hk).2
   exact⟨by omega,h.no k hk,by simp[Value.ownBlock],by simp[Value.ownBlock]⟩
 . have:=(h.out.lt k hk).2
   exact⟨by omega,by simp[Value.ownBlock],by simp[Value.ownBlock]⟩
 . simp[Value.ownBlock] at hk
 simp[Value.ownBlock] at hk
theorem Bq.put(h:Bq D bs bx SC WR c wv vs xs views row V E Y L X){W:Ba}(hb:Ao X.heap.size X W){V' u:Au}{sd:List Vw}(hT:OwnV W D V' sd)(hV:∀k,V'.ownBlock=J k->V.ownBlock=J k\/X.heap.size<=k)
  (h7:(SC V E).setIfInBounds 7 u=SC V E) (h8:(SC V E).setIfInBounds 8 V'=SC V' E) :
  Bq D bs bx SC WR c wv sd xs views row V' E Y L ((W.setCell ⟨bs,7,Z⟩ u).setCell ⟨bs,8,Z⟩ V'):=by
 have h1:=h.on hb;have bG:=h.bsl;have aM:=h.hx;obtain⟨W',mr⟩:=Kh ((W.setCell ⟨bs,7,Z⟩ u).setCell ⟨bs,8,Z⟩ V')
 have hk:∀k,k≠bs->W'.heap[k]?=W.heap[k]?:=fun k hk=>by
  rw[<-mr];exact(Lf _ ⟨bs,8,Z⟩ _ k hk).trans (Lf _ ⟨bs,7,Z⟩ _ k hk)
 have hz:W'.heap.size=W.heap.size:=by rw[<-mr];simp
 have hs:W'.heap[bs]?=J (Ah (SC V' E) 36 (0,0)):=by
  rw[<-mr];have q:=Lk W bs 7 _ _ u h1.sys;rw[h7] at q;have q2:=Lk _ bs 8 _ _ V' q;rwa[h8] at q2
 have hw:Wrote (fun k=>k=bs) W W':=by
  rw[<-mr];exact⟨rfl,rfl,rfl,by simp,fun k _ hk=>(Lf _ ⟨bs,8,Z⟩ _ k hk).trans (Lf _ ⟨bs,7,Z⟩ _ k hk)⟩
 rw[mr];refine⟨h1.wr.trans hw (fun k _ e=>e),h.wd,by have:=h1.big;omega,h.bsl,hs,(hk _ (by omega)).trans h1.x,h.hx,hT.of_same fun k e=>hk k (by have:=(hT.lt' k e).1;omega),?_,?_,?_,fun k e=>?_,h.nE,h.nY,h.nL⟩
 . exact h1.out.keep zy ⟨by omega,fun k hs _=>hk k (by have:=hs.1;omega)⟩ fun k e=>hk k (by have:=(h1.out.lt k e).1;omega)
 . exact h1.vw.keep yx ⟨by omega,fun k hs _=>hk k (by have:=hs.1;omega)⟩ fun k e=>hk k (by have:=(h1.vw.lt k e).1;omega)
 . refine h1.row.kept (row:=J bs) ⟨hw.os,hw.tape,hw.output,hw.size,fun k _ hn=>hk k (fun e=>hn (by rw[e]))⟩ (Or.inr (h1.row.ne (by omega)))
 rcases hV k e with e | e
 . exact h.nV k e
 have aA:=h.bxl;exact⟨by omega,fun e2=>by have:=(h.out.lt k e2).2;omega,fun e2=>by have:=(h.vw.lt k e2).2;omega,fun e2=>by have:=(h.row.lt k e2).2;omega⟩
theorem kK(W:Ba)(b o:Nat)(u:Au):Wrote (fun k=>k=b) W (W.setCell ⟨b,o,Z⟩ u):=⟨rfl,rfl,rfl,by simp,fun k _ hn=>Lf W ⟨b,o,Z⟩ u k hn⟩
theorem OwnX.aside{α:Type}{C:Ct α}(ok:CtOk C){S:Nat->Prop}{W w5:Ba}{v L:Au}{xs:List α}{g' n cap:Nat}(h:OwnX C S W D v xs)(hS:∀k,S k->L.ownBlock≠J k)(hg:W.grownBy w5 L.ownBlock)(bt:∀k,v.ownBlock=J k->L.ownBlock≠J k)
  (bz:L.ownBlock=J g'\/g'=W.heap.size):OwnX C (fun k=>S k/\(I (J ⟨g',0,Z⟩) n cap).ownBlock≠J k) w5 D v xs:=by
 have h1:OwnX C (fun k=>S k/\(I (J ⟨g',0,Z⟩) n cap).ownBlock≠J k) W D v xs:=OwnX.mono ok h fun k hk hs=>⟨hs,fun e=>by
  have e2:g'=k:=by simpa[Value.ownBlock] using e
  rcases bz with e3 | e3
  . exact hS k hs (by rw[e3,e2])
  . omega⟩
 refine h1.kept ok hg ?_ fun k hk=>.inl fun hs=>hS k hs.1 hk
 cases hv:v.ownBlock with
 | none=>exact .inl rfl
 | some k=>exact .inr fun e=>bt k hv e.symm
theorem OwnV.aside{W w5:Ba}{v L:Au}{vs:List Vw}(h:OwnV W D v vs)(hg:W.grownBy w5 L.ownBlock)(bt:∀k,v.ownBlock=J k->L.ownBlock≠J k):OwnV w5 D v vs:=
 h.of_same fun k hk=>hg.block k (h.lt' k hk).2 fun e=>bt k hk e.symm
theorem xN{L:Au}{W:Ba}{g' n cap:Nat}{P:Nat->Prop}(bz:L.ownBlock=J g'\/g'=W.heap.size)(h1:∀k,L.ownBlock=J k->P k)(h2:P W.heap.size):∀k,(I (J ⟨g',0,Z⟩) n cap).ownBlock=J k->P k:=fun k e=>by
 have e2:g'=k:=by simpa[Value.ownBlock] using e
 subst e2;rcases bz with e3 | e3
 . exact h1 g' e3
 . rw[e3];exact h2
theorem Bq.push(h:Bq D bs bx SC WR c wv vs xs views row V E Y L X){W w5:Ba}(hb:Ao X.heap.size X W){i:Int}{g' cap:Nat}
  (hr:OwnR kIn w5 D (I (J ⟨g',0,Z⟩) (row.length+1) cap) (row.length+1) (row.map (O U)++[O U i])) (hg:W.grownBy w5 L.ownBlock) (bz:L.ownBlock=J g'\/g'=W.heap.size) :
  Bq D bs bx SC WR c wv vs xs views (row++[i]) V E Y (I (J ⟨g',0,Z⟩) (row.length+1) cap) w5:=by
 have h1:=h.on hb;have aL:=h1.row.lt;have bG:=h.bsl;have aM:=h.hx;have hbig:=h1.big;have BA:=h1.tb.lt';have DU:=h1.out.lt;have Ku:=h1.vw.lt;have aA:=h1.bxl;have RH:=hg.size;refine⟨h1.wr.trans (Wrote.of_grown (R:=fun k=>D<=k) hg (fun k e _=>(aL k e).1)) (fun k hk e=>by have:=h.wd;omega),h.wd,by omega,h.bsl,?_,?_,h.hx,h1.tb.aside hg fun k e=>(h.nV k e).2.2.2,?_,?_,by simpa using hr,fun k e=>?_,fun k e=>?_,fun k e=>?_,?_⟩
 . exact(hg.block bs (by omega) fun e=>by have:=(aL bs e.symm).1;omega).trans h1.sys
 . exact(hg.block bx aA fun e=>h.nL bx e.symm rfl).trans h1.x
 . exact OwnX.mono zy (h1.out.aside zy (n:=row.length+1) (cap:=cap) (fun k hs=>hs.2.2.2) hg (fun k e=>(h.nE k e).2.2) bz) fun k _ hs=>⟨hs.1.1,hs.1.2.1,hs.1.2.2.1,hs.2⟩
 . exact OwnX.mono yx (h1.vw.aside yx (n:=row.length+1) (cap:=cap) (fun k hs=>hs.2.2.2) hg (fun k e=>(h.nY k e).2) bz) fun k _ hs=>⟨hs.1.1,hs.1.2.1,hs.1.2.2.1,hs.2⟩
 . exact⟨(h.nV k e).1,(h.nV k e).2.1,(h.nV k e).2.2.1,fun e2=>xN (P:=fun j=>V.ownBlock≠J j) bz (fun j ej ev=>(h.nV j ev).2.2.2 ej) (fun ev=>by have:=(BA _ ev).2;omega) k e2 e⟩
 . exact⟨(h.nE k e).1,(h.nE k e).2.1,fun e2=>xN (P:=fun j=>E.ownBlock≠J j) bz (fun j ej ev=>(h.nE j ev).2.2 ej) (fun ev=>by have:=(DU _ ev).2;omega) k e2 e⟩
 . exact⟨(h.nY k e).1,fun e2=>xN (P:=fun j=>Y.ownBlock≠J j) bz (fun j ej ev=>(h.nY j ev).2 ej) (fun ev=>by have:=(Ku _ ev).2;omega) k e2 e⟩
 exact xN bz h.nL (by omega)
theorem Bq.close(h:Bq D bs bx SC WR c wv vs xs views row V E Y L X){W w5:Ba}(hb:Ao X.heap.size X W){g' cap:Nat}{aD:List (List Au)}(bh:aD.length=views.length)
  (bq:∀(i:Nat) (h1:i<aD.length) (h2:i<views.length),cIs.lies (fun k=>(D<=k/\k≠bx/\E.ownBlock≠J k/\L.ownBlock≠J k)/\Y.ownBlock≠J k) W aD[i] views[i])
  (hr:OwnR kIs w5 D (I (J ⟨g',0,Z⟩) (views.length+1) cap) (views.length+1) (aD.flatten++[L])) (hg:W.grownBy w5 Y.ownBlock) (bz:Y.ownBlock=J g'\/g'=W.heap.size) :
  Bq D bs bx SC WR c wv vs xs (views++[row]) [] V E (I (J ⟨g',0,Z⟩) (views.length+1) cap) (I Z 0 0) (w5.setCell ⟨bx,2,Z⟩ (I (J ⟨g',0,Z⟩) (views.length+1) cap)):=by
 have h1:=h.on hb;have aL:=h1.vw.lt;have bG:=h.bsl;have aM:=h.hx;have hbig:=h1.big;have BA:=h1.tb.lt';have DU:=h1.out.lt;have Wp:=h1.row.lt;have aA:=h1.bxl;have RH:=hg.size;obtain⟨A,cL,eL,_,_,Wu⟩:=h1.row.form
 have hX:cIs.lies (fun k=>(D<=k/\k≠bx/\E.ownBlock≠J k)/\Y.ownBlock≠J k) W [L] row:=by
  refine⟨A,cL,by rw[eL],fun h0=>?_⟩;obtain⟨g,hA,FC,cJ,hc⟩:=Wu h0;refine⟨g,0,hA,⟨⟨(Wp g FC).1,h.nL g FC,fun e=>(h.nE g e).2.2 FC⟩,fun e=>(h.nY g e).2 FC⟩,cJ,fun i hi=>?_⟩;rw[LM];exact hc i _ (by simp[hi])
 have hv:=OwnX.app yx (S:=fun k=>D<=k/\k≠bx/\E.ownBlock≠J k) bh (fun i i1 i2=>yx.mono (bq i i1 i2) fun k _ hs=>⟨⟨hs.1.1,hs.1.2.1,hs.1.2.2.1⟩,hs.2⟩) hX hr hg bz;have fd:=h1.out.aside zy (n:=views.length+1) (cap:=cap) (fun k hs=>hs.2.2.1) hg (fun k e=>(h.nE k e).2.1) bz;have FA:w5.heap[bx]?=J (Ah #[O U c,wv,Y] 42 (0,0)):=(hg.block bx aA fun e=>(h.nY bx e.symm).1 rfl).trans h1.x;have nU:w5.heap[bs]?=J (Ah (SC V E) 36 (0,0)):=(hg.block bs (by omega) fun e=>by have:=(aL bs e.symm).1;omega).trans h1.sys;have hk:∀k,k≠bx->(w5.setCell ⟨bx,2,Z⟩ (I (J ⟨g',0,Z⟩) (views.length+1) cap)).heap[k]?=w5.heap[k]?:=fun k hk=>Lf w5 ⟨bx,2,Z⟩ _ k hk
 have hw:Wrote (fun k=>D<=k) W (w5.setCell ⟨bx,2,Z⟩ (I (J ⟨g',0,Z⟩) (views.length+1) cap)):=
  (Wrote.of_grown (R:=fun k=>D<=k) hg (fun k e _=>(aL k e).1)).trans (kK w5 bx 2 _) (fun k _ e=>by omega)
 refine⟨h1.wr.trans hw (fun k hk e=>by have:=h.wd;omega),h.wd,by simp;omega,h.bsl,(hk bs (by omega)).trans nU,?_,h.hx,?_,?_,?_,OwnR.nil _ _ _,fun k e=>?_,fun k e=>?_,fun k e=>?_,fun k e=>?_⟩
 . rw[Lk w5 bx 2 _ _ _ FA];rfl
 . exact(h1.tb.aside hg fun k e=>(h.nV k e).2.2.1).of_same fun k e=>hk k (h.nV k e).1
 . exact OwnX.mono zy (fd.keep zy ⟨by simp,fun k hs _=>hk k hs.1.2.1⟩ fun k e=>hk k (h.nE k e).1) fun k _ hs=>⟨hs.1.1,hs.1.2.1,hs.2,by simp[Value.ownBlock]⟩
 . refine OwnX.mono yx (hv.keep yx ⟨by simp,fun k hs _=>hk k hs.2.1⟩ fun k e=>hk k ?_) fun k _ hs=>⟨hs.1,hs.2.1,hs.2.2,by simp[Value.ownBlock]⟩
   exact xN (P:=fun j=>j≠bx) bz (fun j e=>(h.nY j e).1) (by omega) k e
 . exact⟨(h.nV k e).1,(h.nV k e).2.1,fun e2=>xN (P:=fun j=>V.ownBlock≠J j) bz (fun j ej ev=>(h.nV j ev).2.2.1 ej) (fun ev=>by have:=(BA _ ev).2;omega) k e2 e,by simp[Value.ownBlock]⟩
 . exact⟨(h.nE k e).1,fun e2=>xN (P:=fun j=>E.ownBlock≠J j) bz (fun j ej ev=>(h.nE j ev).2.1 ej) (fun ev=>by have:=(DU _ ev).2;omega) k e2 e,by simp[Value.ownBlock]⟩
 . exact⟨xN (P:=fun j=>j≠bx) bz (fun j e=>(h.nY j e).1) (by omega) k e,by simp[Value.ownBlock]⟩
 simp[Value.ownBlock] at e
theorem Bq.done(h:Bq D bs bx SC WR c wv vs xs views [] V E Y (I Z 0 0) X){W w5:Ba}(hb:Ao X.heap.size X W){g' cap A2 c2 A3 c3:_}{aD:List (List Au)}{word:List Rd}(bh:aD.length=xs.length)
  (bq:∀(i:Nat) (h1:i<aD.length) (h2:i<xs.length),ZW.lies (fun k=>(bs<k/\k≠bx/\Y.ownBlock≠J k/\(I Z 0 0).ownBlock≠J k)/\E.ownBlock≠J k) W aD[i] xs[i])
  (UK:wv=I A2 word.length c2) (So:Y=I A3 views.length c3) (hw:RAtS (fun k=>bs<k/\k<D) WR A2 word) (mf:word.length<=c2)
  (hr:OwnR kXn w5 D (I (J ⟨g',0,Z⟩) (xs.length+1) cap) (xs.length+1) (aD.flatten++[O U c,wv,Y])) (hg:W.grownBy w5 E.ownBlock) (bz:E.ownBlock=J g'\/g'=W.heap.size)
  (h9:(SC V E).setIfInBounds 9 (I (J ⟨g',0,Z⟩) (xs.length+1) cap)=SC V (I (J ⟨g',0,Z⟩) (xs.length+1) cap)) :
  Bt D bs SC WR vs (xs++[⟨c,word,views⟩]) V (I (J ⟨g',0,Z⟩) (xs.length+1) cap) (w5.setCell ⟨bs,9,Z⟩ (I (J ⟨g',0,Z⟩) (xs.length+1) cap)):=by
 have h1:=h.on hb;have aL:=h1.out.lt;have bG:=h.bsl;have aM:=h.hx;have hbig:=h1.big;have BA:=h1.tb.lt';have Ku:=h1.vw.lt;have RH:=hg.size;obtain⟨A3',DZ,e3,_,_,hL⟩:=Zs h1.vw;rw[So] at e3
 cases e3
 have hX:ZW.lies (fun k=>bs<k/\E.ownBlock≠J k) W [O U c,wv,Y] ⟨c,word,views⟩:=by
  refine⟨A2,c2,A3,c3,by rw[UK,So],?_,?_,mf⟩
  . exact(hw.keep ⟨h1.wr.size,fun k hk hl=>h1.wr.block k hl (fun e=>by have:=hk.1;omega)⟩).mono fun k _ hs=>⟨hs.1,fun e=>by have:=(aL k e).1;have:=hs.2;omega⟩
  refine hL.mono fun k _ hs=>?_
  rcases hs with hs | hs
  . exact⟨by have:=hs.1;omega,hs.2.2.1⟩
  exact⟨by have:=(Ku k hs).1;omega,fun e=>(h.nE k e).2.1 hs⟩
 have hv:=OwnX.app zy (S:=fun k=>bs<k) bh (fun i i1 i2=>zy.mono (bq i i1 i2) fun k _ hs=>⟨hs.1.1,hs.2⟩) hX hr hg bz;have nU:w5.heap[bs]?=J (Ah (SC V E) 36 (0,0)):=(hg.block bs (by omega) fun e=>by have:=(aL bs e.symm).1;omega).trans h1.sys;have hk:∀k,k≠bs->(w5.setCell ⟨bs,9,Z⟩ (I (J ⟨g',0,Z⟩) (xs.length+1) cap)).heap[k]?=w5.heap[k]?:=fun k hk=>Lf w5 ⟨bs,9,Z⟩ _ k hk
 have iL:Wrote (fun k=>k=bs\/D<=k) W (w5.setCell ⟨bs,9,Z⟩ (I (J ⟨g',0,Z⟩) (xs.length+1) cap)):=
  (Wrote.of_grown (R:=fun k=>k=bs\/D<=k) hg (fun k e _=>.inr (aL k e).1)).trans (kK w5 bs 9 _) (fun k _ e=>.inl e)
 refine⟨h1.wr.trans iL (fun k hk e=>by have:=h.wd;omega),h.wd,by simp;omega,h.bsl,?_,?_,?_,fun k e=>?_⟩
 . rw[Lk w5 bs 9 _ _ _ nU,h9]
 . exact(h1.tb.aside hg fun k e=>(h.nV k e).2.1).of_same fun k e=>hk k (by have:=(BA k e).1;omega)
 . refine hv.keep zy ⟨by simp,fun k hs _=>hk k (by omega)⟩ fun k e=>hk k ?_
   exact xN (P:=fun j=>j≠bs) bz (fun j e=>by have:=(aL j e).1;omega) (by omega) k e
 exact fun e2=>xN (P:=fun j=>V.ownBlock≠J j) bz (fun j ej ev=>(h.nV j ev).2.1 ej) (fun ev=>by have:=(BA _ ev).2;omega) k e2 e
end
end
section
open Go.RowKit Go.Shelf
def stQ(vs:List Vw)(N:Nat)(inp:List Int)(word:List Rd):Nat->List Vw×List (List Int)
 | 0=>(vs,[])
 | k+1=>zm vs N inp word k
def fQ(inp:List Int)(word:List Rd)(views:List (List Int)):Nat->Nat->Vw
 | 0=>f0 inp
 | k+1=>fk word k (views.getD k [])
theorem stQ_succ(vs:List Vw)(N:Nat)(inp:List Int)(word:List Rd)(k:Nat) :
  stQ vs N inp word (k+1)=((zP (fQ inp word (stQ vs N inp word k).2 k) (stQ vs N inp word k).1 N).1,(stQ vs N inp word k).2++[(zP (fQ inp word (stQ vs N inp word k).2 k) (stQ vs N inp word k).1 N).2]):=by
 cases k<;>rfl
theorem stQ_len(vs:List Vw)(N:Nat)(inp:List Int)(word:List Rd)(k:Nat):(stQ vs N inp word k).2.length=k:=by
 cases k
 . rfl
 exact zY _ _ _ _ _
theorem QH(vs:List Vw)(N:Nat)(inp:List Int)(word:List Rd)(k:Nat):(stQ vs N inp word k).1.length<=vs.length+k*N:=by
 cases k
 . simp[stQ]
 exact qG _ _ _ _ _
theorem stQ_row(vs:List Vw)(N:Nat)(inp:List Int)(word:List Rd)(k j:Nat)(hj:j<(stQ vs N inp word k).2.length):((stQ vs N inp word k).2[j]).length=N:=by
 cases k with
 | zero=>exact absurd hj (by simp[stQ])
 | succ k=>exact qg _ _ _ _ k _ (Ld hj)
def pcs(zi:List (List Rd))(c:Nat):List (Nat×List Rd):=(List.range c).flatMap fun i=>zi.map fun w=>(i,w)
theorem Yw(zi:List (List Rd))(c:Nat):pcs zi (c+1)=pcs zi c++zi.map fun w=>(c,w):=by
 unfold pcs;rw[NF,Rl];simp
theorem QV(p:Pb):zk p=pcs (zn p.a p.k.toNat 0) p.t.cases.length:=rfl
def pcw(zi:List (List Rd))(c j:Nat):List (Nat×List Rd):=pcs zi c++(zi.take j).map fun w=>(c,w)
theorem Yv(zi:List (List Rd))(c:Nat):pcw zi c 0=pcs zi c:=by simp[pcw]
theorem pcw_succ(zi:List (List Rd))(c j:Nat)(hj:j<zi.length):pcw zi c (j+1)=pcw zi c j++[(c,zi[j])]:=by
 unfold pcw;rw[Lu hj,LI,List.map_singleton,Ng]
theorem pcw_end(zi:List (List Rd))(c:Nat):pcw zi c zi.length=pcs zi (c+1):=by
 unfold pcw;rw[LD,Yw]
theorem ZH(zi:List (List Rd)):∀c,(pcs zi c).length=c*zi.length
 | 0=>by simp[pcs]
 | c+1=>by rw[Yw,Lq,ZH zi c,LG,Pz];omega
theorem QU(zi:List (List Rd))(c j:Nat)(hj:j<=zi.length):(pcw zi c j).length=c*zi.length+j:=by
 unfold pcw;rw[Lq,ZH,LG,Nd,Ra hj]
theorem pcw_mem(zi:List (List Rd))(c j:Nat):∀x∈pcw zi c j,x.2∈zi:=fun x hx=>by
 unfold pcw at hx;rcases LS.1 hx with hx | hx
 . unfold pcs at hx
   obtain⟨_,_,hx⟩:=LR.1 hx;obtain⟨_,h,rfl⟩:=LA.1 hx;exact h
 . obtain⟨_,h,rfl⟩:=LA.1 hx
   exact List.mem_of_mem_take h
theorem gU(p:Pb)(zi:List (List Rd))(hn:p.t.n.toNat<=5)(hw:∀w∈zi,w.length<=6)(c j:Nat)(hj:j<=zi.length)(df:c*zi.length+j<=60):(zo p (pcw zi c j)).1.length<=2100/\(zo p (pcw zi c j)).2.length=c*zi.length+j:=by
 have h1:=wl p hn (pcw zi c j) fun x hx=>hw _ (pcw_mem zi c j x hx)
 rw[QU zi c j hj] at h1;refine⟨by omega,?_⟩;rw[xP,QU zi c j hj]
theorem wj(p:Pb)(zi:List (List Rd))(hn:p.t.n.toNat<=5)(hw:∀w∈zi,w.length<=6)(c:Nat)(df:c*zi.length<=60):(zo p (pcs zi c)).1.length<=2100:=by
 have:=(gU p zi hn hw c 0 (Nu _) (by omega)).1;rwa[Yv] at this
theorem put_out{n:Int}{AV:Bb}{kv:Nat}{vs:List Vw}{v:Vw}{W w':Ba}{e:Ending}{D:Nat}(h:RetPut n AV kv vs v W e w')(hO:OwnV W D (I AV vs.length kv) vs)(hD:D<=W.heap.size) :
  ∃A3 k3,e=Am (.tuple #[Aj #[O U n,.slice A3 (xu vs v).1.length k3],O U (xu vs v).2])/\OwnV w' D (.slice A3 (xu vs v).1.length k3) (xu vs v).1 /\
   (∀k,(I A3 (xu vs v).1.length k3).ownBlock=J k->(I AV vs.length kv).ownBlock=J k\/W.heap.size<=k)/\Ao W.heap.size W w':=by
 obtain⟨hb,h1,h2⟩:=h
 by_cases hm:v∈vs
 . rw[Yq hm]
   exact⟨AV,kv,h1 hm,hO.of_same fun k hk=>hb.block k (hO.lt' k hk).2,fun k hk=>.inl hk,hb⟩
 rw[QT hm];obtain⟨A3,k3,e3,ho⟩:=h2 hm;have hl:(vs++[v]).length=vs.length+1:=by simp
 dsimp only;rw[hl];exact⟨A3,k3,e3,ho.low hD,fun k hk=>.inr (ho.lt' k hk).1,hb⟩
theorem xq{w X:Ba}{g B:Nat}{a0 a1 a2 a3 a4 a5 a6 a7 a8 a9:Au}(v0 v1 v2 v3 v4 v5 v6 v7 v8 v9:Au)(hg:X.heap[g]?=J (Ah #[a0,a1,a2,a3,a4,a5,a6,a7,a8,a9] 36 (0,0)))(hB:Ao B w X)(h1:B<=g) :
  ((((((((((X.setCell ⟨g,0,Z⟩ v0).setCell ⟨g,1,Z⟩ v1).setCell ⟨g,2,Z⟩ v2).setCell ⟨g,3,Z⟩ v3).setCell ⟨g,4,Z⟩ v4).setCell ⟨g,5,Z⟩ v5).setCell ⟨g,6,Z⟩ v6).setCell ⟨g,7,Z⟩ v7).setCell ⟨g,8,Z⟩ v8).setCell ⟨g,9,Z⟩ v9).heap[g]?=J (Ah #[v0,v1,v2,v3,v4,v5,v6,v7,v8,v9] 36 (0,0))/\Ao B w ((((((((((X.setCell ⟨g,0,Z⟩ v0).setCell ⟨g,1,Z⟩ v1).setCell ⟨g,2,Z⟩ v2).setCell ⟨g,3,Z⟩ v3).setCell ⟨g,4,Z⟩ v4).setCell ⟨g,5,Z⟩ v5).setCell ⟨g,6,Z⟩ v6).setCell ⟨g,7,Z⟩ v7).setCell ⟨g,8,Z⟩ v8).setCell ⟨g,9,Z⟩ v9)/\Ao g X ((((((((((X.setCell ⟨g,0,Z⟩ v0).setCell ⟨g,1,Z⟩ v1).setCell ⟨g,2,Z⟩ v2).setCell ⟨g,3,Z⟩ v3).setCell ⟨g,4,Z⟩ v4).setCell ⟨g,5,Z⟩ v5).setCell ⟨g,6,Z⟩ v6).setCell ⟨g,7,Z⟩ v7).setCell ⟨g,8,Z⟩ v8).setCell ⟨g,9,Z⟩ v9)/\(∀k,k≠g->((((((((((X.setCell ⟨g,0,Z⟩ v0).setCell ⟨g,1,Z⟩ v1).setCell ⟨g,2,Z⟩ v2).setCell ⟨g,3,Z⟩ v3).setCell ⟨g,4,Z⟩ v4).setCell ⟨g,5,Z⟩ v5).setCell ⟨g,6,Z⟩ v6).setCell ⟨g,7,Z⟩ v7).setCell ⟨g,8,Z⟩ v8).setCell ⟨g,9,Z⟩ v9).heap[k]?=X.heap[k]?)/\((((((((((X.setCell ⟨g,0,Z⟩ v0).setCell ⟨g,1,Z⟩ v1).setCell ⟨g,2,Z⟩ v2).setCell ⟨g,3,Z⟩ v3).setCell ⟨g,4,Z⟩ v4).setCell ⟨g,5,Z⟩ v5).setCell ⟨g,6,Z⟩ v6).setCell ⟨g,7,Z⟩ v7).setCell ⟨g,8,Z⟩ v8).setCell ⟨g,9,Z⟩ v9).heap.size=X.heap.size:=by
 have k0:(X.setCell ⟨g,0,Z⟩ v0).heap[g]?=J (Ah #[v0,a1,a2,a3,a4,a5,a6,a7,a8,a9] 36 (0,0)):=Lk _ g 0 _ _ v0 hg;have k1:((X.setCell ⟨g,0,Z⟩ v0).setCell ⟨g,1,Z⟩ v1).heap[g]?=J (Ah #[v0,v1,a2,a3,a4,a5,a6,a7,a8,a9] 36 (0,0)):=Lk _ g 1 _ _ v1 k0;have k2:(((X.setCell ⟨g,0,Z⟩ v0).setCell ⟨g,1,Z⟩ v1).setCell ⟨g,2,Z⟩ v2).heap[g]?=J (Ah #[v0,v1,v2,a3,a4,a5,a6,a7,a8,a9] 36 (0,0)):=Lk _ g 2 _ _ v2 k1;have k3:((((X.setCell ⟨g,0,Z⟩ v0).setCell ⟨g,1,Z⟩ v1).setCell ⟨g,2,Z⟩ v2).setCell ⟨g,3,Z⟩ v3).heap[g]?=J (Ah #[v0,v1,v2,v3,a4,a5,a6,a7,a8,a9] 36 (0,0)):=Lk _ g 3 _ _ v3 k2;have k4:(((((X.setCell ⟨g,0,Z⟩ v0).setCell ⟨g,1,Z⟩ v1).setCell ⟨g,2,Z⟩ v2).setCell ⟨g,3,Z⟩ v3).setCell ⟨g,4,Z⟩ v4).heap[g]?=J (Ah #[v0,v1,v2,v3,v4,a5,a6,a7,a8,a9] 36 (0,0)):=Lk _ g 4 _ _ v4 k3;have k5:((((((X.setCell ⟨g,0,Z⟩ v0).setCell ⟨g,1,Z⟩ v1).setCell ⟨g,2,Z⟩ v2).setCell ⟨g,3,Z⟩ v3).setCell ⟨g,4,Z⟩ v4).setCell ⟨g,5,Z⟩ v5).heap[g]?=J (Ah #[v0,v1,v2,v3,v4,v5,a6,a7,a8,a9] 36 (0,0)):=Lk _ g 5 _ _ v5 k4;have k6:(((((((X.setCell ⟨g,0,Z⟩ v0).setCell ⟨g,1,Z⟩ v1).setCell ⟨g,2,Z⟩ v2).setCell ⟨g,3,Z⟩ v3).setCell ⟨g,4,Z⟩ v4).setCell ⟨g,5,Z⟩ v5).setCell ⟨g,6,Z⟩ v6).heap[g]?=J (Ah #[v0,v1,v2,v3,v4,v5,v6,a7,a8,a9] 36 (0,0)):=Lk _ g 6 _ _ v6 k5
 have k7:((((((((X.setCell ⟨g,0,Z⟩ v0).setCell ⟨g,1,Z⟩ v1).setCell ⟨g,2,Z⟩ v2).setCell ⟨g,3,Z⟩ v3).setCell ⟨g,4,Z⟩ v4).setCell ⟨g,5,Z⟩ v5).setCell ⟨g,6,Z⟩ v6).setCell ⟨g,7,Z⟩ v7).heap[g]?=J (Ah #[v0,v1,v2,v3,v4,v5,v6,v7,a8,a9] 36 (0,0)):=Lk _ g 7 _ _ v7 k6;have k8:(((((((((X.setCell ⟨g,0,Z⟩ v0).setCell ⟨g,1,Z⟩ v1).setCell ⟨g,2,Z⟩ v2).setCell ⟨g,3,Z⟩ v3).setCell ⟨g,4,Z⟩ v4).setCell ⟨g,5,Z⟩ v5).setCell ⟨g,6,Z⟩ v6).setCell ⟨g,7,Z⟩ v7).setCell ⟨g,8,Z⟩ v8).heap[g]?=J (Ah #[v0,v1,v2,v3,v4,v5,v6,v7,v8,a9] 36 (0,0)):=Lk _ g 8 _ _ v8 k7;have k9:((((((((((X.setCell ⟨g,0,Z⟩ v0).setCell ⟨g,1,Z⟩ v1).setCell ⟨g,2,Z⟩ v2).setCell ⟨g,3,Z⟩ v3).setCell ⟨g,4,Z⟩ v4).setCell ⟨g,5,Z⟩ v5).setCell ⟨g,6,Z⟩ v6).setCell ⟨g,7,Z⟩ v7).setCell ⟨g,8,Z⟩ v8).setCell ⟨g,9,Z⟩ v9).heap[g]?=J (Ah #[v0,v1,v2,v3,v4,v5,v6,v7,v8,v9] 36 (0,0)):=Lk _ g 9 _ _ v9 k8;refine⟨k9,?_,?_,fun k hk=>?_,by simp⟩
 . refine Ls (p:=⟨g,9,Z⟩) ?_ h1 _
   refine Ls (p:=⟨g,8,Z⟩) ?_ h1 _;refine Ls (p:=⟨g,7,Z⟩) ?_ h1 _;refine Ls (p:=⟨g,6,Z⟩) ?_ h1 _;refine Ls (p:=⟨g,5,Z⟩) ?_ h1 _;refine Ls (p:=⟨g,4,Z⟩) ?_ h1 _;refine Ls (p:=⟨g,3,Z⟩) ?_ h1 _;refine Ls (p:=⟨g,2,Z⟩) ?_ h1 _;refine Ls (p:=⟨g,1,Z⟩) ?_ h1 _;refine Ls (p:=⟨g,0,Z⟩) ?_ h1 _;exact hB
 . refine Ls (p:=⟨g,9,Z⟩) ?_ (Lh _) _
   refine Ls (p:=⟨g,8,Z⟩) ?_ (Lh _) _;refine Ls (p:=⟨g,7,Z⟩) ?_ (Lh _) _;refine Ls (p:=⟨g,6,Z⟩) ?_ (Lh _) _;refine Ls (p:=⟨g,5,Z⟩) ?_ (Lh _) _;refine Ls (p:=⟨g,4,Z⟩) ?_ (Lh _) _;refine Ls (p:=⟨g,3,Z⟩) ?_ (Lh _) _;refine Ls (p:=⟨g,2,Z⟩) ?_ (Lh _) _;refine Ls (p:=⟨g,1,Z⟩) ?_ (Lh _) _;refine Ls (p:=⟨g,0,Z⟩) ?_ (Lh _) _;exact Lp _ _
 exact((Lf _ ⟨g,9,Z⟩ v9 k hk).trans ((Lf _ ⟨g,8,Z⟩ v8 k hk).trans ((Lf _ ⟨g,7,Z⟩ v7 k hk).trans ((Lf _ ⟨g,6,Z⟩ v6 k hk).trans ((Lf _ ⟨g,5,Z⟩ v5 k hk).trans ((Lf _ ⟨g,4,Z⟩ v4 k hk).trans ((Lf _ ⟨g,3,Z⟩ v3 k hk).trans ((Lf _ ⟨g,2,Z⟩ v2 k hk).trans ((Lf _ ⟨g,1,Z⟩ v1 k hk).trans (Lf _ ⟨g,0,Z⟩ v0 k hk))))))))))
theorem Jo{w X:Ba}{g B:Nat}{a0 a1 a2 a3 a4 a5 a6 a7:Au}(v:Vw)(hg:X.heap[g]?=J (Ah #[a0,a1,a2,a3,a4,a5,a6,a7] 100 (0,0)))(hB:Ao B w X)(h1:B<=g) :
  ((((((((X.setCell ⟨g,0,Z⟩ (O U v.p)).setCell ⟨g,1,Z⟩ (O U v.r)).setCell ⟨g,2,Z⟩ (O U v.i)).setCell ⟨g,3,Z⟩ (O U v.h0)).setCell ⟨g,4,Z⟩ (O U v.h1)).setCell ⟨g,5,Z⟩ (O U v.h2)).setCell ⟨g,6,Z⟩ (O U v.h3)).setCell ⟨g,7,Z⟩ (O U v.h4)).heap[g]?=J (Ah v.cells 100 (0,0))/\Ao B w ((((((((X.setCell ⟨g,0,Z⟩ (O U v.p)).setCell ⟨g,1,Z⟩ (O U v.r)).setCell ⟨g,2,Z⟩ (O U v.i)).setCell ⟨g,3,Z⟩ (O U v.h0)).setCell ⟨g,4,Z⟩ (O U v.h1)).setCell ⟨g,5,Z⟩ (O U v.h2)).setCell ⟨g,6,Z⟩ (O U v.h3)).setCell ⟨g,7,Z⟩ (O U v.h4)):=by
 have k0:(X.setCell ⟨g,0,Z⟩ (O U v.p)).heap[g]?=J (Ah #[O U v.p,a1,a2,a3,a4,a5,a6,a7] 100 (0,0)):=Lk _ g 0 _ _ _ hg;have k1:((X.setCell ⟨g,0,Z⟩ (O U v.p)).setCell ⟨g,1,Z⟩ (O U v.r)).heap[g]?=J (Ah #[O U v.p,O U v.r,a2,a3,a4,a5,a6,a7] 100 (0,0)):=Lk _ g 1 _ _ _ k0;have k2:(((X.setCell ⟨g,0,Z⟩ (O U v.p)).setCell ⟨g,1,Z⟩ (O U v.r)).setCell ⟨g,2,Z⟩ (O U v.i)).heap[g]?=J (Ah #[O U v.p,O U v.r,O U v.i,a3,a4,a5,a6,a7] 100 (0,0)):=Lk _ g 2 _ _ _ k1;have k3:((((X.setCell ⟨g,0,Z⟩ (O U v.p)).setCell ⟨g,1,Z⟩ (O U v.r)).setCell ⟨g,2,Z⟩ (O U v.i)).setCell ⟨g,3,Z⟩ (O U v.h0)).heap[g]?=J (Ah #[O U v.p,O U v.r,O U v.i,O U v.h0,a4,a5,a6,a7] 100 (0,0)):=Lk _ g 3 _ _ _ k2;have k4:(((((X.setCell ⟨g,0,Z⟩ (O U v.p)).setCell ⟨g,1,Z⟩ (O U v.r)).setCell ⟨g,2,Z⟩ (O U v.i)).setCell ⟨g,3,Z⟩ (O U v.h0)).setCell ⟨g,4,Z⟩ (O U v.h1)).heap[g]?=J (Ah #[O U v.p,O U v.r,O U v.i,O U v.h0,O U v.h1,a5,a6,a7] 100 (0,0)):=Lk _ g 4 _ _ _ k3
 have k5:((((((X.setCell ⟨g,0,Z⟩ (O U v.p)).setCell ⟨g,1,Z⟩ (O U v.r)).setCell ⟨g,2,Z⟩ (O U v.i)).setCell ⟨g,3,Z⟩ (O U v.h0)).setCell ⟨g,4,Z⟩ (O U v.h1)).setCell ⟨g,5,Z⟩ (O U v.h2)).heap[g]?=J (Ah #[O U v.p,O U v.r,O U v.i,O U v.h0,O U v.h1,O U v.h2,a6,a7] 100 (0,0)):=Lk _ g 5 _ _ _ k4;have k6:(((((((X.setCell ⟨g,0,Z⟩ (O U v.p)).setCell ⟨g,1,Z⟩ (O U v.r)).setCell ⟨g,2,Z⟩ (O U v.i)).setCell ⟨g,3,Z⟩ (O U v.h0)).setCell ⟨g,4,Z⟩ (O U v.h1)).setCell ⟨g,5,Z⟩ (O U v.h2)).setCell ⟨g,6,Z⟩ (O U v.h3)).heap[g]?=J (Ah #[O U v.p,O U v.r,O U v.i,O U v.h0,O U v.h1,O U v.h2,O U v.h3,a7] 100 (0,0)):=Lk _ g 6 _ _ _ k5;have k7:((((((((X.setCell ⟨g,0,Z⟩ (O U v.p)).setCell ⟨g,1,Z⟩ (O U v.r)).setCell ⟨g,2,Z⟩ (O U v.i)).setCell ⟨g,3,Z⟩ (O U v.h0)).setCell ⟨g,4,Z⟩ (O U v.h1)).setCell ⟨g,5,Z⟩ (O U v.h2)).setCell ⟨g,6,Z⟩ (O U v.h3)).setCell ⟨g,7,Z⟩ (O U v.h4)).heap[g]?=J (Ah #[O U v.p,O U v.r,O U v.i,O U v.h0,O U v.h1,O U v.h2,O U v.h3,O U v.h4] 100 (0,0)):=Lk _ g 7 _ _ _ k6;refine⟨k7,?_⟩;refine Ls (p:=⟨g,7,Z⟩) ?_ h1 _;refine Ls (p:=⟨g,6,Z⟩) ?_ h1 _;refine Ls (p:=⟨g,5,Z⟩) ?_ h1 _
 refine Ls (p:=⟨g,4,Z⟩) ?_ h1 _;refine Ls (p:=⟨g,3,Z⟩) ?_ h1 _;refine Ls (p:=⟨g,2,Z⟩) ?_ h1 _;refine Ls (p:=⟨g,1,Z⟩) ?_ h1 _;refine Ls (p:=⟨g,0,Z⟩) ?_ h1 _;exact hB
def WdsAt(bs D:Nat)(WR:Ba)(AW:Bb)(zi:List (List Rd)):Prop:=∀(i:Nat) (h:i<zi.length),∃g A c,AW=J ⟨g,0,Z⟩/\bs<g/\g<D/\WR.cell? ⟨g,i,Z⟩=J (I A zi[i].length c)/\RAtS (fun k=>bs<k/\k<D) WR A zi[i]/\zi[i].length<=c
theorem WdsAt.of{bs D:Nat}{w w':Ba}{v:Au}{zi:List (List Rd)}(h:OwnX cWd (fun b=>w.heap.size<=b) w' w.heap.size v zi)(hb:bs<w.heap.size)(hD:w'.heap.size=D) :
  ∃AW cw,v=I AW zi.length cw/\WdsAt bs D w' AW zi:=by
 obtain⟨A,cap,e,_,_,h3⟩:=h.form xL;refine⟨A,cap,e,fun i hi=>?_⟩;obtain⟨g,hA,hg,hl,hc⟩:=h3 (by omega);obtain⟨cs,⟨A2,c2,e2,hR,Wq⟩,hu⟩:=hc i hi;subst e2;refine⟨g,A2,c2,hA,by omega,by omega,?_,hR.mono fun k hk hs=>⟨by have:=hs.1;omega,by omega⟩,Wq⟩;have:=hu 0 _ rfl;simpa[cWd,kWd] using this
end
section
open Go.RowKit
attribute [local go_sem] Oper.semAt_some
theorem Yh(a:Ad)(hf:FewA a)(hz:zl a a.sts=0)(h1:1<=a.sts.length)(K L:Nat)(hK:K<=6)(hL:L<=1048576)(SV:Bb)(ks:Nat)(w:Ba)(hS:SAt w w.heap.size SV a.sts) :
  Ap An 122 #[Aj #[O U a.n,I SV a.sts.length ks],O U K,O U L] w fun e w'=>e=Am (O U ((yz L (zG a K 0):Nat):Int))/\Ao w.heap.size w w':=by
 have dR:=hf.1;have lk:=zH (fun l hl=>hf.each (l:=l) hl);have HZ:=zH (@xv a hz);go_enter func122,ntmps122;go_wp2_with fail;obtain⟨w1,ah⟩:=Kh (w.alloc (Ah #[O U a.n,I SV a.sts.length ks] 27));have aI:=zh w (Ah #[O U a.n,I SV a.sts.length ks] 27);have am:Ao w.heap.size w w1:=by rw[<-ah];exact zw w _
 have co:w1.heap.size=w.heap.size+1:=by rw[<-ah];simp
 rw[ah] at aI ⊢;have bK:=zH aI;have aY:=zH am;have HS:=zH ((hS.keep am).more (by omega:w.heap.size<=w1.heap.size))
 go_loopw [7,8] (fun v i wr=>∃s:Nat,s<=a.sts.length/\i=O U (s:Int)/\As (Own wr w1.heap.size v (cl a L 0 s))/\As (Ao w1.heap.size w1 wr)) (fun _ i _=>a.sts.length-(Aq i).toNat)
 case atStart=>exact⟨0,by omega,rfl,Own.nil _ _,Lp _ _⟩
 obtain⟨s,hs,rfl,HO,bG⟩:=hrel;have aN:=La bG.out bK.out;have q1:=za aN 1 rfl
 by_cases ac:s<a.sts.length
 case pos=>
  have nR:=qW a L 0 s;have HR:As (cl a L 0 (s+1)=cl a L 0 s++[1]):=by rw[As,Q4,show zG a 0 (s:Int)=1 from rfl,QK];rfl
  go_wp2_with (at_builtin;go_must (refine kh rfl _ _ rfl w1.heap.size u7 _ (1:Int) rfl HO.out rfl (by omega) bG.out.size ?_);intro v' w2 bN eJ aC)
  go_roundw
  case rel=>exact⟨s+1,by omega,by go_num,by rw[HR.out];exact bN,bG.out.trans aC⟩
  simp[Aq];omega
 case neg=>
 obtain rfl:s=a.sts.length:=by omega
 go_wp2_with fail
 go_loopw [7,9] (fun v i wr=>∃k:Nat,k<=K/\i=O U (k:Int)/\As (Own wr w1.heap.size v (cl a L k a.sts.length))/\As (Ao w1.heap.size w1 wr)) (fun _ i _=>K-(Aq i).toNat)
 case atStart=>exact⟨0,by omega,rfl,HO,bG⟩
 obtain⟨k,hk,rfl,HO,bG⟩:=hrel
 by_cases Py:k<K
 case neg=>
  obtain rfl:k=K:=by omega
  obtain⟨A,cap,hv,du,iV,hI⟩:=HO.out.form;subst hv;have nR:=qW a L k a.sts.length;obtain⟨b,o,rfl,dH,hc⟩:=hI (by omega);have c0:=hc 0 (by omega);rw[gh] at c0;rw[nR] at du;rw[show((0:Nat):Int)=0 from rfl,Pq] at c0;obtain⟨r,hr⟩:=Kh (yz L (zG a k 0));rw[hr] at c0;have HRr:=zH hr;go_wp2_with fail;go_ret;exact⟨zc (by rw[HRr.out]),aY.out.trans (bG.out.mono (by omega))⟩
 case pos=>
 obtain⟨A,cap,hv,du,iV,hI⟩:=HO.out.form;subst hv;have nR:=qW a L k a.sts.length;obtain⟨b0,o0,e0,Du,hc⟩:=hI (by omega);subst e0;rw[nR] at du;obtain⟨W2,eM⟩:=Kh wr
 have Ud:As (∀X,Ao W2.heap.size W2 X->∀j:Nat,j<a.sts.length->X.cell? ⟨b0,o0+j,Z⟩=J (O U ((yz L (zG a k (j:Int)):Nat):Int))):=fun X hX j hj=>by
  rw[<-eM] at hX;have:=hc j (by omega);rw[gh] at this;exact(hX.cell (p:=⟨b0,_,Z⟩) Du).trans this
 rw[eM] at HO bG Du ⊢;have Fn:=bG.out.size;go_wp2_with fail;simp only[nR]
 go_loopw [10,11] (fun v i wx=>∃s:Nat,s<=a.sts.length/\i=O U (s:Int)/\As (Own wx W2.heap.size v (cl a L (k+1) s))/\As (Ao W2.heap.size W2 wx)) (fun _ i _=>a.sts.length-(Aq i).toNat)
 case atStart=>exact⟨0,by omega,rfl,Own.nil _ _,Lp _ _⟩
 obtain⟨s,hs,rfl,HP,aM⟩:=hrel;have cD:=zH (bG.out.trans (aM.out.mono Fn));have aN:=La cD.out bK.out;have q1:=za aN 1 rfl
 by_cases mh:s<a.sts.length
 case neg=>
  obtain rfl:s=a.sts.length:=by omega
  go_wp2_with fail
  go_roundw
  case rel=>exact⟨k+1,by omega,by go_num,HP.out.low Fn,cD⟩
  simp[Aq];omega
 case pos=>
 obtain⟨b,o,A',k',e',dH,c1,hM⟩:=(HS.out.keep cD.out).at_ s mh;subst e';have dn:=lk.out _ (Ld mh);have Fm:=Jt a k mh;have Ey:As (∀m∈a.sts[s],m∈a.mvs):=fun m hm=>NA.2 ⟨_,Ld mh,hm⟩
 have mz:=zH hM;obtain⟨M,Wt⟩:=Kh (a.sts[s]);rw[Wt] at c1 dn Ey Fm mz;have rN:=zH Fm;have ib:=qW a L (k+1) s;go_wp2_with fail
 go_loop [12,13] (fun n i=>∃j:Nat,j<=M.length/\i=O U (j:Int)/\n=O U ((yz L (qD a k M j):Nat):Int)) (fun _ i=>M.length-(Aq i).toNat)
 case atStart=>exact⟨0,by omega,rfl,by rw[Xi,Ye];rfl⟩
 obtain⟨j,hj,rfl,rfl⟩:=hrel
 by_cases bg:j<M.length
 case neg=>
  obtain rfl:j=M.length:=by omega
  have HR:As (cl a L (k+1) (s+1)=cl a L (k+1) s++[((yz L (qD a k M M.length):Nat):Int)]):=by rw[As,Q4,rN.out]
  obtain⟨r,hr⟩:=Kh (yz L (qD a k M M.length));rw[hr] at HR ⊢;go_wp2_with (at_builtin;go_must (refine kh rfl _ _ rfl W2.heap.size u10 _ (r:Int) rfl HP.out rfl (by omega) aM.out.size ?_);intro v' w3 bN eJ aC)
  go_roundw
  case rel=>exact⟨s+1,by omega,by go_num,by rw[HR.out];exact bN,aM.out.trans aC⟩
  simp[Aq];omega
 case pos=>
 obtain⟨b2,o2,e2,aQ,_,_,_,_,_,_,_,d7⟩:=mz.out.row j bg;subst e2;obtain⟨_,_,z3,z4⟩:=HZ.out _ (Ey.out _ (Ld bg));have AM:=Xj a k M bg;obtain⟨t,et⟩:=Lr z3;rw[et] at d7 AM z4;have lz:t<a.sts.length:=by omega
 have u0:=Ud.out _ aM.out t lz;have y1:=vm L (qD a k M j);have y2:=vm L (zG a k (t:Int));have y3:=QM L (qD a k M j) (zG a k (t:Int));rw[<-AM] at y3;obtain⟨n1,fU⟩:=Kh (yz L (qD a k M j));obtain⟨n2,sI⟩:=Kh (yz L (zG a k (t:Int)));rw[fU] at y1 y3 ⊢;rw[sI] at y2 y3 u0;have le:=zH y3;go_wp2_with fail
 go_round
 case rel => 
  refine⟨j+1,by omega,by go_num,?_⟩;rw[<-le.out];exact congrArg (O U) (by first | (split<;>omega) | omega)
 simp[Aq];omega
theorem gV(p:Pb)(hf:ZZ p)(hz:zl p.a p.a.sts=0)(h1:1<=p.a.sts.length)(K L:Nat)(hk:p.k=(K:Int))(hK:K<=6)(hL:L<=1048576)(A:Bb)(kc:Nat)(SV:Bb)(ks:Nat)(w:Ba)(hS:SAt w w.heap.size SV p.a.sts) :
  Ap An 94 #[.agg (p.vs A kc SV ks),O U L] w fun e w'=>e=Am (O U ((p.t.cases.length*yz L (zG p.a K 0):Nat):Int))/\Ao w.heap.size w w':=by
 have lT:=hf.1.1;have HN:=zH (fun (w':Ba) (h:SAt w' w'.heap.size SV p.a.sts)=>Yh p.a hf.2 hz h1 K L hK hL SV ks w' h);have oQ:=vm L (zG p.a K 0);obtain⟨r,hr⟩:=Kh (yz L (zG p.a K 0));rw[hr] at HN oQ ⊢;unfold Pb.vs;rw[hk];obtain⟨w1,ah⟩:=Kh (w.alloc (Ah (p.vs A kc SV ks) 29));have aI:=zh w (Ah (p.vs A kc SV ks) 29);have am:Ao w.heap.size w w1:=by rw[<-ah];exact zw w _
 rw[ah] at aI;unfold Pb.vs at ah aI;rw[hk] at ah aI;have co:w1.heap.size=w.heap.size+1:=by rw[<-ah];simp
 have aY:=zH am;have HS:=zH ((hS.keep am).more (by omega:w.heap.size<=w1.heap.size));have aq:=zH ah;have q3:=za aI 3 rfl;have q4:=za aI 4 rfl;have q5:=za aI 5 rfl;have q6:=za aI 6 rfl;obtain⟨cn,s'⟩:=Kh p.t.cases.length;rw[s'] at aq q3 lT ⊢;have hm:cn*r<=30*1048577:=NY lT (by omega);have hw:IntKind.i64.wrap ((cn:Int)*(r:Int))=((cn*r:Nat):Int):=by rw[Lw,<-Int.natCast_mul];omega
 go_enter func94,ntmps94;go_wp2_with fail;rw[aq.out];have lr:w.heap.size<w1.heap.size:=by omega
 have iq:As (∀X,Ao w1.heap.size w1 X->X.cell? ⟨w.heap.size,3,Z⟩=J (I A cn kc)/\X.cell? ⟨w.heap.size,4,Z⟩=J (O U p.a.n)/\X.cell? ⟨w.heap.size,5,Z⟩=J (I SV p.a.sts.length ks)/\X.cell? ⟨w.heap.size,6,Z⟩=J (O U K)):=fun X hX=>
  ⟨(hX.cell (p:=⟨_,_,Z⟩) lr).trans q3,(hX.cell (p:=⟨_,_,Z⟩) lr).trans q4,(hX.cell (p:=⟨_,_,Z⟩) lr).trans q5,(hX.cell (p:=⟨_,_,Z⟩) lr).trans q6⟩
 have HSX:As (∀X,Ao w1.heap.size w1 X->SAt X X.heap.size SV p.a.sts):=fun X hX=>(HS.out.keep hX).more hX.size
 go_region_held3 (fun w'=>w'.cell? ⟨w.heap.size,3,Z⟩=J (I A cn kc)/\w'.cell? ⟨w.heap.size,4,Z⟩=J (O U p.a.n)/\w'.cell? ⟨w.heap.size,5,Z⟩=J (I SV p.a.sts.length ks)/\w'.cell? ⟨w.heap.size,6,Z⟩=J (O U K))
  (first | exact⟨q3,q4,q5,q6⟩ | exact iq.out _ (vK ap) | exact iq.out _ ap)
  ((go_at_call 122;refine(HN.out _ (HSX.out _ (by repeat (first | exact Lp _ _ | refine Below.drew ?_ | refine zx ?_ _)))).mono ?_;rintro e w3 ⟨rfl,ap⟩))
 have lF:=zH (aY.out.trans ((vK ap).mono (by have:w1.drew.heap.size=w1.heap.size:=rfl;omega)));go_wp2_with fail;go_ret;exact⟨zc (by first | rfl | rw[hw]),lF.out⟩
def uE(p:Pb):Nat:=p.t.cases.length*yz 4096 (zG p.a p.k.toNat 0)
def wZ(a:Ad):Bool:=decide (a.sts.length<=8)&&decide (a.mvs.length<=40)
def xa(p:Pb):Bool:=kD p.t&&wZ p.a&&!(decide (3<p.t.n)&&decide (p.t.n<=5))&&(decide (zC p≠0)||(decide (uE p<=60)||decide (4096<uE p)))
theorem fewPB_t{p:Pb}(h:kD p.t=Ax):xa p=Ax:=by unfold xa;rw[h];rfl
theorem fewPB_a{p:Pb}(h:wZ p.a=Ax):xa p=Ax:=by unfold xa;rw[h];simp
theorem fewPB_n{p:Pb}(h:3<p.t.n)(h2:p.t.n<=5):xa p=Ax:=by unfold xa;rw[Ll h,Ll h2];simp
theorem fewPB_e{p:Pb}(h:kD p.t=Av)(h1:wZ p.a=Av)(h2:¬(3<p.t.n/\p.t.n<=5))(h3:zC p≠0):xa p=Av:=by
 unfold xa;have e:(decide (3<p.t.n)&&decide (p.t.n<=5))=Ax:=by simpa[Bool.and_eq_false_imp] using fun x=>by omega
 rw[h,h1,e,Ll h3];rfl
theorem fewPB_m{p:Pb}(h:kD p.t=Av)(h1:wZ p.a=Av)(h2:¬(3<p.t.n/\p.t.n<=5))(h3:zC p=0):xa p=(decide (uE p<=60)||decide (4096<uE p)):=by
 unfold xa;have e:(decide (3<p.t.n)&&decide (p.t.n<=5))=Ax:=by simpa[Bool.and_eq_false_imp] using fun x=>by omega
 rw[h,h1,e,h3];simp
theorem Zm{a:Ad}:wZ a=Av↔FewA a:=by unfold wZ FewA;simp
theorem num_exec{p:Pb}(h:zC p=0):(uE p<=60\/4096<uE p)->(zK p<=60\/4096<zK p):=by
 obtain⟨cK,_⟩:=zJ h;obtain⟨h1,_⟩:=yt cK;intro hn;have e:zK p=p.t.cases.length*zG p.a p.k.toNat 0:=by unfold zK;rw[Pd]
 have hm:=QL 4096 p.t.cases.length (zG p.a p.k.toNat 0) h1;rw[e];rcases hn with hn | hn
 . left
   unfold uE at hn;have du:yz 4096 (zG p.a p.k.toNat 0)<=60:=Lx (Nat.le_mul_of_pos_left _ h1) hn;have hx:zG p.a p.k.toNat 0<=4096:=by unfold yz at du;omega
   rwa[Xn hx] at hn
 right;exact hm.1 hn
theorem few_x{p:Pb}(h:xa p=Av):xY p/\¬(3<p.t.n/\p.t.n<=5):=by
 unfold xa at h;simp only[Bool.and_eq_true,Bool.not_eq_true',Bool.or_eq_true,decide_eq_true_eq] at h;obtain⟨⟨⟨h1,h2⟩,h3⟩,h4⟩:=h;refine⟨⟨⟨YP.1 h1,Zm.1 h2⟩,fun h0=>?_⟩,fun hn=>?_⟩
 . rcases h4 with h4 | h4
   . exact absurd h0 h4
   exact num_exec h0 h4
 rw[Ll hn.1,Ll hn.2] at h3
 cases h3
theorem few_any(p:Pb)(hl:uI p)(A:Bb)(kc:Nat)(SV:Bb)(ks:Nat)(w:Ba)(hA:CAt w w.heap.size A p.t.cases)(hS:SAt w w.heap.size SV p.a.sts) :
  Ap An 55 #[.agg (p.vs A kc SV ks)] w fun e w'=>e=Am (Ai (xa p))/\Ao w.heap.size w w':=by
 have HT:=zH (fun (w':Ba) (h:CAt w' w'.heap.size A p.t.cases)=>JF p.t A kc hl.1.1 hl.1.2 w' h);have HD:=zH (fun (w':Ba) (h:SAt w' w'.heap.size SV p.a.sts)=>JG p.a SV ks hl.2.1 hl.2.2 w' h);have HC:=zH (fun (hf:ZZ p) (w':Ba) (h1:CAt w' w'.heap.size A p.t.cases) (h2:SAt w' w'.heap.size SV p.a.sts)=>ue p hf A kc SV ks w' h1 h2);have ay:=zH (@fewPB_t p);have al:=zH (@fewPB_a p);have aw:=zH (@fewPB_n p);have cA:=zH (@fewPB_e p);have fg:=zH (@fewPB_m p);obtain⟨R,SI⟩:=Kh (xa p);rw[SI] at ay al aw cA fg ⊢;obtain⟨w1,ah⟩:=Kh (w.alloc (Ah (p.vs A kc SV ks) 29));have aI:=zh w (Ah (p.vs A kc SV ks) 29);have am:Ao w.heap.size w w1:=by rw[<-ah];exact zw w _
 have co:w1.heap.size=w.heap.size+1:=by rw[<-ah];simp
 rw[ah] at aI
 have HN:=zH (fun (w':Ba) (hf:ZZ p) (h0:zC p=0) (h:SAt w' w'.heap.size SV p.a.sts)=>
  gV p hf (yq hf.2 (zJ h0).2.1).1 (yq hf.2 (zJ h0).2.1).2.1 p.k.toNat 4096 (by have:=(zJ h0).2.2.2.1;omega) (by have:=(zJ h0).2.2.2.2;omega) (by decide) A kc SV ks w' h)
 unfold Pb.vs at ah aI ⊢;have bK:=zH aI;have aY:=zH am;have HA:=zH ((hA.keep am).more (by omega:w.heap.size<=w1.heap.size));have HS:=zH ((hS.keep am).more (by omega:w.heap.size<=w1.heap.size));have aq:=zH ah;obtain⟨q0,q1,q2,q3,_⟩:=Kb aI;clear hA hS ah am aI hl SI;obtain⟨bT,Km⟩:=Kh (kD p.t);obtain⟨bA,FJ⟩:=Kh (wZ p.a);have Uh:As ((decide (p.a.sts.length<=8)&&decide (p.a.mvs.length<=40))=bA):=FJ;rw[Km] at HT ay cA fg;rw[FJ] at al cA fg;have rT:=zH Km;have tQ:=zH FJ;clear Km FJ;go_enter func55,ntmps55;go_wp2_with fail;rw[aq.out];go_wp2_with fail;refine(HT.out w1 HA.out).mono ?_;rintro e w2 ⟨rfl,af⟩;have B2:=zH (aY.out.trans (af.mono (by omega)));have dg:=zH ((HS.out.keep af).more af.size);have GD:=zH ((HA.out.keep af).more af.size);have aN:=La af bK.out;have aW:=zH aN;have dX:=af.size;have q4:=za aN 4 rfl;have q5:=za aN 5 rfl;clear af aN HT aq q0 q1 q2 q3
 cases bT with
 | false=>
  have hR:=zH (ay.out rfl);clear ay al aw cA fg HD;go_wp2_with fail;go_ret;exact⟨ze hR.out.symm,B2.out⟩
 | true=>
 clear ay;go_wp2_with fail;refine(HD.out w2 dg.out).mono ?_;rw[Uh.out];rintro e w3 ⟨rfl,ap⟩;have B3:=zH (B2.out.trans (ap.mono (by omega)));have ez:=zH ((dg.out.keep ap).more ap.size);have GC:=zH ((GD.out.keep ap).more ap.size);have aN:=La ap aW.out;have bL:=zH aN;have fE:=ap.size;obtain⟨q0,q1,q2,q3,q4,q5,q6,_⟩:=Kf aN;clear ap aN HD
 cases bA with
 | false=>
  have hR:=zH (al.out rfl);clear al aw cA fg;go_wp2_with fail;go_ret;exact⟨ze hR.out.symm,B3.out⟩
 | true=>
 clear al;have T8:As (ZZ p):=⟨YP.1 rT.out,Zm.1 tQ.out⟩;have F4:=zH (cA.out (by simp) (by simp));have F5:=zH (fg.out (by simp) (by simp));clear cA fg rT tQ Uh
 by_cases h3:3<p.t.n/\p.t.n<=5
 case pos=>
  have hR:=zH (aw.out h3.1 h3.2);obtain⟨FV,KR⟩:=h3;clear aw F4 F5;go_wp2_with fail
  all_goals first | (exfalso;omega) | skip
  all_goals
   go_ret;exact⟨ze hR.out.symm,B3.out⟩
 case neg=>
 have G4:=zH (F4.out h3);have G5:=zH (F5.out h3);clear aw F4 F5;obtain⟨E,hE⟩:=Kh (zC p);rw[hE] at HC G4 G5;have oo:=zH hE;clear hE;obtain⟨M,hM⟩:=Kh (p.t.cases.length*yz 4096 (zG p.a p.k.toNat 0));have mz:As (uE p=M):=hM;rw[hM] at HN;clear hM;have WJ:¬(3<p.t.n)\/(3<p.t.n/\¬p.t.n<=5):=by omega
 clear h3;rcases WJ with FV | ⟨FV,KR⟩
 all_goals
  go_wp2_with fail
  all_goals first | (exfalso;omega) | skip
  refine(HC.out T8.out w3 GC.out ez.out).mono ?_;rintro e w4 ⟨rfl,aU⟩;have B4:=zH (B3.out.trans (aU.mono (by omega)));have mx:=zH ((ez.out.keep aU).more aU.size);have aN:=La aU bL.out;have iQ:=aU.size;obtain⟨q0,q1,q2,q3,q4,q5,q6,_⟩:=Kf aN;clear aU aN HC
  by_cases h0:E=0
  case neg=>
   have hR:=zH (G4.out h0);have e0:(E != 0)=Av:=by simpa using h0
   clear G4 G5 h0 HN;go_wp2_with fail;go_ret;exact⟨ze hR.out.symm,B4.out⟩
  case pos=>
   subst h0;have hR:=zH (G5.out rfl);rw[mz.out] at hR;clear G4 G5;go_wp2_with fail;refine(HN.out w4 T8.out oo.out mx.out).mono ?_;rintro e w5 ⟨rfl,cd⟩;have B5:=zH (B4.out.trans (cd.mono (by omega)));clear cd HN mz q0 q1 q2 q3 q4 q5 q6
   by_cases hm:M<=60
   . have fN:As (R=Av):=hR.out.trans (by rw[Ll hm];rfl)
     clear hR;go_wp2_with fail
     all_goals first | (exfalso;omega) | skip
     go_ret;exact⟨ze fN.out.symm,B5.out⟩
   . have fN:As (R=decide (4096<M)):=hR.out.trans (by rw[Lm hm];rfl)
     clear hR;go_wp2_with fail
     all_goals first | (exfalso;omega) | skip
     go_ret;exact⟨ze (by rw[fN.out,Lm (show ¬((M:Int)<=60) by omega),Bool.false_or];exact ZV (by omega)),B5.out⟩
def yX(s:Sy):Int:=if (zD s.p).2≠0 then (zD s.p).2 else if s=(zD s.p).1 then 0 else 3
theorem ZB(p:Pb)(h:zC p=0)(df:zK p<=60):(zo p (zk p)).1.length<=2100/\(zo p (zk p)).2.length<=60:=by
 obtain⟨cK,_,_,cq,lO⟩:=zJ h;obtain⟨h1,fU,na⟩:=yt cK
 have hl:p.t.cases.length*(zn p.a p.k.toNat 0).length<=60:=by
  rw[yr];unfold zK at df;rw[Pd];exact df
 rw[QV p];refine⟨wj p _ (by omega) (fun w hw=>?_) _ hl,?_⟩
 . rw[yQ p.a _ 0 w hw];omega
 rw[xP,ZH];exact hl
theorem runW_mem(p:Pb)(l:List (Nat×List Rd)):∀x∈(zo p l).2,∃y∈l,∃vs,x=⟨y.1,y.2,(zm vs p.t.n.toNat (zW p y.1) y.2 y.2.length).2⟩:=by
 have key:∀n,n<=l.length->∀x∈(zo p (l.take n)).2,∃y∈l,∃vs,x=⟨y.1,y.2,(zm vs p.t.n.toNat (zW p y.1) y.2 y.2.length).2⟩:=by
  intro n
  induction n with
  | zero=>intro _ x hx;simp[kj] at hx
  | succ n ih=>
   intro hl x hx;rw[Lu (by omega),xI] at hx;rcases LS.1 hx with hx | hx
   . exact ih (by omega) x hx
   . rw[NH] at hx
     exact⟨l[n],Ld _,_,hx⟩
 have:=key l.length (Lh _);rwa[LD] at this
theorem Z0:LowS xW:=⟨⟨⟨by decide,fun c h=>by simp[xW] at h⟩,by decide,fun c h=>by simp[xW] at h⟩,by decide,by decide,fun c h=>by simp[xW] at h⟩
theorem qM{p:Pb}(hp:uI p)(hf:xY p):LowS (zD p).1:=by
 by_cases h0:zC p=0
 case neg=>rw[xm h0];exact Z0
 case pos=>
 rcases hf.2 h0 with df | df
 case inr=>rw[yW h0 df];exact Z0
 case inl=>
 rw[xr h0 (by omega)];obtain⟨r1,r2⟩:=ZB p h0 df;obtain⟨cK,_,_,cq,lO⟩:=zJ h0;obtain⟨h1,fU,na⟩:=yt cK;refine⟨hp,by show(zo p (zk p)).1.length<=_;omega,by show(zo p (zk p)).2.length<=_;omega,fun x hx=>?_⟩;obtain⟨y,hy,vs,rfl⟩:=runW_mem p (zk p) x hx
 have cz:y.2.length<=6:=by
  unfold zk at hy;obtain⟨d,_,hy⟩:=LR.1 hy;obtain⟨w',db,rfl⟩:=LA.1 hy;show w'.length<=6;rw[yQ p.a _ 0 w' db];omega
 refine⟨by show y.2.length<=_;omega,?_,fun v hv=>?_⟩
 . show(zm vs p.t.n.toNat (zW p y.1) y.2 y.2.length).2.length<=_
   rw[zY];omega
 rw[qg _ _ _ _ _ v hv];omega
theorem Zy(s:Sy)(hs:LowS s)(hf:xY s.p)(A SV AV AX:Bb)(kc ks kv kx:Nat)(w:Ba)(hS:SyAt w w.heap.size A SV AV AX s) :
  Ap An 17 #[.agg (s.vs_ A kc SV ks AV kv AX kx)] w fun e w'=>e=Am (O U (yX s))/\Ao w.heap.size w w':=by
 obtain⟨w1,ah⟩:=Kh (w.alloc (Ah (s.vs_ A kc SV ks AV kv AX kx) 36));have aI:=zh w (Ah (s.vs_ A kc SV ks AV kv AX kx) 36);have am:Ao w.heap.size w w1:=by rw[<-ah];exact zw w _
 have co:w1.heap.size=w.heap.size+1:=by rw[<-ah];simp
 rw[ah] at aI;have eR:=zH (hS.up am);have HB:=zH (Zt s.p hf A kc SV ks w1 (hS.up am).fc (hS.up am).fs);have nF:=zH (qM hs.fp hf);have tY:=zH hs;have lg:As (yX s=if (zD s.p).2≠0 then (zD s.p).2 else if s=(zD s.p).1 then 0 else 3):=rfl
 have bD:=zH (fun (h:(zD s.p).2=0)=>(by
  by_cases h0:zC s.p=0
  case neg=>rw[xm h0] at h;exact absurd h h0
  case pos=>
   by_cases h1:4096<zK s.p
   . rw[yW h0 h1] at h;cases h
   . rw[xr h0 (by omega)];exact⟨rfl,rfl⟩:(zD s.p).1.p=s.p/\(zD s.p).1.n=s.p.t.n))
 unfold Sy.vs_ at ah aI ⊢;unfold Pb.vs at HB;have aq:=zH ah;have bK:=zH aI;have aY:=zH am;have p6:=za aI 6 rfl;obtain⟨R,hR⟩:=Kh (zD s.p);rw[hR] at HB nF lg bD;obtain⟨r,hr⟩:=Kh (yX s);rw[hr] at lg ⊢;clear ah aI am hS hs hf hR hr;go_enter func17,ntmps17;go_wp2_with fail;rw[aq.out];go_wp2_with fail;refine HB.out.mono ?_;rintro e w2 ⟨A2,dM,da,dL,fY,iy,ix,lH,rfl,iD,eF,fD,af⟩;obtain⟨T,E⟩:=R;obtain⟨W3,bP,b3,fE,aZ⟩:=zt w2 (T.vs_ A2 dM da dL fY iy ix lH) 36;have ez:=zH (iD.up aZ);have bL:=zH (aY.out.trans ((Lc af aZ).mono (by omega)));have dX:=af.size;have d0:=Lb aZ (by omega:w.heap.size<w2.heap.size) (Lb af (by omega:w.heap.size<w1.heap.size) bK.out);have pE:=zH ((eR.out.up af).up aZ);unfold Sy.vs_ at bP b3 ⊢;have dV:=zH bP;have bu:=zH d0;have me:=zH b3;clear af iD eF fD aZ bP HB aq p6 eR bK;dsimp only at lg bD nF ez;go_simp;rename_i eq;refine eq _ _ ?_;clear eq;refine LJ rfl fun K5 aV=>?_
 go_simp;refine aV _ _ ?_;clear aV K5;refine LJ rfl fun K5 aV=>?_
 go_simp;refine aV _ _ ?_;clear aV K5;refine LJ rfl fun K5 aV=>?_
 go_simp;refine aV _ _ ?_;clear aV K5;refine LJ rfl fun K5 aV=>?_
 go_simp;refine aV _ _ ?_;clear aV K5;refine LJ rfl fun K5 aV=>?_
 go_simp;rw[dV.out];refine aV _ _ ?_
 by_cases h0:E=0
 case neg=>
  have e0:(E != 0)=Av:=by simpa using h0
  have hR:As (r=E):=lg.out.trans (Ln h0);clear lg bD h0 d0 b3;go_wp2_with fail;go_ret;exact⟨zc hR.out.symm,bL.out⟩
 case pos=>
 subst h0;obtain⟨DI,Kx⟩:=bD.out rfl;have tk:r=if s=T then 0 else 3:=lg.out.trans (Lj (by simp));have H3:As (s≠T->r=3):=fun h=>tk.trans (Lj h)
 have H0:As (s=T->r=0):=fun h=>tk.trans (Ln h)
 have Mr:=zH DI;have sc:=zH (@sy_eq s T);have x7:W3.cell? ⟨w.heap.size,7,Z⟩=J (O U s.n):=za d0 7 rfl;have x8:W3.cell? ⟨w.heap.size,8,Z⟩=J (I AV s.vs.length kv):=za d0 8 rfl;have y7:W3.cell? ⟨w2.heap.size,7,Z⟩=J (O U T.n):=za b3 7 rfl;have y8:W3.cell? ⟨w2.heap.size,8,Z⟩=J (I fY T.vs.length iy):=za b3 8 rfl;have nA:=zH (eqV_any AV fY kv iy s.vs T.vs W3 W3.heap.size (Lh _) pE.out.fv ez.out.fv tY.out.fv nF.out.fv);have pD:=zH (fun n=>eqX_any AX ix kx lH s.xs T.xs (W3.drewN n) pE.out.fx ez.out.fx (Lx tY.out.fx (by decide)) (Lx nF.out.fx (by decide)) tY.out.fe nF.out.fe);clear DI Kx tk lg bD d0 b3 nF tY
 by_cases h1:s.n=T.n
 case neg=>
  have hR:=zH (H3.out (fun h=>h1 (congrArg Sy.n h)));have e0:(s.n != T.n)=Av:=by simpa using h1
  clear H3 H0 h1 nA pD sc;go_wp2_with fail
  all_goals
   go_ret;exact⟨zc hR.out.symm,bL.out⟩
 case pos=>
 have e0:(s.n != T.n)=Ax:=by simpa using h1
 have tU:=zH h1;go_wp2_with fail;refine nA.out.mono ?_;rintro e w4 ⟨rfl,n,rfl⟩;have x9:(W3.drewN n).cell? ⟨w.heap.size,9,Z⟩=J (I AX s.xs.length kx):=za bu.out 9 rfl;have y9:(W3.drewN n).cell? ⟨w2.heap.size,9,Z⟩=J (I ix T.xs.length lH):=za me.out 9 rfl
 by_cases h2:s.vs=T.vs
 case neg=>
  have hR:=zH (H3.out (fun h=>h2 (congrArg Sy.vs h)));rw[Lm h2];go_wp2_with fail
  all_goals
   go_ret;exact⟨zc hR.out.symm,zx bL.out n⟩
 case pos=>
 rw[Ll h2];have l5:=zH h2;go_wp2_with fail;refine(pD.out n).mono ?_;rintro e w5 ⟨rfl,cd⟩;have B5:=zH (bL.out.trans ((zx (Lp W3.heap.size W3) n).trans cd |>.mono (by omega)))
 by_cases h3:s.xs=T.xs
 case neg=>
  have hR:=zH (H3.out (fun h=>h3 (congrArg Sy.xs h)));rw[Lm h3];go_wp2_with fail
  all_goals
   go_ret;exact⟨zc hR.out.symm,B5.out⟩
 have hR:=zH (H0.out (sc.out Mr.out.symm ⟨tU.out,l5.out⟩ h3));rw[Ll h3];go_wp2_with fail
 all_goals
  go_ret;exact⟨zc hR.out.symm,B5.out⟩
end
section
open Go.RowKit Go.Shelf
attribute [local go_sem] Oper.semAt_some
def RetBt(p:Pb)(A:Bb)(kc:Nat)(SV:Bb)(ks:Nat)(w:Ba)(e:Ending)(w':Ba):Prop:=
 ∃AV kv AE ke,e=Am (Aj #[O U p.t.n,O U p.t.ins,O U p.t.outs,I A p.t.cases.length kc,O U p.a.n,I SV p.a.sts.length ks,O U p.k,O U p.t.n,.slice AV (zo p (zk p)).1.length kv,.slice AE (zo p (zk p)).2.length ke]) /\
  OwnV w' w.heap.size (.slice AV (zo p (zk p)).1.length kv) (zo p (zk p)).1/\OwnX ZW (fun k=>w.heap.size<=k) w' w.heap.size (.slice AE (zo p (zk p)).2.length ke) (zo p (zk p)).2/\Ao w.heap.size w w'
theorem built_any(p:Pb)(hf:xY p)(fH:zC p=0)(df:zK p<=60)(A:Bb)(kc:Nat)(SV:Bb)(ks:Nat)(w:Ba)(hA:CAt w w.heap.size A p.t.cases)(hS:SAt w w.heap.size SV p.a.sts) :
  Ap An 95 #[.agg (p.vs A kc SV ks)] w (RetBt p A kc SV ks w):=by
 obtain⟨cK,dO,ia,mX,sA⟩:=zJ fH;obtain⟨K,hK⟩:=Lr mX;obtain⟨lS,fU,na⟩:=yt cK;have DQ:K<=6:=by omega
 have lQ:zK p=zG p.a K 0*p.t.cases.length:=by unfold zK;rw[hK];rfl
 have nk:zG p.a K 0<=60:=by
  have:=Pm (zG p.a K 0) lS;omega
 obtain⟨hz,bI⟩:zl p.a p.a.sts=0/\1<=p.a.sts.length:=⟨(yq hf.1.2 dO).1,(yq hf.1.2 dO).2.1⟩;obtain⟨N,hN⟩:=Lr (show 0<=p.t.n by omega);have iI:=zH hf;have tQ:=zH dO;have rU:=zH ia;have Mt:=zH (Z8 cK);obtain⟨w1,ah,d0,d1,d2,bn,hBw⟩:=qe w (p.vs A kc SV ks) #[O U 0,O U 0,O U 0,I Z 0 0,O U 0,I Z 0 0,O U 0,O U 0,I Z 0 0,I Z 0 0] #[O U p.t.n,O U p.t.ins,O U p.t.outs,I A p.t.cases.length kc,O U p.a.n,I SV p.a.sts.length ks,O U p.k,O U p.t.n,I Z 0 0,I Z 0 0] 29 36 36;have BE:=Zk p.a SV ks hz hf.1.2 K DQ 0 w1 (by by_cases h:K=0;exact .inl h;exact .inr ⟨by omega,by omega⟩) (by rw[yr];omega) ((hS.keep hBw).more hBw.size);have pK:=zH BE;have HA:=zH hA;have HS:=zH hS;have bk:=zH hBw;have bu:=zH d0;have bQ:=zH d1;have iJ:=zH d2;have aq:=zH ah;have rY:=zH hK;have fy:=zH hN;have EQ:=zH lQ;have Uk:=zH df;have Ud:=zH lS;have Wr:1<=N/\N<=5:=by omega
 clear ah d0 d1 d2 hBw hA hS hf hK hN lQ df fH cK dO ia mX sA fU na hz bI BE lS;unfold Pb.vs at aq bu ⊢;go_enter func95,ntmps95;go_wp2_with fail;rw[aq.out];have BE:=pK.out;unfold qP at pK;rw[<-rY.out] at BE;refine BE.mono ?_;rintro e wr ⟨v,rfl,hW,hb⟩;have cD:=bk.out.size;obtain⟨zi,d'⟩:=Kh (zn p.a K 0);rw[d'] at hW;obtain⟨AW,cw,rfl,Ss⟩:=WdsAt.of (bs:=w.heap.size+1+1) hW (by omega) rfl;obtain⟨SC,tn⟩:∃SC:Au->Au->Array Au,SC=fun V E=>#[O U p.t.n,O U p.t.ins,O U p.t.outs,I A p.t.cases.length kc,O U p.a.n,I SV p.a.sts.length ks,O U p.k,O U p.t.n,V,E]:=⟨_,rfl⟩
 obtain⟨WR,rfl⟩:∃x,x=wr:=⟨_,rfl⟩;obtain⟨D,hD⟩:∃D,D=WR.heap.size:=⟨_,rfl⟩;have hDb:w.heap.size+3<=D:=by have:=hb.size;omega
 have H0:As (Bt D (w.heap.size+1+1) SC WR [] [] (I Z 0 0) (I Z 0 0) WR):=
  ⟨Wrote.refl _ _,by omega,by omega,by omega,by rw[tn];exact Lb hb (by omega) iJ.out,OwnV.nil _ _,OwnX.nil _ _ _ _,fun k e=>(by cases e)⟩
 have Et:As (WR.heap[w.heap.size]?=J (Ah #[O U p.t.n,O U p.t.ins,O U p.t.outs,I A p.t.cases.length kc,O U p.a.n,I SV p.a.sts.length ks,O U p.k] 29 (0,0))):=Lb hb (by omega) bu.out;have HP1:As (WR.heap[w.heap.size+1]?=J (Ah #[O U 0,O U 0,O U 0,I Z 0 0,O U 0,I Z 0 0,O U 0,O U 0,I Z 0 0,I Z 0 0] 36 (0,0))):=Lb hb (by omega) bQ.out;have GA:As (Ao w.heap.size w WR):=bk.out.trans (hb.mono (by omega));have F8:=zH Ss;rw[<-hD] at F8;have mw:=zH tn;have ik:=zH d';have B7:=zH hD;have lT:p.t.cases.length<=30:=iI.out.1.1.1;have ec:zi.length<=60:=by rw[<-d',yr];exact nk
 have ny:As (∀x∈zi,x.length<=6):=fun x hx=>by rw[<-d'] at hx;rw[yQ p.a K 0 x hx];exact DQ
 clear hW hb tn d' hD Ss bu bQ iJ aq bk pK BE cD bn;go_wp2_with fail
 go_loopw [5] (fun i wx=>∃(c:Nat) (V E:Au),c<=p.t.cases.length/\i=O U (c:Int)/\As (Bt D (w.heap.size+1+1) SC WR (zo p (pcs zi c)).1 (zo p (pcs zi c)).2 V E wx)) (fun i _=>p.t.cases.length-(Aq i).toNat)
 case atStart=>exact⟨0,_,_,by omega,rfl,H0.out⟩
 clear H0;obtain⟨c,V0,E0,hc,rfl,fh⟩:=hrel;have hbig:=fh.out.big;have cW:∀k,k<D->k≠w.heap.size+1+1->wr.heap[k]?=WR.heap[k]?:=fun k h1 h2=>fh.out.wr.block k (by have:=B7.out;omega) h2
 have P0:=(cW _ (by omega) (by omega)).trans Et.out;have p0:wr.cell? ⟨w.heap.size,0,Z⟩=J (O U p.t.n):=za P0 0 rfl;have p3:wr.cell? ⟨w.heap.size,3,Z⟩=J (I A p.t.cases.length kc):=za P0 3 rfl;have p6:wr.cell? ⟨w.heap.size,6,Z⟩=J (O U p.k):=za P0 6 rfl
 by_cases I':c<p.t.cases.length
 case neg=>
  obtain rfl:c=p.t.cases.length:=by omega
  have Di:p.t.cases.length*zi.length<=60:=by have h1:=EQ.out;have h2:=Uk.out;have h3:=congrArg List.length ik.out;rw[yr] at h3;rw[h3,Pd] at h1;omega
  obtain⟨AV,kv,rfl,_⟩:=fh.out.tb.form (by have:=wj p zi (by have:=fy.out;omega) ny.out p.t.cases.length Di;omega);obtain⟨AE,ke,rfl,_,_,_⟩:=fh.out.out.form zy;have aR:=(cW (w.heap.size+1) (by omega) (by omega)).trans HP1.out;have aK:=fh.out.sys;rw[mw.out] at aK;have s0:wr.cell? ⟨w.heap.size+1+1,0,Z⟩=J (O U p.t.n):=za aK 0 rfl;have s1:wr.cell? ⟨w.heap.size+1+1,1,Z⟩=J (O U p.t.ins):=za aK 1 rfl;have s2:wr.cell? ⟨w.heap.size+1+1,2,Z⟩=J (O U p.t.outs):=za aK 2 rfl;have s3:wr.cell? ⟨w.heap.size+1+1,3,Z⟩=J (I A p.t.cases.length kc):=za aK 3 rfl;have s4:wr.cell? ⟨w.heap.size+1+1,4,Z⟩=J (O U p.a.n):=za aK 4 rfl;have s5:wr.cell? ⟨w.heap.size+1+1,5,Z⟩=J (I SV p.a.sts.length ks):=za aK 5 rfl;have s6:wr.cell? ⟨w.heap.size+1+1,6,Z⟩=J (O U p.k):=za aK 6 rfl;have s7:wr.cell? ⟨w.heap.size+1+1,7,Z⟩=J (O U p.t.n):=za aK 7 rfl;have s8:wr.cell? ⟨w.heap.size+1+1,8,Z⟩=J (.slice AV (zo p (pcs zi p.t.cases.length)).1.length kv):=za aK 8 rfl;have s9:wr.cell? ⟨w.heap.size+1+1,9,Z⟩=J (.slice AE (zo p (pcs zi p.t.cases.length)).2.length ke):=za aK 9 rfl;have y0:wr.cell? ⟨w.heap.size+1,0,Z⟩=J (O U 0):=za aR 0 rfl;have f0:=zb aR 0;have y1:wr.cell? ⟨w.heap.size+1,1,Z⟩=J (O U 0):=za aR 1 rfl;have f1:=zb aR 1;have y2:wr.cell? ⟨w.heap.size+1,2,Z⟩=J (O U 0):=za aR 2 rfl;have f2:=zb aR 2
  have y3:wr.cell? ⟨w.heap.size+1,3,Z⟩=J (I Z 0 0):=za aR 3 rfl;have f3:=zb aR 3;have y4:wr.cell? ⟨w.heap.size+1,4,Z⟩=J (O U 0):=za aR 4 rfl;have f4:=zb aR 4;have y5:wr.cell? ⟨w.heap.size+1,5,Z⟩=J (I Z 0 0):=za aR 5 rfl;have f5:=zb aR 5;have y6:wr.cell? ⟨w.heap.size+1,6,Z⟩=J (O U 0):=za aR 6 rfl;have f6:=zb aR 6;have y7:wr.cell? ⟨w.heap.size+1,7,Z⟩=J (O U 0):=za aR 7 rfl;have f7:=zb aR 7;have y8:wr.cell? ⟨w.heap.size+1,8,Z⟩=J (I Z 0 0):=za aR 8 rfl;have f8:=zb aR 8;have y9:wr.cell? ⟨w.heap.size+1,9,Z⟩=J (I Z 0 0):=za aR 9 rfl;have f9:=zb aR 9;have pL:=zH fh.out;have aA:Ao w.heap.size w wr:=GA.out.trans (fh.out.wr.below (by have:=GA.out.size;omega) (fun k h1 h2=>by have h3:k=w.heap.size+1+1:=h2;omega));obtain⟨k1,k2,k3,k4,k5⟩:=xq (O U p.t.n) (O U p.t.ins) (O U p.t.outs) (I A p.t.cases.length kc) (O U p.a.n) (I SV p.a.sts.length ks) (O U p.k) (O U p.t.n) (.slice AV (zo p (pcs zi p.t.cases.length)).1.length kv) (.slice AE (zo p (pcs zi p.t.cases.length)).2.length ke) aR aA (by omega:w.heap.size<=w.heap.size+1)
  obtain⟨WF,cZ⟩:=Kh (((((((((((wr.setCell ⟨w.heap.size+1,0,Z⟩ (O U p.t.n)).setCell ⟨w.heap.size+1,1,Z⟩ (O U p.t.ins)).setCell ⟨w.heap.size+1,2,Z⟩ (O U p.t.outs)).setCell ⟨w.heap.size+1,3,Z⟩ (I A p.t.cases.length kc)).setCell ⟨w.heap.size+1,4,Z⟩ (O U p.a.n)).setCell ⟨w.heap.size+1,5,Z⟩ (I SV p.a.sts.length ks)).setCell ⟨w.heap.size+1,6,Z⟩ (O U p.k)).setCell ⟨w.heap.size+1,7,Z⟩ (O U p.t.n)).setCell ⟨w.heap.size+1,8,Z⟩ (.slice AV (zo p (pcs zi p.t.cases.length)).1.length kv)).setCell ⟨w.heap.size+1,9,Z⟩ (.slice AE (zo p (pcs zi p.t.cases.length)).2.length ke)));rw[cZ] at k1 k2 k3 k4 k5;have K1:=zH k1;have K2:=zH k2;have K4:=zH k4;have K5:=zH k5;have lf:=zH cZ;clear aR aK P0 aA k1 k2 k3 k4 k5 cZ;go_wp2_with fail;rw[lf.out];obtain⟨z0,z1,z2,z3,z4,z5,z6,z7,z8,z9⟩:=yg K1.out;refine Na (v:=Aj #[O U p.t.n,O U p.t.ins,O U p.t.outs,I A p.t.cases.length kc,O U p.a.n,I SV p.a.sts.length ks,O U p.k,O U p.t.n,.slice AV (zo p (pcs zi p.t.cases.length)).1.length kv,.slice AE (zo p (pcs zi p.t.cases.length)).2.length ke]) (by simp[results,results95,go_sem,z0,z1,z2,z3,z4,z5,z6,z7,z8,z9]) rfl ?_;have fH:zk p=pcs zi p.t.cases.length:=by rw[QV,<-ik.out,show p.k.toNat=K by have:=rY.out;omega]
  unfold RetBt;rw[fH];have cD:=pL.out.big;refine⟨AV,kv,AE,ke,rfl,?_,?_,K2.out⟩
  . exact(pL.out.tb.of_same fun k hk=>K4.out k (by have:=(pL.out.tb.lt' k hk).1;omega)).low (by omega)
  exact(OwnX.mono zy (pL.out.out.keep zy ⟨by have:=K5.out;omega,fun k hs _=>K4.out k (by omega)⟩ fun k hk=>K4.out k (by have:=(pL.out.out.lt k hk).1;omega)) fun k _ hs=>(by omega)).low (by omega)
 have hc1:(c:Int)<(p.t.cases.length:Int):=by omega
 have Gh:=zH cW;clear cW P0;go_wp2_with fail;obtain⟨wo,rfl⟩:∃x,x=wr:=⟨_,rfl⟩
 go_loopw [6] (fun i wx=>∃(j:Nat) (V E:Au),j<=zi.length/\i=O U (j:Int)/\As (Bt D (w.heap.size+1+1) SC WR (zo p (pcw zi c j)).1 (zo p (pcw zi c j)).2 V E wx)) (fun i _=>zi.length-(Aq i).toNat)
 case atStart=>exact⟨0,V0,E0,by omega,rfl,by rw[Yv];exact fh.out⟩
 obtain⟨j,V1,E1,hj,rfl,dC⟩:=hrel
 by_cases It:j<zi.length
 case neg=>
  obtain rfl:j=zi.length:=by omega
  have HBe:=zH (by have h:=dC.out;rw[pcw_end] at h;exact h);clear dC;go_wp2_with fail
  go_roundw
  case rel=>exact⟨c+1,V1,E1,by omega,by go_num,HBe.out⟩
  simp[Aq];omega
 obtain⟨gw,A2,c2,WW,eJ,ig,nW,fN,mf⟩:=F8.out j It;subst WW;have SL:KeepB (fun k=>k<D/\k≠w.heap.size+1+1) WR wr:=dC.out.wr.keep fun k _ hs=>hs.2
 have sn:wr.cell? ⟨gw,j,Z⟩=J (I A2 zi[j].length c2):=qc SL ⟨ig,by omega⟩ nW
 have fR:c*zi.length+j<60:=by
  have h1:=EQ.out;have h2:=Uk.out;have h3:=congrArg List.length ik.out;rw[yr] at h3;rw[h3,Pd] at h1;have h4:=NJ zi.length (show c+1<=p.t.cases.length by omega);rw[Nat.succ_mul] at h4;omega
 obtain⟨mP,nO⟩:=gU p zi (by have:=fy.out;omega) ny.out c j (by omega) (by omega);have CI:=xI p (pcw zi c j) (c,zi[j]);rw[<-pcw_succ zi c j It] at CI;obtain⟨word,fi⟩:=Kh (zi[j]);rw[fi] at sn fN CI nW mf;have iA:word∈zn p.a K 0:=by rw[ik.out,<-fi];exact Ld It
 have oJ:=yQ p.a K 0 word iA
 have lf:As (∀r∈word,zQ r=0/\r.n=(N:Int)):=fun r hr=>by
  obtain⟨m,hm,rfl⟩:=qS p.a K 0 word iA r hr;obtain⟨z1,z2,_⟩:=xv (yq iI.out.1.2 tQ.out).1 m hm;exact⟨z1,by rw[z2,<-rU.out,fy.out]⟩
 obtain⟨AE,ke,rfl,_,_,_⟩:=dC.out.out.form zy;obtain⟨dK,so⟩:=Kh ((zo p (pcw zi c j)).1);obtain⟨ln,sk⟩:=Kh ((zo p (pcw zi c j)).2);rw[so,sk] at CI dC;rw[so] at mP;rw[sk] at nO;have nf:zW p c=p.t.cases[c].inp:=by unfold zW;rw[Le,Lg I'];rfl
 have Ep:As (zo p (pcw zi c (j+1))=((stQ dK N p.t.cases[c].inp word (K+1)).1,ln++[⟨(c:Int),word,(stQ dK N p.t.cases[c].inp word (K+1)).2⟩])):=by
  rw[CI];show(_,_)=_;rw[nf,oJ,show p.t.n.toNat=N by have:=fy.out;omega]
  rfl
 obtain⟨bc,oc,A0,c0,A1',Z',A2',Lt,eA,Kk,tc,_,_,KJ,_,_⟩:=HA.out.row c I';subst eA;have sR:p.t.cases[c].inp.length=N:=by have h1:=Mt.out _ (Ld I');have:=fy.out;omega
 obtain⟨inp,rl⟩:=Kh (p.t.cases[c].inp);rw[rl] at tc KJ Ep sR;have M4:=zH KJ;have HGW:=zH nW;have HC0:=zH tc;have cf:=zH fN;have Ek:=zH mf;clear mf;have HIL:=zH sR;have lZ:As (ln.length<60):=by show ln.length<60;omega
 have nB:=zH mP;have Ej:=zH oJ;have pc:(j:Int)<(zi.length:Int):=by omega
 have VE:gw<wr.heap.size:=by have:=dC.out.big;omega
 clear sR rl CI nf KJ tc fN nW SL so sk fi iA nO mP oJ;go_wp2_with fail;clear sn;obtain⟨W1,cO,x1,bI,aB⟩:=zt wr #[O U c,I A2 word.length c2,I Z 0 0] 42;rw[cO];have MJ:As (Bq D (w.heap.size+1+1) wr.heap.size SC WR c (I A2 word.length c2) dK ln [] [] V1 (I AE ln.length ke) (I Z 0 0) (I Z 0 0) W1):=Bt.start dC.out aB x1;clear cO x1 bI aB dC;obtain⟨bx,aM⟩:∃bx,bx=wr.heap.size:=⟨_,rfl⟩;rw[<-aM] at MJ ⊢;clear aM
 go_loopw [8] (fun i wx=>∃(k:Nat) (V Y:Au),k<=K+1/\i=O U (k:Int)/\As (Bq D (w.heap.size+1+1) bx SC WR c (I A2 word.length c2) (stQ dK N inp word k).1 ln (stQ dK N inp word k).2 [] V (I AE ln.length ke) Y (I Z 0 0) wx)) (fun i _=>K+1-(Aq i).toNat)
 case atStart=>exact⟨0,V1,_,by omega,rfl,MJ.out⟩
 clear MJ;obtain⟨k,V2,Y2,hk,rfl,HQ⟩:=hrel;have hbig:=HQ.out.big;have P0:=(HQ.out.wr.block _ (by have:=B7.out;omega) (by omega)).trans Et.out;have p0:wr.cell? ⟨w.heap.size,0,Z⟩=J (O U p.t.n):=za P0 0 rfl;have p3:wr.cell? ⟨w.heap.size,3,Z⟩=J (I (J ⟨bc,oc,Z⟩) p.t.cases.length kc):=za P0 3 rfl;have p6:wr.cell? ⟨w.heap.size,6,Z⟩=J (O U p.k):=za P0 6 rfl;clear P0
 by_cases Py:k<=K
 case neg=>
  have HKQ:As (k=K+1):=by show k=K+1;omega
  have du:¬((k:Int)<=p.k):=by have:=rY.out;omega
  obtain⟨AY,ky,rfl,_,_,_⟩:=HQ.out.vw.form yx;have aK:=HQ.out.sys;rw[mw.out] at aK;have Mw:=zH aK;have s9:wr.cell? ⟨w.heap.size+1+1,9,Z⟩=J (I AE ln.length ke):=za aK 9 rfl;have f9:=zb aK 9;have x0:wr.cell? ⟨bx,0,Z⟩=J (O U c):=za HQ.out.x 0 rfl;have x1:wr.cell? ⟨bx,1,Z⟩=J (I A2 word.length c2):=za HQ.out.x 1 rfl;have x2:wr.cell? ⟨bx,2,Z⟩=J (.slice AY (stQ dK N inp word k).2.length ky):=za HQ.out.x 2 rfl;have oy:=zH (zh wr (Ah #[O U c,I A2 word.length c2,.slice AY (stQ dK N inp word k).2.length ky] 42));have pF:=zH (HQ.out.out.below zy (zw wr (Ah #[O U c,I A2 word.length c2,.slice AY (stQ dK N inp word k).2.length ky] 42)) (Lh _));have Dp:=HQ.out.bsl;have V7:w.heap.size+1+1<wr.heap.size:=by omega
  have Do:=HQ.out.bxl;clear aK;go_wp2_with (at_builtin;obtain⟨aD,bh,fu,bq⟩:=pF.out;refine yo kXn_ok rfl (.tmp 110) (.tmp 112) rfl D (I AE ln.length ke) ln.length aD.flatten rfl fu wr.heap.size #[O U c,I A2 word.length c2,.slice AY (stQ dK N inp word k).2.length ky] rfl oy.out rfl (by simp[Value.oneCell']) (Lx (Nat.le_of_lt lZ.out) (by decide)) (by simp;omega) _ rfl ?_;intro g' cap w7 dY dj ch eh;have b7:=(dj.block _ (by simp;omega) (fun e=>pF.out.ne Dp e.symm)).trans (zB Mw.out _);have c7:=za b7 9 rfl;have KW:=zb b7 9;have HDN:=zH (Bq.done HQ.out (zw wr _) bh bq rfl rfl cf.out Ek.out dY dj ch (by rw[mw.out];rfl));clear dY dj ch bh bq fu b7)
  go_roundw
  case rel=>exact⟨j+1,V2,_,by omega,by go_num,by rw[Ep.out,<-HKQ.out];exact HDN.out⟩
  simp[Aq];omega
 have du:(k:Int)<=p.k:=by have:=rY.out;omega
 have O':k<=6:=by omega
 obtain⟨vk,Fi⟩:=Kh ((stQ dK N inp word k).1);obtain⟨yk,cV⟩:=Kh ((stQ dK N inp word k).2);obtain⟨f,hf⟩:=Kh (fQ inp word yk k);have cz:=stQ_len dK N inp word k;have cm:=QH dK N inp word k;have Cq:=stQ_row dK N inp word k;have AM:=stQ_succ dK N inp word k;rw[Fi,cV] at HQ;rw[cV] at cz Cq;rw[Fi] at cm;rw[Fi,cV,hf] at AM;have TD:=zH AM;have HYR:=zH Cq;have rK:=zH cz
 have dy:As (vk.length<=2100+30):=by
  have h1:=NY O' Wr.2;have h2:=nB.out;show vk.length<=2130;omega
 have M9:=zH hf;clear Fi cV hf cz cm Cq AM;obtain⟨AY,ky,rfl,_,_,_⟩:=HQ.out.vw.form yx;go_wp2_with fail;clear p0 p3 p6
 go_loopw [9,10] (fun l i wx=>∃(q:Nat) (V:Au),q<=N/\i=O U (q:Int)/\As (Bq D (w.heap.size+1+1) bx SC WR c (I A2 word.length c2) (zP f vk q).1 ln yk (zP f vk q).2 V (I AE ln.length ke) (I AY yk.length ky) l wx)) (fun _ i _=>N-(Aq i).toNat)
 case atStart=>exact⟨0,V2,by omega,rfl,HQ.out⟩
 clear HQ;obtain⟨q,V3,hq,rfl,HQ⟩:=hrel;have hbig:=HQ.out.big;have P0:=(HQ.out.wr.block _ (by have:=B7.out;omega) (by omega)).trans Et.out;have p0:wr.cell? ⟨w.heap.size,0,Z⟩=J (O U p.t.n):=za P0 0 rfl;have p3:wr.cell? ⟨w.heap.size,3,Z⟩=J (I (J ⟨bc,oc,Z⟩) p.t.cases.length kc):=za P0 3 rfl;clear P0;obtain⟨AL,kl,eL,Vs,Vr,_⟩:=HQ.out.row.form;subst eL
 by_cases AU:q<N
 case neg=>
  have HQQ:As (q=N):=by show q=N;omega
  have CO:¬((q:Int)<p.t.n):=by have:=fy.out;omega
  have x2:wr.cell? ⟨bx,2,Z⟩=J (I AY yk.length ky):=za HQ.out.x 2 rfl;have oy:=zH (zh wr (Ah #[.slice AL (zP f vk q).2.length kl] 49));have pF:=zH (HQ.out.vw.below yx (zw wr (Ah #[.slice AL (zP f vk q).2.length kl] 49)) (Lh _));have Do:=HQ.out.bxl;have VW:=HQ.out.hx;go_wp2_with (at_builtin;obtain⟨aD,bh,fu,bq⟩:=pF.out;refine yo X8 rfl (.tmp 104) (.tmp 106) rfl D (I AY yk.length ky) yk.length aD.flatten rfl fu wr.heap.size #[.slice AL (zP f vk q).2.length kl] rfl oy.out rfl (by simp[Value.oneCell']) (by rw[rK.out];omega) (by simp;omega) _ rfl ?_;intro g' cap w7 dY dj ch eh;have b7:=(dj.block bx (by simp;omega) (fun e=>(HQ.out.nY bx e.symm).1 rfl)).trans (zB HQ.out.x _);have c7:=za b7 2 rfl;have KW:=zb b7 2;have Ay:=zH (Bq.close HQ.out (zw wr _) bh bq dY dj ch);clear dY dj ch bh bq fu b7)
  go_roundw
  case rel=>exact⟨k+1,V3,_,by omega,by go_num,by rw[TD.out,<-HQQ.out];exact Ay.out⟩
  simp[Aq];omega
 have CO:(q:Int)<p.t.n:=by have:=fy.out;omega
 have iY:Ao w.heap.size w wr:=GA.out.trans (HQ.out.wr.below (by have:=GA.out.size;omega) (fun k h1 h2=>by have h3:k=w.heap.size+1+1:=h2;omega));have nW:=(iY.cell (p:=⟨bc,oc+c*3,Z⟩) Kk).trans HC0.out;have O4:q<inp.length:=by have:=HIL.out;omega
 obtain⟨bi,oi,eI,Kj,ta⟩:=M4.out.at_ q O4;subst eI;have Rb:=(iY.cell (p:=⟨bi,oi+q,Z⟩) Kj).trans ta;obtain⟨iv,Bm⟩:=Kh (inp[q]);rw[Bm] at Rb;have HIV:As (inp.getD q 0=iv):=by show _=_;rw[Le,Lg O4,<-Bm];rfl
 have lL:(0:Int)<=(q:Int):=by omega
 have rc:(q:Int)<(inp.length:Int):=by omega
 have hcp:(0:Int)<=(c:Int):=by omega
 have mD:=zH (J7 q iv wr);have HPO:=zH (QH dK N inp word k);have Do:=HQ.out.bxl;clear iY ta Bm;go_wp2_with fail;refine mD.out.mono ?_;rintro e w5 ⟨rfl,cd⟩;obtain⟨W6,mp,b6,sx,lc⟩:=zt w5 (yw q iv).cells 100;have dp:Ao wr.heap.size wr W6:=Lc cd lc;have lA:=cd.size;have ny:=zH mp;have dW:=zH dp;have iw:=zH b6;unfold Vw.cells at ny;unfold Vw.cells;clear mD cd mp b6 lc dp nW Rb p0 p3;go_simp;rename_i eq;refine eq _ _ ?_;clear eq;refine LJ rfl fun K5 aV=>?_
 go_simp;refine aV _ _ ?_;clear aV K5;refine LJ rfl fun K5 aV=>?_
 go_simp;rw[ny.out];refine aV _ _ ?_;clear aV K5 ny;rcases L9 k with cq | Fz
 case' inl=>
  have Fy:¬((0:Int)<(k:Int)):=by omega
  have r9:As (f q=yw q iv):=by
   show f q=_;rw[<-M9.out,cq];show yw q (inp.getD q 0)=_;rw[HIV.out]
  rw[<-r9.out] at iw;have iw:As (W6.heap[w5.heap.size]?=J (Ah (f q).cells 100 (0,0))):=iw;obtain⟨W9,fM⟩:=Kh W6;rw[fM] at dW iw ⊢;clear fM r9 cq
 case' inr=>
  obtain⟨k',cY⟩:∃k',k=k'+1:=⟨k-1,by omega⟩;have Fy:(0:Int)<(k:Int):=by omega
  have C2:IntKind.i64.wrap ((k:Int)-1)=(k':Int):=by rw[Lw];omega
  have sQ:k'<word.length:=by have:=Ej.out;omega
  have sP:k'<yk.length:=by have:=rK.out;omega
  have r9:As (f q=yI word[k'] k q yk[k']):=by
   show f q=_;rw[<-M9.out,cY];show yI (word.getD k' default) (k'+1) q (yk.getD k' [])=_;rw[Le,Lg sQ,Le,Lg sP]
   rfl
  have Q6:=HQ.out.on dW.out;have SH:RAtS (fun k=>w.heap.size+1+1<k/\k<D) W6 A2 word:=cf.out.keep (Q6.wr.keep fun k _ hs e=>by have h3:k=w.heap.size+1+1:=e;omega);have UO:W6.cell? ⟨gw,j,Z⟩=J (I A2 word.length c2):=qc (S:=fun k=>w.heap.size+1+1<k/\k<D) (Q6.wr.keep fun k _ hs e=>by have h3:k=w.heap.size+1+1:=e;omega) ⟨eJ,ig⟩ HGW.out;obtain⟨br,Uy,WX,ii,r0,r1,r2,r3,r4,r5,r6⟩:=SH.rat.row k' sQ;subst WX;obtain⟨AYx,kyx,eY,_,_,Sp⟩:=Q6.vw.form yx
  cases eY
  obtain⟨gy,WV,_,lC,Fd⟩:=Sp (by omega);subst WV;obtain⟨cs,⟨A3,c3,rfl,fW⟩,aP⟩:=Fd k' sP;have OK:W6.cell? ⟨gy,k',Z⟩=J (I A3 yk[k'].length c3):=by simpa[cIs,kIs] using aP 0 _ rfl
  have x6:W6.cell? ⟨bx,2,Z⟩=J (I (J ⟨gy,0,Z⟩) yk.length ky):=za Q6.x 2 rfl;have fb:=HYR.out k' sP;obtain⟨row,be⟩:=Kh (yk[k']);obtain⟨rd,oS⟩:=Kh (word[k']);have AP:=lf.out word[k'] (Ld sQ);rw[be] at OK fW fb r9;rw[oS] at r0 r1 r2 r3 r4 r5 r6 AP r9;have RD:=un (qT AP.1).2.2.1 q (by omega);have rN:=zH (fun (X:Ba) (hX:Ao W6.heap.size W6 X)=>seen_any rd k q (by omega) RD A3 c3 row (by rw[AP.2,fb]) (by omega) X ((fW.iat.keep hX).more hX.size));have VA:(0:Int)<=(k':Int):=by omega
  have Vz:(k':Int)<(word.length:Int):=by omega
  have Vy:(k':Int)<(yk.length:Int):=by omega
  have hjp:(0:Int)<=(j:Int):=by omega
  have HKS:=zH cY;have KU:w5.heap.size<W6.heap.size:=zd iw.out;clear Fz cY Q6 SH Sp Fd aP fW be oS AP RD fb;go_wp2_with fail
  go_still_tail 17,(by kernel_rfl)
  change wpList _ _ _ _ _ W6.drew;obtain⟨W7,iC⟩:∃W7,W7=W6.drew:=⟨_,rfl⟩;have lm:As (Ao W6.heap.size W6 W7):=by rw[iC];exact(Lp _ _).drew
  rw[<-iC];clear iC r0 r1 r2 r3 r4 r5 r6 UO OK x6;go_wp2_with fail;refine(rN.out W7 lm.out).mono ?_;rintro e w8 ⟨rfl,fw⟩;obtain⟨vv,OQ⟩:=Kh (yI rd k q row);rw[OQ] at r9 ⊢;have tj:Ao W6.heap.size W6 w8:=Lc lm.out fw;have b8:=Lb tj KU iw.out;unfold Vw.cells at b8;obtain⟨k1,k2⟩:=Jo vv b8 (Lc dW.out tj) (by omega:wr.heap.size<=w5.heap.size);obtain⟨W9,fM⟩:=Kh (((((((((w8.setCell ⟨w5.heap.size,0,Z⟩ (O U vv.p)).setCell ⟨w5.heap.size,1,Z⟩ (O U vv.r)).setCell ⟨w5.heap.size,2,Z⟩ (O U vv.i)).setCell ⟨w5.heap.size,3,Z⟩ (O U vv.h0)).setCell ⟨w5.heap.size,4,Z⟩ (O U vv.h1)).setCell ⟨w5.heap.size,5,Z⟩ (O U vv.h2)).setCell ⟨w5.heap.size,6,Z⟩ (O U vv.h3)).setCell ⟨w5.heap.size,7,Z⟩ (O U vv.h4)));rw[fM] at k1 k2;have F9:=zH fM;have y0:w8.cell? ⟨w5.heap.size,0,Z⟩=J (O U (yw q iv).p):=za b8 0 rfl;have WT:=zb b8 0;have y1:w8.cell? ⟨w5.heap.size,1,Z⟩=J (O U (yw q iv).r):=za b8 1 rfl;have WS:=zb b8 1;have y2:w8.cell? ⟨w5.heap.size,2,Z⟩=J (O U (yw q iv).i):=za b8 2 rfl;have WQ:=zb b8 2;have y3:w8.cell? ⟨w5.heap.size,3,Z⟩=J (O U (yw q iv).h0):=za b8 3 rfl;have WP:=zb b8 3;have y4:w8.cell? ⟨w5.heap.size,4,Z⟩=J (O U (yw q iv).h1):=za b8 4 rfl;have WO:=zb b8 4;have y5:w8.cell? ⟨w5.heap.size,5,Z⟩=J (O U (yw q iv).h2):=za b8 5 rfl;have WN:=zb b8 5
  have y6:w8.cell? ⟨w5.heap.size,6,Z⟩=J (O U (yw q iv).h3):=za b8 6 rfl;have WM:=zb b8 6;have y7:w8.cell? ⟨w5.heap.size,7,Z⟩=J (O U (yw q iv).h4):=za b8 7 rfl;have KW:=zb b8 7;have iw:As (W9.heap[w5.heap.size]?=J (Ah (f q).cells 100 (0,0))):=by rw[r9.out];exact k1
  have dW:As (Ao wr.heap.size wr W9):=k2;clear tj b8 k1 k2 fM OQ fw rN lm r9;unfold Vw.cells;go_simp;rename_i eq;refine eq _ _ ?_;refine LJ rfl fun K5 aV=>?_
  go_simp;rw[F9.out];refine aV _ _ ?_;clear F9 HKS Fy C2 y0 y1 y2 y3 y4 y5 y6 y7 WT WS WQ WP WO WN WM KW
 all_goals
  have Q9:=HQ.out.on dW.out;have AP:=qF f vk q;have CK:=xe f vk q;obtain⟨AV,kv,eV,hT⟩:=Q9.tb.form (by have:=dy.out;omega);subst eV;have MM:=zH (put_any p.t.n AV kv (zP f vk q).1 (f q) W9 hT (by have:=dy.out;omega));have aK:=Q9.sys;rw[mw.out] at aK;have s7:W9.cell? ⟨w.heap.size+1+1,7,Z⟩=J (O U p.t.n):=za aK 7 rfl;have s8:W9.cell? ⟨w.heap.size+1+1,8,Z⟩=J (.slice AV (zP f vk q).1.length kv):=za aK 8 rfl;have Eq:=zH Q9;have ME:=zH CK;obtain⟨v,hv⟩:=Kh (f q);have T7:=zH hv;rw[hv] at MM iw;have x0:W9.cell? ⟨w5.heap.size,0,Z⟩=J (O U v.p):=za iw.out 0 rfl;have x1:W9.cell? ⟨w5.heap.size,1,Z⟩=J (O U v.r):=za iw.out 1 rfl;have x2:W9.cell? ⟨w5.heap.size,2,Z⟩=J (O U v.i):=za iw.out 2 rfl;have x3:W9.cell? ⟨w5.heap.size,3,Z⟩=J (O U v.h0):=za iw.out 3 rfl;have x4:W9.cell? ⟨w5.heap.size,4,Z⟩=J (O U v.h1):=za iw.out 4 rfl;have x5:W9.cell? ⟨w5.heap.size,5,Z⟩=J (O U v.h2):=za iw.out 5 rfl;have x6:W9.cell? ⟨w5.heap.size,6,Z⟩=J (O U v.h3):=za iw.out 6 rfl;have x7:W9.cell? ⟨w5.heap.size,7,Z⟩=J (O U v.h4):=za iw.out 7 rfl;clear hv AP CK hT aK Q9;go_wp2_with fail
  all_goals first | (exfalso;omega) | skip
  refine MM.out.mono ?_;rintro e pS CP;obtain⟨A3,k3,rfl,KE,DH,nn⟩:=put_out CP Eq.out.tb Eq.out.big;have GG:=Lc dW.out nn;have aK:=(HQ.out.on GG).sys;rw[mw.out] at aK;have s7:pS.cell? ⟨w.heap.size+1+1,7,Z⟩=J (O U p.t.n):=za aK 7 rfl;have s8:pS.cell? ⟨w.heap.size+1+1,8,Z⟩=J (.slice AV (zP f vk q).1.length kv):=za aK 8 rfl;have f7:=zb aK 7;have f8:=zb aK 8;have MB:=zH aK;obtain⟨sd,oM⟩:=Kh ((xu (zP f vk q).1 v).1);obtain⟨iz,Iv⟩:=Kh ((xu (zP f vk q).1 v).2);rw[oM] at KE DH;have Gb:=zH oM;have TY:=zH Iv;have pG:=zH KE;have Gc:=zH DH;have NC:=zH GG;have Hs:=GG.size;have Dp:=HQ.out.bsl;rw[oM,Iv];clear CP KE DH nn GG aK oM Iv MM x0 x1 x2 x3 x4 x5 x6 x7 iw;obtain⟨rI,DG,LF,Hr,tz⟩:=zt pS #[O U p.t.n,I A3 sd.length k3] 33;have El:=zH DG;have EX:As (Ao wr.heap.size wr rI):=NC.out.trans (tz.mono Hs);have t0:rI.cell? ⟨pS.heap.size,0,Z⟩=J (O U p.t.n):=za LF 0 rfl;have t1:rI.cell? ⟨pS.heap.size,1,Z⟩=J (I A3 sd.length k3):=za LF 1 rfl;have aK:=(HQ.out.on EX.out).sys;rw[mw.out] at aK;have e7:rI.cell? ⟨w.heap.size+1+1,7,Z⟩=J (O U p.t.n):=za aK 7 rfl;have e8:rI.cell? ⟨w.heap.size+1+1,8,Z⟩=J (.slice AV (zP f vk q).1.length kv):=za aK 8 rfl;have fe7:=zb aK 7;have fe8:=zb aK 8;have Si:w.heap.size+1+1<rI.heap.size:=by omega
  have rT:=zH (Bq.put HQ.out EX.out (u:=O U p.t.n) (pG.out.of_same fun k hk=>tz.block k (pG.out.lt' k hk).2) (fun k hk=>by
   rcases Gc.out k hk with e | e
   . exact .inl e
   . exact .inr (by have:=dW.out.size;omega)) (by rw[mw.out];rfl) (by rw[mw.out];rfl))
  obtain⟨Ea,pq⟩:=Kh ((rI.setCell ⟨w.heap.size+1+1,7,Z⟩ (O U p.t.n)).setCell ⟨w.heap.size+1+1,8,Z⟩ (I A3 sd.length k3));rw[pq] at rT;have Mh:=zH pq;have CB:Ea.heap.size=rI.heap.size:=by rw[<-pq];simp
  have ou:As ((Ea.alloc (Ah #[O U iz] 3)).heap[pS.heap.size+1]?=J (Ah #[O U iz] 3 (0,0))):=by show _=_;rw[<-Hr,<-CB];exact zh Ea _
  have tO:=zH (rT.out.row.alloc (Ah #[O U iz] 3));have HDY:=zH rT.out.big
  have rP:As (zP f vk (q+1)=(sd,(zP f vk q).2++[iz])):=by
   show(_,_)=_;rw[T7.out,Gb.out,TY.out]
  clear DG LF tz aK pq s7 s8 f7 f8 MB pG Gc Gb TY T7 Eq;go_simp;rename_i eq;refine eq _ _ ?_;clear eq;refine LJ rfl fun K5 aV=>?_
  go_simp;refine aV _ _ ?_;clear aV K5;refine LJ rfl fun K5 aV=>?_
  go_simp;refine aV _ _ ?_;clear aV K5;refine LJ rfl fun K5 aV=>?_
  go_simp;refine aV _ _ ?_;clear aV K5;refine LJ rfl fun K5 aV=>?_
  go_simp;refine aV _ _ ?_;clear aV K5;refine LJ rfl fun K5 aV=>?_
  go_simp;rw[El.out];refine aV _ _ ?_;clear aV K5 El;have MD:As ((zP f vk q).2.length<=1000000000):=by show _<=_;rw[ME.out];omega
  have oC:As (D<=(Ea.alloc (Ah #[O U iz] 3)).heap.size):=by show _<=_;have:=HDY.out;simp;omega
  go_wp2_with (at_builtin;go_loud (rw[Mh.out];refine yo wQ rfl (.tmp 99) (.tmp 101) rfl D (.slice AL (zP f vk q).2.length kl) (zP f vk q).2.length ((zP f vk q).2.map (O U)) rfl tO.out (pS.heap.size+1) #[O U iz] rfl ou.out rfl (by simp[Value.oneCell']) MD.out oC.out _ rfl ?_;intro g' cap AF dY dj ch eh;have HPS:=zH (Bq.push rT.out (zw Ea _) dY dj ch);clear dY dj ch))
  go_roundw
  case rel=>exact⟨q+1,_,by omega,by go_num,by rw[rP.out];exact HPS.out⟩
  case measure=>simp[Aq];omega
end
end Go.Proofs.YtkledihebeidlaaGreatDoor
