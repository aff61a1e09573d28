/- Merged. -/
import Derived.Test.YtkmbdfdaffmhjaaGreatTi
open Go.Proofs.Tryz
open Go.Value renaming int->O,slice->I,bool->Ah
open Go.IntKind renaming i64->U
open Option renaming none->Z,some->J
open Go.Obj renaming cells->Ag
open Go.Ending renaming returned->Ak
open Go.Proofs.Tryz renaming prog->Al
open Go.RowKit renaming Below->Am,intOf->Ap,Hid->Aq
open Go renaming Calls->An
open Bool renaming true->Au,false->Aw
namespace Go.Proofs.YtkmbdfdaffmhjaaGreat
set_option maxRecDepth 100000
set_option maxHeartbeats 20000000
open Go.RowKit Go.Shelf
attribute [local go_sem] Oper.semAt_some
theorem QY(p:Pb)(hl:Zq p)(A SV AF AG:Bb)(kc ks cf cg df dg:Nat)(f g:Fm)(w:Ba)(hA:CAt w w.heap.size A p.t.cases)(hS:SAt w w.heap.size SV p.a.sts)(hF:FsAt w w.heap.size df AF f.args)(hG:FsAt w w.heap.size dg AG g.args) :
  An Al 3 #[.agg (p.vs A kc SV ks),.agg (f.vs AF cf),.agg (g.vs AG cg)] w fun e w'=>e=Ak (Ah Au)/\Am w.heap.size w w':=by
 obtain⟨wa,ec,da,ie,mc⟩:=zm w (p.vs A kc SV ks) 29;obtain⟨wb,fj,db,fM,iH⟩:=zm wa (f.vs AF cf) 32;obtain⟨w3,cO,dc,oA,fz⟩:=zm wb (g.vs AG cg) 32;have hB:Am w.heap.size w w3:=(mc.trans (iH.mono (by omega))).trans (fz.mono (by omega));have da:=Lb fz (by omega) (Lb iH (by omega) da);rw[ie] at db fM;have db:=Lb fz (by omega) db;rw[fM] at dc oA;have nX:Aq (∀X,Am w3.heap.size w3 X->CAt X X.heap.size A p.t.cases/\SAt X X.heap.size SV p.a.sts):=fun X hX=>⟨(((hA.keep hB).more hB.size).keep hX).more hX.size,(((hS.keep hB).more hB.size).keep hX).more hX.size⟩
 have Dg:Aq (∀X,Am w3.heap.size w3 X->FsAt X X.heap.size df AF f.args):=fun X hX=>(((hF.keep hB).more hB.size).keep hX).more hX.size
 have IY:Aq (∀X,Am w3.heap.size w3 X->FsAt X X.heap.size dg AG g.args):=fun X hX=>(((hG.keep hB).more hB.size).keep hX).more hX.size
 have cd:Aq (∀X,Am w3.heap.size w3 X->FmA X f (.agg (f.vs AF cf))):=fun X hX=>FmA.of (Dg.out X hX)
 have sL:Aq (∀X,Am w3.heap.size w3 X->FmA X g (.agg (g.vs AG cg))):=fun X hX=>FmA.of (IY.out X hX)
 have aY:Aq (∀X,Am w3.heap.size w3 X->X.heap[w.heap.size]?=J (Ag (p.vs A kc SV ks) 29 (0,0))/\X.heap[w.heap.size+1]?=J (Ag (f.vs AF cf) 32 (0,0))/\X.heap[w.heap.size+1+1]?=J (Ag (g.vs AG cg) 32 (0,0))):=fun X hX=>⟨Lb hX (by omega) da,Lb hX (by omega) db,Lb hX (by omega) dc⟩
 have fm:=zH (fun (X:Ba) (AL:Bb) (D:Nat) (hX:Am w3.heap.size w3 X) (hL:FsAt X X.heap.size (D+1) AL [f,g])=>kI p hl A SV AL kc ks 2 D [f,g] (by simp) X (nX.out X hX).1 (nX.out X hX).2 hL);have IU:=zH hl;have HZ:=zH oA;unfold Pb.vs at ec aY fm ⊢;unfold Fm.vs at fj cO cd sL aY ⊢;have o8:=zH ec;have o7:=zH fj;have o5:=zH cO;have HB:=zH hB;clear ec fj cO da db dc ie fM mc iH fz hB hA hS hF hG hl;go_enter func3,ntmps3;go_upto_region 1 with fail
 rw[o8.out,o7.out,o5.out];go_wp2_with fail;refine(jN w3).mono ?_;rintro e w4 ⟨rfl,aP⟩;have G4:=zH aP;obtain⟨D0,D1,D2⟩:=aY.out _ G4.out;obtain⟨p0,p1,p2,p3,p4,p5,p6,_⟩:=Kg (D0);obtain⟨q0,q1,q2,q3,q4,q5,_⟩:=Ki (D1);obtain⟨r0,r1,r2,r3,r4,r5,_⟩:=Ki (D2);obtain⟨w5,eU,d5,cZ,aj⟩:=zm w4 #[O U f.h.op,O U f.h.p,O U f.h.o,O U f.h.v,O U f.h.g,I AF f.args.length cf,O U g.h.op,O U g.h.p,O U g.h.o,O U g.h.v,O U g.h.g,I AG g.args.length cg] 32;have G5:=zH (Lc G4.out aj);obtain⟨D,hD⟩:=Yw (S:=fun _=>True) d5 trivial ((FsS.of (Dg.out _ G5.out) (Ld _)).keep (Ld _) fun _ _ _=>⟨trivial,rfl⟩) ((FsS.of (IY.out _ G5.out) (Ld _)).keep (Ld _) fun _ _ _=>⟨trivial,rfl⟩);have HC:=zH (fm.out w5 (J ⟨w4.heap.size,0,Z⟩) D G5.out hD.at_.deep);have lC:=zH eU;clear eU d5 cZ aj hD D0 D1 D2 aP fm nX Dg IY;unfold RetTry at HC;go_wp2_with fail;rw[lC.out];refine HC.out.mono ?_;rintro e w6 ⟨T,AC,dw,AV,AX,dn,dm,kv,kx,b,rfl,dj,dp⟩;have G6:=zH (Lc G5.out dj);have nn:=zH dp;clear dj dp HC p0 p1 p2 p3 p4 p5 p6 q0 q1 q2 q3 q4 q5 r0 r1 r2 r3 r4 r5;obtain⟨w7,lW,d7,fq,dk⟩:=zm w6 (T.vs_ AC dn dw dm AV kv AX kx) 39;have G7:=zH (Lc G6.out dk)
 cases b with
 | false=>
  have cF:=zH (Lc HB.out G7.out);unfold Sy.vs_ at lW ⊢;have o9:=zH lW;clear lW d7 fq dk nn aY cd sL;go_upto_region 4 with fail
  rw[o9.out];go_wp2_with fail;go_ret;exact⟨rfl,cF.out⟩
 | true=>
 obtain⟨hr,Ed,re,rO⟩:=nn.out rfl;obtain⟨K,N,lM,y',Gu,lJ⟩:=XK IU.out hr;rw[<-Ed] at lM y';have iq:=(rO f (by simp)).vf (s:=T) lJ;have Dy:=(rO g (by simp)).vf (s:=T) lJ;obtain⟨AA,El⟩:=Kk (xn T [] D f);obtain⟨AB,M6⟩:=Kk (xn T [] D g);rw[El] at iq;rw[M6] at Dy;have dG:=lM.fine.n1;have lp:=lM.fine.n5;have z':=lM.fine.n;obtain⟨GG,WJ⟩:∃GG:Nat,2^N-1=GG:=⟨_,rfl⟩
 have WI:(GG:Int)=(2:Int)^N-1:=by
  have:1<=2^N:=Nat.one_le_two_pow;rw[<-WJ];push_cast [this];rfl
 have S9:(2:Int)<=(2:Int)^N/\(2:Int)^N<=32:=by
  obtain rfl | rfl | rfl | rfl | rfl:N=1\/N=2\/N=3\/N=4\/N=5:=by omega
  all_goals decide
 have eH:∀q,q<N->GG.testBit q=Au:=fun q hq=>by rw[<-WJ,Nat.testBit_two_pow_sub_one,Lw hq]
 have Ts:Aq (∀q:Nat,q<N->∀x∈[fIf (f1 10 q 0 f) f,fIf (f1 10 q 0 f) (f1 10 q 0 (f1 10 q 0 f)),fIf (yc (f1 10 q 0 f)) (f1 10 q 0 (yc (f1 10 q 0 f))),fIf (yx (f1 10 q 0 f) (f1 10 q 0 (fIf f g))) (f1 10 q 0 g),fIf (f1 10 q 0 f) (f1 12 0 GG f)],Vald T [] N x):=fun q hq x hx=>by
  simp only[List.mem_cons,List.not_mem_nil,or_false] at hx;rcases hx with rfl | rfl | rfl | rfl | rfl
  . exact top_know1 iq hq
  . exact top_know2 iq hq
  . exact top_know3 iq hq
  . exact top_know4 iq Dy hq
  . exact top_know5 lM.fine iq hq (by omega) (eH q hq)
 have Oo:Aq (∀x∈[fIf (f1 12 0 GG f) f,fIf (yc (f1 12 0 GG f)) (f1 12 0 GG (yc (f1 12 0 GG f))),fIf (yx (f1 12 0 GG f) (f1 12 0 GG (fIf f g))) (f1 12 0 GG g)],Vald T [] N x):=fun x hx=>by
  simp only[List.mem_cons,List.not_mem_nil,or_false] at hx;rcases hx with rfl | rfl | rfl
  . exact top_dist1 iq (by omega)
  . exact top_dist3 iq (by omega)
  . exact top_dist4 iq Dy (by omega)
 obtain⟨v0,Cm,d8,nc,du⟩:=zm w7 #[O U ((2:Int)^N-1)] 3;rw[<-WI] at d8;have M8:Am w6.heap.size w6 v0:=dk.trans (du.mono (by omega));have GV:Aq (Am w3.heap.size w3 v0):=Lc G7.out du;have NO:=d7;have d7:=Lb du (by omega) d7;have cd:=zH (fun (X:Ba) (hX:Am v0.heap.size v0 X)=>cd.out X (Lc GV.out hX));have sL:=zH (fun (X:Ba) (hX:Am v0.heap.size v0 X)=>sL.out X (Lc GV.out hX));have pD:=zH (fun (X:Ba) (hX:Am v0.heap.size v0 X)=>(re.up M8).up hX)
 have nt:Aq (∀X,Am v0.heap.size v0 X->X.heap[w6.heap.size]?=J (Ag (T.vs_ AC dn dw dm AV kv AX kx) 39 (0,0))/\X.heap[w7.heap.size]?=J (Ag #[O U (GG:Int)] 3 (0,0))/\X.heap[w.heap.size+1]?=J (Ag #[O U f.h.op,O U f.h.p,O U f.h.o,O U f.h.v,O U f.h.g,I AF f.args.length cf] 32 (0,0))/\X.heap[w.heap.size+1+1]?=J (Ag #[O U g.h.op,O U g.h.p,O U g.h.o,O U g.h.v,O U g.h.g,I AG g.args.length cg] 32 (0,0))):=fun X hX=>by
  obtain⟨_,e1,e2⟩:=aY.out X (Lc GV.out hX);exact⟨Lb hX (by omega) d7,Lb hX (by omega) d8,e1,e2⟩
 have oH:=zH (fun (l:List Fm) (aN:l.length<=1000) (hv:∀x∈l,Vald T [] N x) (X:Ba) (hX:Am v0.heap.size v0 X) (AL:Bb) (cl d:Nat) (hL:FsAt X X.heap.size (d+1) AL l)=>qO T K N lM AC dw AV AX AL dn dm kv kx cl d l aN hv X (pD.out X hX) hL);have Hf:Aq (w3.heap.size<=w6.heap.size/\v0.heap.size=w7.heap.size+1):=⟨G6.out.size,nc⟩;have Hj:=zH WI;have D7:=zH NO;unfold Sy.vs_ at lW nt oH D7 ⊢;have o9:=zH lW;have GR:=zH Cm;have AN:=zH z';have HN:=zH (And.intro dG lp);clear lW Cm d7 NO d8 fq nc dk du M8 nn aY hr Ed re rO lM y' Gu lJ iq Dy El M6 WJ eH z' dG lp;go_upto_region 6 with fail
 rw[o9.out];have x7:=zh D7.out 7 rfl;rw[AN.out] at x7;have Sq:IntKind.i64.wrap ((2:Int)^N)=(2:Int)^N:=by rw[Ll];omega
 have tM:min N 64=N:=by have:=HN.out;omega
 have fM:IntKind.i64.wrap ((2:Int)^N-1)=(2:Int)^N-1:=by rw[Ll];omega
 go_upto_region 7 with fail
 rw[GR.out];have E7:Aq (∀X,Am v0.heap.size v0 X->X.heap[w6.heap.size]?=J (Ag #[O U T.p.t.n,O U T.p.t.ins,O U T.p.t.outs,I AC T.p.t.cases.length dn,O U T.p.a.n,I dw T.p.a.sts.length dm,O U T.p.k,O U T.n,I AV T.vs.length kv,I AX T.xs.length kx] 39 (0,0))):=fun X hX=>(nt.out X hX).1
 have E9:Aq (∀X,Am v0.heap.size v0 X->X.heap[w7.heap.size]?=J (Ag #[O U (GG:Int)] 3 (0,0))):=fun X hX=>(nt.out X hX).2.1
 have E4:Aq (∀X,Am v0.heap.size v0 X->X.heap[w.heap.size+1]?=J (Ag #[O U f.h.op,O U f.h.p,O U f.h.o,O U f.h.v,O U f.h.g,I AF f.args.length cf] 32 (0,0))):=fun X hX=>(nt.out X hX).2.2.1
 have E5:Aq (∀X,Am v0.heap.size v0 X->X.heap[w.heap.size+1+1]?=J (Ag #[O U g.h.op,O U g.h.p,O U g.h.o,O U g.h.v,O U g.h.g,I AG g.args.length cg] 32 (0,0))):=fun X hX=>(nt.out X hX).2.2.2
 have y7:=zh (E7.out v0 (Li _ _)) 7 rfl;rw[AN.out] at y7;clear WI S9 x7 Sq tM fM nt D7 o9 GR;go_wp2_with fail
 go_loopw [33] (fun i wr=>∃k:Nat,k<=N/\i=O U (k:Int)/\Aq (Am v0.heap.size v0 wr)) (fun i _=>N-(Ap i).toNat)
 case atStart=>exact⟨0,by omega,rfl,Li _ _⟩
 obtain⟨k,hk,rfl,aO⟩:=hrel;have pU:k<=5:=by have:=HN.out;omega
 have pm:IntKind.i64.wrap ((k:Int)+1)=((k+1:Nat):Int):=by rw[Ll];omega
 by_cases ac:k<N
 . have dS:(0:Int)<=(k:Int):=by omega
   have aW:(k:Int)<(N:Int):=by omega
   have AM:=zH (Ts.out k ac);clear y7;go_upto_region 11 with fail
   obtain⟨wq,hwq,dq,hsq,hbq⟩:=zm wr #[O U (k:Int)] 3;rw[hwq];have GQ:=zH (Lc aO.out hbq);have eP:∀X,Am wq.heap.size wq X->Am v0.heap.size v0 X:=fun X hX=>Lc GQ.out hX
   have E7:=zH (fun (X:Ba) (hX:Am wq.heap.size wq X)=>E7.out X (eP X hX));have E9:=zH (fun (X:Ba) (hX:Am wq.heap.size wq X)=>E9.out X (eP X hX));have E4:=zH (fun (X:Ba) (hX:Am wq.heap.size wq X)=>E4.out X (eP X hX));have E5:=zH (fun (X:Ba) (hX:Am wq.heap.size wq X)=>E5.out X (eP X hX));have AO:Aq (∀X,Am wq.heap.size wq X->X.cell? ⟨wr.heap.size,0,Z⟩=J (O U (k:Int))):=fun X hX=>zh (Lb hX (by omega) dq) 0 rfl
   have sa:=zH (fun (X:Ba) (hX:Am wq.heap.size wq X)=>cd.out X (eP X hX));have IX:=zH (fun (X:Ba) (hX:Am wq.heap.size wq X)=>sL.out X (eP X hX));have HTq:=zH (fun (l:List Fm) (aN:l.length<=1000) (hv:∀x∈l,Vald T [] N x) (X:Ba) (hX:Am wq.heap.size wq X)=>oH.out l aN hv X (eP X hX));have G0:Aq (Am wq.heap.size wq wq):=Li _ _;clear hwq dq hsq hbq eP;have ai:Aq (∀X,Am wq.heap.size wq X->X.heap[w6.heap.size]?=J (Ag #[O U T.p.t.n,O U T.p.t.ins,O U T.p.t.outs,I AC T.p.t.cases.length dn,O U T.p.a.n,I dw T.p.a.sts.length dm,O U T.p.k,O U T.n,I AV T.vs.length kv,I AX T.xs.length kx] 39 (0,0))/\X.heap[w.heap.size+1]?=J (Ag #[O U f.h.op,O U f.h.p,O U f.h.o,O U f.h.v,O U f.h.g,I AF f.args.length cf] 32 (0,0))/\X.heap[w.heap.size+1+1]?=J (Ag #[O U g.h.op,O U g.h.p,O U g.h.o,O U g.h.v,O U g.h.g,I AG g.args.length cg] 32 (0,0))/\X.heap[w7.heap.size]?=J (Ag #[O U (GG:Int)] 3 (0,0))):=fun X hX=>⟨E7.out X hX,E4.out X hX,E5.out X hX,E9.out X hX⟩
   refine zt [(0,Au),(1,Au),(2,Au),(4,Au),(6,Au),(7,Au),(9,Au),(10,Au),(11,Au),(15,Au),(16,Au),(19,Au),(20,Au),(21,Au),(26,Au),(27,Au),(29,Au),(30,Au),(31,Au),(35,Au),(36,Au),(39,Au),(40,Au),(42,Au),(43,Au),(3,Aw),(5,Aw),(8,Aw),(12,Aw),(13,Aw),(14,Aw),(17,Aw),(18,Aw),(22,Aw),(23,Aw),(24,Aw),(25,Aw),(28,Aw),(32,Aw),(33,Aw),(34,Aw),(37,Aw),(38,Aw),(41,Aw),(44,Aw),(45,Aw),(46,Aw),(47,Aw),(48,Au)] (fun X=>X.heap[w6.heap.size]?=J (Ag #[O U T.p.t.n,O U T.p.t.ins,O U T.p.t.outs,I AC T.p.t.cases.length dn,O U T.p.a.n,I dw T.p.a.sts.length dm,O U T.p.k,O U T.n,I AV T.vs.length kv,I AX T.xs.length kx] 39 (0,0))/\X.heap[w.heap.size+1]?=J (Ag #[O U f.h.op,O U f.h.p,O U f.h.o,O U f.h.v,O U f.h.g,I AF f.args.length cf] 32 (0,0))/\X.heap[w.heap.size+1+1]?=J (Ag #[O U g.h.op,O U g.h.p,O U g.h.o,O U g.h.v,O U g.h.g,I AG g.args.length cg] 32 (0,0))/\X.heap[w7.heap.size]?=J (Ag #[O U (GG:Int)] 3 (0,0))) (by kernel_rfl) (by kernel_rfl) (ai.out _ G0.out.drew) ?_;apply zj rfl
   . rintro K' aa X u
     have e:=u.1;obtain⟨x0,x1,x2,x3,x4,x5,x6,x7,x8,x9⟩:=zK (e);clear u e;go_simp;exact aa
   apply zj rfl
   . rintro K' aa X -
     go_simp;exact aa
   apply zj rfl
   . rintro K' aa X u
     have e:=u.2.1;obtain⟨x0,x1,x2,x3,x4,x5,_⟩:=Ki (e);clear u e;go_simp;exact aa
   apply zj rfl
   . rintro K' aa X u
     have e:=u.2.1;obtain⟨x0,x1,x2,x3,x4,x5,_⟩:=Ki (e);clear u e;go_simp;exact aa
   apply zj rfl
   . rintro K' aa X -
     go_simp;exact aa
   apply zj rfl
   . rintro K' aa X u
     have e:=u.2.1;obtain⟨x0,x1,x2,x3,x4,x5,_⟩:=Ki (e);clear u e;go_simp;exact aa
   apply zj rfl
   . rintro K' aa X -
     go_simp;exact aa
   apply zj rfl
   . rintro K' aa X -
     go_simp;exact aa
   apply zj rfl
   . rintro K' aa X u
     have e:=u.2.1;obtain⟨x0,x1,x2,x3,x4,x5,_⟩:=Ki (e);clear u e;go_simp;exact aa
   apply zj rfl
   . rintro K' aa X -
     go_simp;exact aa
   apply zj rfl
   . rintro K' aa X u
     have e:=u.2.1;obtain⟨x0,x1,x2,x3,x4,x5,_⟩:=Ki (e);clear u e;go_simp;exact aa
   apply zj rfl
   . rintro K' aa X -
     go_simp;exact aa
   apply zj rfl
   . rintro K' aa X -
     go_simp;exact aa
   apply zj rfl
   . rintro K' aa X u
     have e:=u.2.1;obtain⟨x0,x1,x2,x3,x4,x5,_⟩:=Ki (e);clear u e;go_simp;exact aa
   apply zj rfl
   . rintro K' aa X -
     go_simp;exact aa
   apply zj rfl
   . rintro K' aa X u
     have e:=u.2.1;obtain⟨x0,x1,x2,x3,x4,x5,_⟩:=Ki (e);clear u e;go_simp;exact aa
   apply zj rfl
   . rintro K' aa X -
     go_simp;exact aa
   apply zj rfl
   . rintro K' aa X u
     have e:=u.2.1;obtain⟨x0,x1,x2,x3,x4,x5,_⟩:=Ki (e);clear u e;go_simp;exact aa
   apply zj rfl
   . rintro K' aa X u
     have e:=u.2.2.1;obtain⟨x0,x1,x2,x3,x4,x5,_⟩:=Ki (e);clear u e;go_simp;exact aa
   apply zj rfl
   . rintro K' aa X -
     go_simp;exact aa
   apply zj rfl
   . rintro K' aa X u
     have e:=u.2.2.1;obtain⟨x0,x1,x2,x3,x4,x5,_⟩:=Ki (e);clear u e;go_simp;exact aa
   apply zj rfl
   . rintro K' aa X -
     go_simp;exact aa
   apply zj rfl
   . rintro K' aa X u
     have e:=u.2.1;obtain⟨x0,x1,x2,x3,x4,x5,_⟩:=Ki (e);clear u e;go_simp;exact aa
   apply zj rfl
   . rintro K' aa X u
     have e:=u.2.2.2;have x0:=zh (e) 0 rfl;clear u e;go_simp;exact aa
   apply zj rfl
   . rintro K' aa X u
     have e:=u.2.1;obtain⟨x0,x1,x2,x3,x4,x5,_⟩:=Ki (e);clear u e;go_simp;exact aa
   refine zn rfl ?_;intro K' aa;go_simp;refine(xb (k:Int) wr.heap.size f _ _ (AO.out _ G0.out.drew) (sa.out wq.drew G0.out.drew)).mono ?_;rintro e sR ⟨Um,rfl,hv,hb⟩;have au:=zH hv;have fC:Aq (Am wq.heap.size wq sR):=Lc G0.out.drew hb;refine aa _ _ (ai.out _ fC.out) ?_;clear aa K' hb hv;refine zn rfl ?_;intro K' aa;go_simp;refine(yW (f1 10 k 0 f) f _ _ _ au.out (sa.out sR fC.out)).mono ?_;rintro e sf ⟨Ue,rfl,hv,hb⟩;have ay:=zH hv;have fB:Aq (Am wq.heap.size wq sf):=Lc fC.out hb;have au:=zH (au.out.keep hb);refine aa _ _ (ai.out _ fB.out) ?_;clear aa K' hb hv;refine zn rfl ?_;intro K' aa;go_simp;refine(xb (k:Int) wr.heap.size f _ _ (AO.out _ fB.out) (sa.out sf fB.out)).mono ?_;rintro e Dr ⟨mv3,rfl,hv,hb⟩;have aI:=zH hv;have iR:Aq (Am wq.heap.size wq Dr):=Lc fB.out hb;have au:=zH (au.out.keep hb);have ay:=zH (ay.out.keep hb);refine aa _ _ (ai.out _ iR.out) ?_;clear aa K' hb hv;refine zn rfl ?_;intro K' aa;go_simp;refine(xb (k:Int) wr.heap.size f _ _ (AO.out _ iR.out) (sa.out Dr iR.out)).mono ?_;rintro e Fs ⟨mv4,rfl,hv,hb⟩;have aV:=zH hv;have iQ:Aq (Am wq.heap.size wq Fs):=Lc iR.out hb;have au:=zH (au.out.keep hb);have ay:=zH (ay.out.keep hb);have aI:=zH (aI.out.keep hb);refine aa _ _ (ai.out _ iQ.out) ?_;clear aa K' hb hv;refine zn rfl ?_;intro K' aa;go_simp
   refine(xb (k:Int) wr.heap.size (f1 10 k 0 f) _ _ (AO.out _ iQ.out) aV.out).mono ?_;rintro e Fr ⟨mv5,rfl,hv,hb⟩;have aS:=zH hv;have mp:Aq (Am wq.heap.size wq Fr):=Lc iQ.out hb;have au:=zH (au.out.keep hb);have ay:=zH (ay.out.keep hb);have aI:=zH (aI.out.keep hb);have aV:=zH (aV.out.keep hb);refine aa _ _ (ai.out _ mp.out) ?_;clear aa K' hb hv;refine zn rfl ?_;intro K' aa;go_simp;refine(yW (f1 10 k 0 f) (f1 10 k 0 (f1 10 k 0 f)) _ _ _ aI.out aS.out).mono ?_;rintro e Fq ⟨mv6,rfl,hv,hb⟩;have bq:=zH hv;have iP:Aq (Am wq.heap.size wq Fq):=Lc mp.out hb;have au:=zH (au.out.keep hb);have ay:=zH (ay.out.keep hb);have aI:=zH (aI.out.keep hb);have aV:=zH (aV.out.keep hb);have aS:=zH (aS.out.keep hb);refine aa _ _ (ai.out _ iP.out) ?_;clear aa K' hb hv;refine zn rfl ?_;intro K' aa;go_simp;refine(xb (k:Int) wr.heap.size f _ _ (AO.out _ iP.out) (sa.out Fq iP.out)).mono ?_;rintro e Hy ⟨mv7,rfl,hv,hb⟩;have ch:=zH hv;have mW:Aq (Am wq.heap.size wq Hy):=Lc iP.out hb;have au:=zH (au.out.keep hb);have ay:=zH (ay.out.keep hb);have aI:=zH (aI.out.keep hb);have aV:=zH (aV.out.keep hb);have aS:=zH (aS.out.keep hb);have bq:=zH (bq.out.keep hb);refine aa _ _ (ai.out _ mW.out) ?_;clear aa K' hb hv;refine zn rfl ?_;intro K' aa;go_simp;refine(jq (f1 10 k 0 f) _ _ ch.out).mono ?_
   rintro e Dq ⟨mv8,rfl,hv,hb⟩;have bP:=zH hv;have iO:Aq (Am wq.heap.size wq Dq):=Lc mW.out hb;have au:=zH (au.out.keep hb);have ay:=zH (ay.out.keep hb);have aI:=zH (aI.out.keep hb);have aV:=zH (aV.out.keep hb);have aS:=zH (aS.out.keep hb);have bq:=zH (bq.out.keep hb);have ch:=zH (ch.out.keep hb);refine aa _ _ (ai.out _ iO.out) ?_;clear aa K' hb hv;refine zn rfl ?_;intro K' aa;go_simp;refine(xb (k:Int) wr.heap.size f _ _ (AO.out _ iO.out) (sa.out Dq iO.out)).mono ?_;rintro e Fp ⟨mv9,rfl,hv,hb⟩;have cq:=zH hv;have mV:Aq (Am wq.heap.size wq Fp):=Lc iO.out hb;have au:=zH (au.out.keep hb);have ay:=zH (ay.out.keep hb);have aI:=zH (aI.out.keep hb);have aV:=zH (aV.out.keep hb);have aS:=zH (aS.out.keep hb);have bq:=zH (bq.out.keep hb);have ch:=zH (ch.out.keep hb);have bP:=zH (bP.out.keep hb);refine aa _ _ (ai.out _ mV.out) ?_;clear aa K' hb hv;refine zn rfl ?_;intro K' aa;go_simp;refine(jq (f1 10 k 0 f) _ _ cq.out).mono ?_;rintro e nA ⟨Km,rfl,hv,hb⟩;have bz:=zH hv;have fi:Aq (Am wq.heap.size wq nA):=Lc mV.out hb;have au:=zH (au.out.keep hb);have ay:=zH (ay.out.keep hb);have aI:=zH (aI.out.keep hb);have aV:=zH (aV.out.keep hb);have aS:=zH (aS.out.keep hb);have bq:=zH (bq.out.keep hb);have ch:=zH (ch.out.keep hb);have bP:=zH (bP.out.keep hb)
   have cq:=zH (cq.out.keep hb);refine aa _ _ (ai.out _ fi.out) ?_;clear aa K' hb hv;refine zn rfl ?_;intro K' aa;go_simp;refine(xb (k:Int) wr.heap.size (yc (f1 10 k 0 f)) _ _ (AO.out _ fi.out) bz.out).mono ?_;rintro e Ce ⟨mv11,rfl,hv,hb⟩;have cD:=zH hv;have nx:Aq (Am wq.heap.size wq Ce):=Lc fi.out hb;have au:=zH (au.out.keep hb);have ay:=zH (ay.out.keep hb);have aI:=zH (aI.out.keep hb);have aV:=zH (aV.out.keep hb);have aS:=zH (aS.out.keep hb);have bq:=zH (bq.out.keep hb);have ch:=zH (ch.out.keep hb);have bP:=zH (bP.out.keep hb);have cq:=zH (cq.out.keep hb);have bz:=zH (bz.out.keep hb);refine aa _ _ (ai.out _ nx.out) ?_;clear aa K' hb hv;refine zn rfl ?_;intro K' aa;go_simp;refine(yW (yc (f1 10 k 0 f)) (f1 10 k 0 (yc (f1 10 k 0 f))) _ _ _ bP.out cD.out).mono ?_;rintro e tz ⟨Ul,rfl,hv,hb⟩;have bW:=zH hv;have li:Aq (Am wq.heap.size wq tz):=Lc nx.out hb;have au:=zH (au.out.keep hb);have ay:=zH (ay.out.keep hb);have aI:=zH (aI.out.keep hb);have aV:=zH (aV.out.keep hb);have aS:=zH (aS.out.keep hb);have bq:=zH (bq.out.keep hb);have ch:=zH (ch.out.keep hb);have bP:=zH (bP.out.keep hb);have cq:=zH (cq.out.keep hb);have bz:=zH (bz.out.keep hb);have cD:=zH (cD.out.keep hb);refine aa _ _ (ai.out _ li.out) ?_;clear aa K' hb hv;refine zn rfl ?_;intro K' aa;go_simp
   refine(xb (k:Int) wr.heap.size f _ _ (AO.out _ li.out) (sa.out tz li.out)).mono ?_;rintro e tx ⟨Uk,rfl,hv,hb⟩;have cx:=zH hv;have mw:Aq (Am wq.heap.size wq tx):=Lc li.out hb;have au:=zH (au.out.keep hb);have ay:=zH (ay.out.keep hb);have aI:=zH (aI.out.keep hb);have aV:=zH (aV.out.keep hb);have aS:=zH (aS.out.keep hb);have bq:=zH (bq.out.keep hb);have ch:=zH (ch.out.keep hb);have bP:=zH (bP.out.keep hb);have cq:=zH (cq.out.keep hb);have bz:=zH (bz.out.keep hb);have cD:=zH (cD.out.keep hb);have bW:=zH (bW.out.keep hb);refine aa _ _ (ai.out _ mw.out) ?_;clear aa K' hb hv;refine zn rfl ?_;intro K' aa;go_simp;refine(yW f g _ _ _ (sa.out tx mw.out) (IX.out tx mw.out)).mono ?_;rintro e Ft ⟨Uj,rfl,hv,hb⟩;have cW:=zH hv;have mv:Aq (Am wq.heap.size wq Ft):=Lc mw.out hb;have au:=zH (au.out.keep hb);have ay:=zH (ay.out.keep hb);have aI:=zH (aI.out.keep hb);have aV:=zH (aV.out.keep hb);have aS:=zH (aS.out.keep hb);have bq:=zH (bq.out.keep hb);have ch:=zH (ch.out.keep hb);have bP:=zH (bP.out.keep hb);have cq:=zH (cq.out.keep hb);have bz:=zH (bz.out.keep hb);have cD:=zH (cD.out.keep hb);have bW:=zH (bW.out.keep hb);have cx:=zH (cx.out.keep hb);refine aa _ _ (ai.out _ mv.out) ?_;clear aa K' hb hv;refine zn rfl ?_;intro K' aa;go_simp
   refine(xb (k:Int) wr.heap.size (fIf f g) _ _ (AO.out _ mv.out) cW.out).mono ?_;rintro e Cd ⟨mv15,rfl,hv,hb⟩;have dO:=zH hv;have mu:Aq (Am wq.heap.size wq Cd):=Lc mv.out hb;have au:=zH (au.out.keep hb);have ay:=zH (ay.out.keep hb);have aI:=zH (aI.out.keep hb);have aV:=zH (aV.out.keep hb);have aS:=zH (aS.out.keep hb);have bq:=zH (bq.out.keep hb);have ch:=zH (ch.out.keep hb);have bP:=zH (bP.out.keep hb);have cq:=zH (cq.out.keep hb);have bz:=zH (bz.out.keep hb);have cD:=zH (cD.out.keep hb);have bW:=zH (bW.out.keep hb);have cx:=zH (cx.out.keep hb);have cW:=zH (cW.out.keep hb);refine aa _ _ (ai.out _ mu.out) ?_;clear aa K' hb hv;refine zn rfl ?_;intro K' aa;go_simp;refine(Zr (f1 10 k 0 f) (f1 10 k 0 (fIf f g)) _ _ _ cx.out dO.out).mono ?_;rintro e Cc ⟨Ui,rfl,hv,hb⟩;have bj:=zH hv;have lh:Aq (Am wq.heap.size wq Cc):=Lc mu.out hb;have au:=zH (au.out.keep hb);have ay:=zH (ay.out.keep hb);have aI:=zH (aI.out.keep hb);have aV:=zH (aV.out.keep hb);have aS:=zH (aS.out.keep hb);have bq:=zH (bq.out.keep hb);have ch:=zH (ch.out.keep hb);have bP:=zH (bP.out.keep hb);have cq:=zH (cq.out.keep hb);have bz:=zH (bz.out.keep hb);have cD:=zH (cD.out.keep hb);have bW:=zH (bW.out.keep hb);have cx:=zH (cx.out.keep hb);have cW:=zH (cW.out.keep hb)
   have dO:=zH (dO.out.keep hb);refine aa _ _ (ai.out _ lh.out) ?_;clear aa K' hb hv;refine zn rfl ?_;intro K' aa;go_simp;refine(xb (k:Int) wr.heap.size g _ _ (AO.out _ lh.out) (IX.out Cc lh.out)).mono ?_;rintro e Cb ⟨Uh,rfl,hv,hb⟩;have bU:=zH hv;have mt:Aq (Am wq.heap.size wq Cb):=Lc lh.out hb;have au:=zH (au.out.keep hb);have ay:=zH (ay.out.keep hb);have aI:=zH (aI.out.keep hb);have aV:=zH (aV.out.keep hb);have aS:=zH (aS.out.keep hb);have bq:=zH (bq.out.keep hb);have ch:=zH (ch.out.keep hb);have bP:=zH (bP.out.keep hb);have cq:=zH (cq.out.keep hb);have bz:=zH (bz.out.keep hb);have cD:=zH (cD.out.keep hb);have bW:=zH (bW.out.keep hb);have cx:=zH (cx.out.keep hb);have cW:=zH (cW.out.keep hb);have dO:=zH (dO.out.keep hb);have bj:=zH (bj.out.keep hb);refine aa _ _ (ai.out _ mt.out) ?_;clear aa K' hb hv;refine zn rfl ?_;intro K' aa;go_simp;refine(yW (yx (f1 10 k 0 f) (f1 10 k 0 (fIf f g))) (f1 10 k 0 g) _ _ _ bj.out bU.out).mono ?_;rintro e Ca ⟨Ug,rfl,hv,hb⟩;have cu:=zH hv;have lg:Aq (Am wq.heap.size wq Ca):=Lc mt.out hb;have au:=zH (au.out.keep hb);have ay:=zH (ay.out.keep hb);have aI:=zH (aI.out.keep hb);have aV:=zH (aV.out.keep hb);have aS:=zH (aS.out.keep hb);have bq:=zH (bq.out.keep hb);have ch:=zH (ch.out.keep hb);have bP:=zH (bP.out.keep hb)
   have cq:=zH (cq.out.keep hb);have bz:=zH (bz.out.keep hb);have cD:=zH (cD.out.keep hb);have bW:=zH (bW.out.keep hb);have cx:=zH (cx.out.keep hb);have cW:=zH (cW.out.keep hb);have dO:=zH (dO.out.keep hb);have bj:=zH (bj.out.keep hb);have bU:=zH (bU.out.keep hb);refine aa _ _ (ai.out _ lg.out) ?_;clear aa K' hb hv;refine zn rfl ?_;intro K' aa;go_simp;refine(xb (k:Int) wr.heap.size f _ _ (AO.out _ lg.out) (sa.out Ca lg.out)).mono ?_;rintro e B9 ⟨Uf,rfl,hv,hb⟩;have cV:=zH hv;have nu:Aq (Am wq.heap.size wq B9):=Lc lg.out hb;have au:=zH (au.out.keep hb);have ay:=zH (ay.out.keep hb);have aI:=zH (aI.out.keep hb);have aV:=zH (aV.out.keep hb);have aS:=zH (aS.out.keep hb);have bq:=zH (bq.out.keep hb);have ch:=zH (ch.out.keep hb);have bP:=zH (bP.out.keep hb);have cq:=zH (cq.out.keep hb);have bz:=zH (bz.out.keep hb);have cD:=zH (cD.out.keep hb);have bW:=zH (bW.out.keep hb);have cx:=zH (cx.out.keep hb);have cW:=zH (cW.out.keep hb);have dO:=zH (dO.out.keep hb);have bj:=zH (bj.out.keep hb);have bU:=zH (bU.out.keep hb);have cu:=zH (cu.out.keep hb);refine aa _ _ (ai.out _ nu.out) ?_;clear aa K' hb hv;refine zn rfl ?_;intro K' aa;go_simp;refine(tryGrA f _ _ (sa.out B9 nu.out) 12 (by simp) (GG:Int)).mono ?_;rintro e BZ ⟨Ud,rfl,hv,hb⟩;have dF:=zH hv
   have mr:Aq (Am wq.heap.size wq BZ):=Lc nu.out hb;have au:=zH (au.out.keep hb);have ay:=zH (ay.out.keep hb);have aI:=zH (aI.out.keep hb);have aV:=zH (aV.out.keep hb);have aS:=zH (aS.out.keep hb);have bq:=zH (bq.out.keep hb);have ch:=zH (ch.out.keep hb);have bP:=zH (bP.out.keep hb);have cq:=zH (cq.out.keep hb);have bz:=zH (bz.out.keep hb);have cD:=zH (cD.out.keep hb);have bW:=zH (bW.out.keep hb);have cx:=zH (cx.out.keep hb);have cW:=zH (cW.out.keep hb);have dO:=zH (dO.out.keep hb);have bj:=zH (bj.out.keep hb);have bU:=zH (bU.out.keep hb);have cu:=zH (cu.out.keep hb);have cV:=zH (cV.out.keep hb);refine aa _ _ (ai.out _ mr.out) ?_;clear aa K' hb hv;refine zn rfl ?_;intro K' aa;go_simp;refine(yW (f1 10 k 0 f) (f1 12 0 GG f) _ _ _ cV.out dF.out).mono ?_;rintro e pH ⟨Uc,rfl,hv,hb⟩;have fg:=zH hv;have mq:Aq (Am wq.heap.size wq pH):=Lc mr.out hb;have au:=zH (au.out.keep hb);have ay:=zH (ay.out.keep hb);have aI:=zH (aI.out.keep hb);have aV:=zH (aV.out.keep hb);have aS:=zH (aS.out.keep hb);have bq:=zH (bq.out.keep hb);have ch:=zH (ch.out.keep hb);have bP:=zH (bP.out.keep hb);have cq:=zH (cq.out.keep hb);have bz:=zH (bz.out.keep hb);have cD:=zH (cD.out.keep hb);have bW:=zH (bW.out.keep hb);have cx:=zH (cx.out.keep hb)
   have cW:=zH (cW.out.keep hb);have dO:=zH (dO.out.keep hb);have bj:=zH (bj.out.keep hb);have bU:=zH (bU.out.keep hb);have cu:=zH (cu.out.keep hb);have cV:=zH (cV.out.keep hb);have dF:=zH (dF.out.keep hb);refine aa _ _ (ai.out _ mq.out) ?_;clear aa K' hb hv;obtain⟨AI,pk,oY,rfl,oP⟩:=ay.out;obtain⟨dmv6,PK,Ob,rfl,K6⟩:=bq.out;obtain⟨ND,Fj,Eu,rfl,DM⟩:=bW.out;obtain⟨Nx,Fi,Et,rfl,DK⟩:=cu.out;obtain⟨Nm,Ff,Er,rfl,DI⟩:=fg.out;refine zn rfl ?_;intro K' aa;unfold Fm.vs;go_simp
   obtain⟨wL,mZ,dL,sj,ex⟩:=zm pH #[O U (fIf (f1 10 k 0 f) f).h.op,O U (fIf (f1 10 k 0 f) f).h.p,O U (fIf (f1 10 k 0 f) f).h.o,O U (fIf (f1 10 k 0 f) f).h.v,O U (fIf (f1 10 k 0 f) f).h.g,.slice pk (fIf (f1 10 k 0 f) f).args.length oY,O U (fIf (f1 10 k 0 f) (f1 10 k 0 (f1 10 k 0 f))).h.op,O U (fIf (f1 10 k 0 f) (f1 10 k 0 (f1 10 k 0 f))).h.p,O U (fIf (f1 10 k 0 f) (f1 10 k 0 (f1 10 k 0 f))).h.o,O U (fIf (f1 10 k 0 f) (f1 10 k 0 (f1 10 k 0 f))).h.v,O U (fIf (f1 10 k 0 f) (f1 10 k 0 (f1 10 k 0 f))).h.g,.slice PK (fIf (f1 10 k 0 f) (f1 10 k 0 (f1 10 k 0 f))).args.length Ob,O U (fIf (yc (f1 10 k 0 f)) (f1 10 k 0 (yc (f1 10 k 0 f)))).h.op,O U (fIf (yc (f1 10 k 0 f)) (f1 10 k 0 (yc (f1 10 k 0 f)))).h.p,O U (fIf (yc (f1 10 k 0 f)) (f1 10 k 0 (yc (f1 10 k 0 f)))).h.o,O U (fIf (yc (f1 10 k 0 f)) (f1 10 k 0 (yc (f1 10 k 0 f)))).h.v,O U (fIf (yc (f1 10 k 0 f)) (f1 10 k 0 (yc (f1 10 k 0 f)))).h.g,.slice Fj (fIf (yc (f1 10 k 0 f)) (f1 10 k 0 (yc (f1 10 k 0 f)))).args.length Eu,O U (fIf (yx (f1 10 k 0 f) (f1 10 k 0 (fIf f g))) (f1 10 k 0 g)).h.op,O U (fIf (yx (f1 10 k 0 f) (f1 10 k 0 (fIf f g))) (f1 10 k 0 g)).h.p,O U (fIf (yx (f1 10 k 0 f) (f1 10 k 0 (fIf f g))) (f1 10 k 0 g)).h.o,O U (fIf (yx (f1 10 k 0 f) (f1 10 k 0 (fIf f g))) (f1 10 k 0 g)).h.v,O U (fIf (yx (f1 10 k 0 f) (f1 10 k 0 (fIf f g))) (f1 10 k 0 g)).h.g,.slice Fi (fIf (yx (f1 10 k 0 f) (f1 10 k 0 (fIf f g))) (f1 10 k 0 g)).args.length Et,O U (fIf (f1 10 k 0 f) (f1 12 0 GG f)).h.op,O U (fIf (f1 10 k 0 f) (f1 12 0 GG f)).h.p,O U (fIf (f1 10 k 0 f) (f1 12 0 GG f)).h.o,O U (fIf (f1 10 k 0 f) (f1 12 0 GG f)).h.v,O U (fIf (f1 10 k 0 f) (f1 12 0 GG f)).h.g,.slice Ff (fIf (f1 10 k 0 f) (f1 12 0 GG f)).args.length Er] 32
   rw[mZ]
   have an:∃D,FsAt wL wL.heap.size (D+1) (J ⟨pH.heap.size,0,Z⟩) [fIf (f1 10 k 0 f) f,fIf (f1 10 k 0 f) (f1 10 k 0 (f1 10 k 0 f)),fIf (yc (f1 10 k 0 f)) (f1 10 k 0 (yc (f1 10 k 0 f))),fIf (yx (f1 10 k 0 f) (f1 10 k 0 (fIf f g))) (f1 10 k 0 g),fIf (f1 10 k 0 f) (f1 12 0 GG f)]:=by
    refine uh dL fun i hi=>?_
    have h5:i=0\/i=1\/i=2\/i=3\/i=4:=by have:i<5:=hi;omega
    rcases h5 with rfl | rfl | rfl | rfl | rfl
    . exact⟨AI,pk,oY,fun j v hv=>by rcases six (xR hv) with rfl | rfl | rfl | rfl | rfl | rfl<;>exact hv,yP oP ex⟩
    . exact⟨dmv6,PK,Ob,fun j v hv=>by rcases six (xR hv) with rfl | rfl | rfl | rfl | rfl | rfl<;>exact hv,yP K6 ex⟩
    . exact⟨ND,Fj,Eu,fun j v hv=>by rcases six (xR hv) with rfl | rfl | rfl | rfl | rfl | rfl<;>exact hv,yP DM ex⟩
    . exact⟨Nx,Fi,Et,fun j v hv=>by rcases six (xR hv) with rfl | rfl | rfl | rfl | rfl | rfl<;>exact hv,yP DK ex⟩
    exact⟨Nm,Ff,Er,fun j v hv=>by rcases six (xR hv) with rfl | rfl | rfl | rfl | rfl | rfl<;>exact hv,yP DI ex⟩
   obtain⟨DL,ni⟩:=an;have GL:Aq (Am wq.heap.size wq wL):=Lc mq.out ex;have HC:=zH (HTq.out [fIf (f1 10 k 0 f) f,fIf (f1 10 k 0 f) (f1 10 k 0 (f1 10 k 0 f)),fIf (yc (f1 10 k 0 f)) (f1 10 k 0 (yc (f1 10 k 0 f))),fIf (yx (f1 10 k 0 f) (f1 10 k 0 (fIf f g))) (f1 10 k 0 g),fIf (f1 10 k 0 f) (f1 12 0 GG f)] (by simp) AM.out wL GL.out (J ⟨pH.heap.size,0,Z⟩) 5 DL ni);refine aa _ _ (ai.out _ GL.out) ?_;clear aa K' mZ dL sj ex ni au ay aI aV aS bq ch bP cq bz cD bW cx cW dO bj bU cu cV dF fg oP K6 DM DK DI;refine zn rfl ?_;intro K' aa;go_simp;refine HC.out.mono ?_;rintro e wV ⟨rfl,hb⟩;have GV:=zH (Lc GL.out hb);refine aa _ _ (ai.out _ GV.out) ?_;clear aa K' hb HC;apply zj rfl
   . rintro K' aa X -
     go_simp;exact aa
   refine zy ?_;have sO:=zH (Lc GQ.out GV.out);go_wp2_with fail
   go_roundw
   case rel=>exact⟨k+1,by omega,by go_num,sO⟩
   simp[Ap];omega
 obtain rfl:N=k:=by omega
 have aW:¬(N:Int)<(N:Int):=by omega
 have AM:=Oo;have mU:Aq (∀X,Am v0.heap.size v0 X->X.cell? ⟨w7.heap.size,0,Z⟩=J (O U (GG:Int))):=fun X hX=>zh (E9.out X hX) 0 rfl
 have GV0:=GV;clear y7;go_upto_region 15 with fail
 have ai:Aq (∀X,Am v0.heap.size v0 X->X.heap[w6.heap.size]?=J (Ag #[O U T.p.t.n,O U T.p.t.ins,O U T.p.t.outs,I AC T.p.t.cases.length dn,O U T.p.a.n,I dw T.p.a.sts.length dm,O U T.p.k,O U T.n,I AV T.vs.length kv,I AX T.xs.length kx] 39 (0,0))/\X.heap[w.heap.size+1]?=J (Ag #[O U f.h.op,O U f.h.p,O U f.h.o,O U f.h.v,O U f.h.g,I AF f.args.length cf] 32 (0,0))/\X.heap[w.heap.size+1+1]?=J (Ag #[O U g.h.op,O U g.h.p,O U g.h.o,O U g.h.v,O U g.h.g,I AG g.args.length cg] 32 (0,0))):=fun X hX=>⟨E7.out X hX,E4.out X hX,E5.out X hX⟩
 refine zt [(0,Au),(1,Au),(2,Au),(4,Au),(6,Au),(7,Au),(10,Au),(11,Au),(12,Au),(17,Au),(18,Au),(20,Au),(21,Au),(22,Au),(26,Au),(27,Au),(3,Aw),(5,Aw),(8,Aw),(9,Aw),(13,Aw),(14,Aw),(15,Aw),(16,Aw),(19,Aw),(23,Aw),(24,Aw),(25,Aw),(28,Aw),(29,Aw),(30,Aw),(31,Aw),(32,Au)] (fun X=>X.heap[w6.heap.size]?=J (Ag #[O U T.p.t.n,O U T.p.t.ins,O U T.p.t.outs,I AC T.p.t.cases.length dn,O U T.p.a.n,I dw T.p.a.sts.length dm,O U T.p.k,O U T.n,I AV T.vs.length kv,I AX T.xs.length kx] 39 (0,0))/\X.heap[w.heap.size+1]?=J (Ag #[O U f.h.op,O U f.h.p,O U f.h.o,O U f.h.v,O U f.h.g,I AF f.args.length cf] 32 (0,0))/\X.heap[w.heap.size+1+1]?=J (Ag #[O U g.h.op,O U g.h.p,O U g.h.o,O U g.h.v,O U g.h.g,I AG g.args.length cg] 32 (0,0))) (by kernel_rfl) (by kernel_rfl) (ai.out _ aO.out.drew) ?_;apply zj rfl
 . rintro K' aa X u
   have e:=u.1;obtain⟨x0,x1,x2,x3,x4,x5,x6,x7,x8,x9⟩:=zK (e);clear u e;go_simp;exact aa
 apply zj rfl
 . rintro K' aa X -
   go_simp;exact aa
 apply zj rfl
 . rintro K' aa X u
   have e:=u.2.1;obtain⟨x0,x1,x2,x3,x4,x5,_⟩:=Ki (e);clear u e;go_simp;exact aa
 apply zj rfl
 . rintro K' aa X u
   have e:=u.2.1;obtain⟨x0,x1,x2,x3,x4,x5,_⟩:=Ki (e);clear u e;go_simp;exact aa
 apply zj rfl
 . rintro K' aa X -
   go_simp;exact aa
 apply zj rfl
 . rintro K' aa X u
   have e:=u.2.1;obtain⟨x0,x1,x2,x3,x4,x5,_⟩:=Ki (e);clear u e;go_simp;exact aa
 apply zj rfl
 . rintro K' aa X -
   go_simp;exact aa
 apply zj rfl
 . rintro K' aa X -
   go_simp;exact aa
 apply zj rfl
 . rintro K' aa X u
   have e:=u.2.1;obtain⟨x0,x1,x2,x3,x4,x5,_⟩:=Ki (e);clear u e;go_simp;exact aa
 apply zj rfl
 . rintro K' aa X -
   go_simp;exact aa
 apply zj rfl
 . rintro K' aa X u
   have e:=u.2.1;obtain⟨x0,x1,x2,x3,x4,x5,_⟩:=Ki (e);clear u e;go_simp;exact aa
 apply zj rfl
 . rintro K' aa X -
   go_simp;exact aa
 apply zj rfl
 . rintro K' aa X u
   have e:=u.2.1;obtain⟨x0,x1,x2,x3,x4,x5,_⟩:=Ki (e);clear u e;go_simp;exact aa
 apply zj rfl
 . rintro K' aa X u
   have e:=u.2.2;obtain⟨x0,x1,x2,x3,x4,x5,_⟩:=Ki (e);clear u e;go_simp;exact aa
 apply zj rfl
 . rintro K' aa X -
   go_simp;exact aa
 apply zj rfl
 . rintro K' aa X u
   have e:=u.2.2;obtain⟨x0,x1,x2,x3,x4,x5,_⟩:=Ki (e);clear u e;go_simp;exact aa
 refine zn rfl ?_;intro K' aa;go_simp;refine(xx (GG:Int) w7.heap.size f _ _ (mU.out _ aO.out.drew) (cd.out wr.drew aO.out.drew)).mono ?_;rintro e Dp ⟨nv1,rfl,hv,hb⟩;have cc:=zH hv;have mo:Aq (Am v0.heap.size v0 Dp):=Lc aO.out.drew hb;refine aa _ _ (ai.out _ mo.out) ?_;clear aa K' hb hv;refine zn rfl ?_;intro K' aa;go_simp;refine(yW (f1 12 0 GG f) f _ _ _ cc.out (cd.out Dp mo.out)).mono ?_;rintro e Fn ⟨nv2,rfl,hv,hb⟩;have cB:=zH hv;have mn:Aq (Am v0.heap.size v0 Fn):=Lc mo.out hb;have cc:=zH (cc.out.keep hb);refine aa _ _ (ai.out _ mn.out) ?_;clear aa K' hb hv;refine zn rfl ?_;intro K' aa;go_simp;refine(xx (GG:Int) w7.heap.size f _ _ (mU.out _ mn.out) (cd.out Fn mn.out)).mono ?_;rintro e Hx ⟨nv3,rfl,hv,hb⟩;have dh:=zH hv;have Bj:Aq (Am v0.heap.size v0 Hx):=Lc mn.out hb;have cc:=zH (cc.out.keep hb);have cB:=zH (cB.out.keep hb);refine aa _ _ (ai.out _ Bj.out) ?_;clear aa K' hb hv;refine zn rfl ?_;intro K' aa;go_simp;refine(jq (f1 12 0 GG f) _ _ dh.out).mono ?_;rintro e nw4 ⟨nv4,rfl,hv,hb⟩;have dJ:=zH hv;have Do:Aq (Am v0.heap.size v0 nw4):=Lc Bj.out hb;have cc:=zH (cc.out.keep hb);have cB:=zH (cB.out.keep hb);have dh:=zH (dh.out.keep hb);refine aa _ _ (ai.out _ Do.out) ?_;clear aa K' hb hv;refine zn rfl ?_;intro K' aa;go_simp
 refine(xx (GG:Int) w7.heap.size f _ _ (mU.out _ Do.out) (cd.out nw4 Do.out)).mono ?_;rintro e nw5 ⟨nv5,rfl,hv,hb⟩;have ea:=zH hv;have Pa:Aq (Am v0.heap.size v0 nw5):=Lc Do.out hb;have cc:=zH (cc.out.keep hb);have cB:=zH (cB.out.keep hb);have dh:=zH (dh.out.keep hb);have dJ:=zH (dJ.out.keep hb);refine aa _ _ (ai.out _ Pa.out) ?_;clear aa K' hb hv;refine zn rfl ?_;intro K' aa;go_simp;refine(jq (f1 12 0 GG f) _ _ ea.out).mono ?_;rintro e nw6 ⟨nv6,rfl,hv,hb⟩;have eK:=zH hv;have Hs:Aq (Am v0.heap.size v0 nw6):=Lc Pa.out hb;have cc:=zH (cc.out.keep hb);have cB:=zH (cB.out.keep hb);have dh:=zH (dh.out.keep hb);have dJ:=zH (dJ.out.keep hb);have ea:=zH (ea.out.keep hb);refine aa _ _ (ai.out _ Hs.out) ?_;clear aa K' hb hv;refine zn rfl ?_;intro K' aa;go_simp;refine(xx (GG:Int) w7.heap.size (yc (f1 12 0 GG f)) _ _ (mU.out _ Hs.out) eK.out).mono ?_;rintro e nw7 ⟨nv7,rfl,hv,hb⟩;have fA:=zH hv;have O':Aq (Am v0.heap.size v0 nw7):=Lc Hs.out hb;have cc:=zH (cc.out.keep hb);have cB:=zH (cB.out.keep hb);have dh:=zH (dh.out.keep hb);have dJ:=zH (dJ.out.keep hb);have ea:=zH (ea.out.keep hb);have eK:=zH (eK.out.keep hb);refine aa _ _ (ai.out _ O'.out) ?_;clear aa K' hb hv;refine zn rfl ?_;intro K' aa;go_simp;refine(yW (yc (f1 12 0 GG f)) (f1 12 0 GG (yc (f1 12 0 GG f))) _ _ _ dJ.out fA.out).mono ?_
 rintro e nw8 ⟨nv8,rfl,hv,hb⟩;have im:=zH hv;have Dn:Aq (Am v0.heap.size v0 nw8):=Lc O'.out hb;have cc:=zH (cc.out.keep hb);have cB:=zH (cB.out.keep hb);have dh:=zH (dh.out.keep hb);have dJ:=zH (dJ.out.keep hb);have ea:=zH (ea.out.keep hb);have eK:=zH (eK.out.keep hb);have fA:=zH (fA.out.keep hb);refine aa _ _ (ai.out _ Dn.out) ?_;clear aa K' hb hv;refine zn rfl ?_;intro K' aa;go_simp;refine(xx (GG:Int) w7.heap.size f _ _ (mU.out _ Dn.out) (cd.out nw8 Dn.out)).mono ?_;rintro e T6 ⟨nv9,rfl,hv,hb⟩;have lB:=zH hv;have Dm:Aq (Am v0.heap.size v0 T6):=Lc Dn.out hb;have cc:=zH (cc.out.keep hb);have cB:=zH (cB.out.keep hb);have dh:=zH (dh.out.keep hb);have dJ:=zH (dJ.out.keep hb);have ea:=zH (ea.out.keep hb);have eK:=zH (eK.out.keep hb);have fA:=zH (fA.out.keep hb);have im:=zH (im.out.keep hb);refine aa _ _ (ai.out _ Dm.out) ?_;clear aa K' hb hv;refine zn rfl ?_;intro K' aa;go_simp;refine(yW f g _ _ _ (cd.out T6 Dm.out) (sL.out T6 Dm.out)).mono ?_;rintro e T9 ⟨nv10,rfl,hv,hb⟩;have fH:=zH hv;have Bl:Aq (Am v0.heap.size v0 T9):=Lc Dm.out hb;have cc:=zH (cc.out.keep hb);have cB:=zH (cB.out.keep hb);have dh:=zH (dh.out.keep hb);have dJ:=zH (dJ.out.keep hb);have ea:=zH (ea.out.keep hb);have eK:=zH (eK.out.keep hb);have fA:=zH (fA.out.keep hb)
 have im:=zH (im.out.keep hb);have lB:=zH (lB.out.keep hb);refine aa _ _ (ai.out _ Bl.out) ?_;clear aa K' hb hv;refine zn rfl ?_;intro K' aa;go_simp;refine(xx (GG:Int) w7.heap.size (fIf f g) _ _ (mU.out _ Bl.out) fH.out).mono ?_;rintro e T8 ⟨nv11,rfl,hv,hb⟩;have le:=zH hv;have EZ:Aq (Am v0.heap.size v0 T8):=Lc Bl.out hb;have cc:=zH (cc.out.keep hb);have cB:=zH (cB.out.keep hb);have dh:=zH (dh.out.keep hb);have dJ:=zH (dJ.out.keep hb);have ea:=zH (ea.out.keep hb);have eK:=zH (eK.out.keep hb);have fA:=zH (fA.out.keep hb);have im:=zH (im.out.keep hb);have lB:=zH (lB.out.keep hb);have fH:=zH (fH.out.keep hb);refine aa _ _ (ai.out _ EZ.out) ?_;clear aa K' hb hv;refine zn rfl ?_;intro K' aa;go_simp;refine(Zr (f1 12 0 GG f) (f1 12 0 GG (fIf f g)) _ _ _ lB.out le.out).mono ?_;rintro e Kl ⟨nv12,rfl,hv,hb⟩;have nj:=zH hv;have sd:Aq (Am v0.heap.size v0 Kl):=Lc EZ.out hb;have cc:=zH (cc.out.keep hb);have cB:=zH (cB.out.keep hb);have dh:=zH (dh.out.keep hb);have dJ:=zH (dJ.out.keep hb);have ea:=zH (ea.out.keep hb);have eK:=zH (eK.out.keep hb);have fA:=zH (fA.out.keep hb);have im:=zH (im.out.keep hb);have lB:=zH (lB.out.keep hb);have fH:=zH (fH.out.keep hb);have le:=zH (le.out.keep hb);refine aa _ _ (ai.out _ sd.out) ?_;clear aa K' hb hv;refine zn rfl ?_;intro K' aa;go_simp
 refine(xx (GG:Int) w7.heap.size g _ _ (mU.out _ sd.out) (sL.out Kl sd.out)).mono ?_;rintro e T7 ⟨nv13,rfl,hv,hb⟩;have rQ:=zH hv;have EY:Aq (Am v0.heap.size v0 T7):=Lc sd.out hb;have cc:=zH (cc.out.keep hb);have cB:=zH (cB.out.keep hb);have dh:=zH (dh.out.keep hb);have dJ:=zH (dJ.out.keep hb);have ea:=zH (ea.out.keep hb);have eK:=zH (eK.out.keep hb);have fA:=zH (fA.out.keep hb);have im:=zH (im.out.keep hb);have lB:=zH (lB.out.keep hb);have fH:=zH (fH.out.keep hb);have le:=zH (le.out.keep hb);have nj:=zH (nj.out.keep hb);refine aa _ _ (ai.out _ EY.out) ?_;clear aa K' hb hv;refine zn rfl ?_;intro K' aa;go_simp;refine(yW (yx (f1 12 0 GG f) (f1 12 0 GG (fIf f g))) (f1 12 0 GG g) _ _ _ nj.out rQ.out).mono ?_;rintro e BV ⟨nv14,rfl,hv,hb⟩;have Ey:=zH hv;have EX:Aq (Am v0.heap.size v0 BV):=Lc EY.out hb;have cc:=zH (cc.out.keep hb);have cB:=zH (cB.out.keep hb);have dh:=zH (dh.out.keep hb);have dJ:=zH (dJ.out.keep hb);have ea:=zH (ea.out.keep hb);have eK:=zH (eK.out.keep hb);have fA:=zH (fA.out.keep hb);have im:=zH (im.out.keep hb);have lB:=zH (lB.out.keep hb);have fH:=zH (fH.out.keep hb);have le:=zH (le.out.keep hb);have nj:=zH (nj.out.keep hb);have rQ:=zH (rQ.out.keep hb);refine aa _ _ (ai.out _ EX.out) ?_;clear aa K' hb hv
 obtain⟨dnv2,PD,N',rfl,KW⟩:=cB.out;obtain⟨dnv8,Pz,N1,rfl,KU⟩:=im.out;obtain⟨Nf,Fd,Eo,rfl,DE⟩:=Ey.out;refine zn rfl ?_;intro K' aa;unfold Fm.vs;go_simp;obtain⟨wL,mZ,dL,sj,ex⟩:=zm BV #[O U (fIf (f1 12 0 GG f) f).h.op,O U (fIf (f1 12 0 GG f) f).h.p,O U (fIf (f1 12 0 GG f) f).h.o,O U (fIf (f1 12 0 GG f) f).h.v,O U (fIf (f1 12 0 GG f) f).h.g,.slice PD (fIf (f1 12 0 GG f) f).args.length N',O U (fIf (yc (f1 12 0 GG f)) (f1 12 0 GG (yc (f1 12 0 GG f)))).h.op,O U (fIf (yc (f1 12 0 GG f)) (f1 12 0 GG (yc (f1 12 0 GG f)))).h.p,O U (fIf (yc (f1 12 0 GG f)) (f1 12 0 GG (yc (f1 12 0 GG f)))).h.o,O U (fIf (yc (f1 12 0 GG f)) (f1 12 0 GG (yc (f1 12 0 GG f)))).h.v,O U (fIf (yc (f1 12 0 GG f)) (f1 12 0 GG (yc (f1 12 0 GG f)))).h.g,.slice Pz (fIf (yc (f1 12 0 GG f)) (f1 12 0 GG (yc (f1 12 0 GG f)))).args.length N1,O U (fIf (yx (f1 12 0 GG f) (f1 12 0 GG (fIf f g))) (f1 12 0 GG g)).h.op,O U (fIf (yx (f1 12 0 GG f) (f1 12 0 GG (fIf f g))) (f1 12 0 GG g)).h.p,O U (fIf (yx (f1 12 0 GG f) (f1 12 0 GG (fIf f g))) (f1 12 0 GG g)).h.o,O U (fIf (yx (f1 12 0 GG f) (f1 12 0 GG (fIf f g))) (f1 12 0 GG g)).h.v,O U (fIf (yx (f1 12 0 GG f) (f1 12 0 GG (fIf f g))) (f1 12 0 GG g)).h.g,.slice Fd (fIf (yx (f1 12 0 GG f) (f1 12 0 GG (fIf f g))) (f1 12 0 GG g)).args.length Eo] 32;rw[mZ]
 have an:∃D,FsAt wL wL.heap.size (D+1) (J ⟨BV.heap.size,0,Z⟩) [fIf (f1 12 0 GG f) f,fIf (yc (f1 12 0 GG f)) (f1 12 0 GG (yc (f1 12 0 GG f))),fIf (yx (f1 12 0 GG f) (f1 12 0 GG (fIf f g))) (f1 12 0 GG g)]:=by
  refine uh dL fun i hi=>?_
  have h5:i=0\/i=1\/i=2:=by have:i<3:=hi;omega
  rcases h5 with rfl | rfl | rfl
  . exact⟨dnv2,PD,N',fun j v hv=>by rcases six (xR hv) with rfl | rfl | rfl | rfl | rfl | rfl<;>exact hv,yP KW ex⟩
  . exact⟨dnv8,Pz,N1,fun j v hv=>by rcases six (xR hv) with rfl | rfl | rfl | rfl | rfl | rfl<;>exact hv,yP KU ex⟩
  exact⟨Nf,Fd,Eo,fun j v hv=>by rcases six (xR hv) with rfl | rfl | rfl | rfl | rfl | rfl<;>exact hv,yP DE ex⟩
 obtain⟨DL,ni⟩:=an;have GL:Aq (Am v0.heap.size v0 wL):=Lc EX.out ex;have HC:=zH (oH.out [fIf (f1 12 0 GG f) f,fIf (yc (f1 12 0 GG f)) (f1 12 0 GG (yc (f1 12 0 GG f))),fIf (yx (f1 12 0 GG f) (f1 12 0 GG (fIf f g))) (f1 12 0 GG g)] (by simp) AM.out wL GL.out (J ⟨BV.heap.size,0,Z⟩) 3 DL ni);refine aa _ _ (ai.out _ GL.out) ?_;clear aa K' mZ dL sj ex ni cc cB dh dJ ea eK fA im lB fH le nj rQ Ey KW KU DE;refine zn rfl ?_;intro K' aa;go_simp;refine HC.out.mono ?_;rintro e wV ⟨rfl,hb⟩;have GV:=zH (Lc GL.out hb);refine aa _ _ (ai.out _ GV.out) ?_;clear aa K' hb HC;apply zj rfl
 . rintro K' aa X -
   go_simp;exact aa
 refine zy ?_;have cF:=zH (HB.out.trans ((Lc GV0.out GV.out).mono HB.out.size));go_wp2_with fail;go_ret;exact⟨rfl,cF.out⟩
end Go.Proofs.YtkmbdfdaffmhjaaGreat
