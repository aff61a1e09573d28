/- Merged. -/
import Derived.Test.YtkmbdfdaffmhjaaGreatTi
import Derived.Test.YtkmbdfdaffmhjaaGreatTj
open Go.Proofs.Tryz
open Go.Value renaming int->O,slice->I,bool->Ah,agg->Ai,pointer->Aj
open Go.IntKind renaming i64->U
open Option renaming none->Z,some->J
open Go.Obj renaming cells->Ag
open Go.Ending renaming returned->Ak
open Go.Proofs.Tryz renaming prog->Al,underlying54->P9
open Go.RowKit renaming Below->Am,Hid->Aq
open Go renaming Calls->An,Value->Ar
open Bool renaming true->Au,false->Aw
namespace Go.Proofs.YtkmbdfdaffmhjaaGreat
set_option maxRecDepth 100000
set_option maxHeartbeats 20000000
section
open Go.ChangeShapes Go.WideShapes Go.ChangeAt Go.RowKit Go.Deep
section
variable {H:Type} {enc:TypeId×Ar->H} {W:Ba} {ab:Nat} {spare:Nat->Bool} {aR:Bool}
theorem Xt{P:Program}{n:Nat}{e t:TypeId}{oI:List (DataW H)}(ht:P.underlying t=J (.array n e))(h:xM P t (.agg oI)){d:DataW H}(hd:d∈oI):xM P e d:=by
 unfold xM at h ⊢;refine LH.2 fun n hn=>LH.1 h n ?_
 simp only[DataW.weights,ht];exact qJ hd n hn
theorem QP{P:Program}{w:Ba}{r:Reach}{ab:Nat}{t e:TypeId}{n:Nat}{v:Ar}(ht:P.underlying t=J (.array n e))(h:Value.okWide P w r ab t v):∃cs,v=.agg cs/\cs.size=P.cellsOf t:=by
 simp only[Value.okWide,ht] at h;obtain⟨cs,h1,h2,_⟩:=h;exact⟨cs,h1,h2⟩
theorem cells2F:Al.cellsOf 54=12:=by kernel_rfl
theorem open_twoFm{b0:Nat}{v:Ar}{d:DataW H}{ps:List MemPlace}(hv:Value.okWide Al W .any b0 54 v)(h:DataW.Trod enc Al W ab spare aR 54 v d ps)(hw:xM Al 54 d) :
  ∃(f y:Fm) (df dg:Nat) (A B:Bb) (c e:Nat),v=Ai #[O U f.h.op,O U f.h.p,O U f.h.o,O U f.h.v,O U f.h.g,I A f.args.length c,O U y.h.op,O U y.h.p,O U y.h.o,O U y.h.v,O U y.h.g,I B y.args.length e]/\FsAt W W.heap.size df A f.args/\FsAt W W.heap.size dg B y.args:=by
 obtain⟨cs,rfl,_⟩:=QP P9 hv;obtain⟨fuel,hf⟩:=h;obtain⟨ys,m,rfl,hx,hl,nB,hi⟩:=DataW.trod_array P9 hf;have hd:d=.agg (ys.map (·.1)):=congrArg Prod.fst hx;rw[hd] at hw;rw[cells2F] at hl;obtain⟨cl⟩:=cs
 match cl,hl with
 | [c0,c1,c2,c3,c4,c5,c6,c7,c8,c9,CY,c11],_=>
  have k0:=hi 0 (by decide);have k1:=hi 1 (by decide)
  obtain⟨y0,y1,rfl⟩:∃y0 y1,ys=[y0,y1]:=by
   match ys,nB with
   | [y0,y1],_=>exact⟨y0,y1,rfl⟩
  have j0:DataW.trod enc Al W ab spare aR m 32 [c0,c1,c2,c3,c4,c5]=J y0:=by simpa[ZC,Value.cells] using k0
  have j1:DataW.trod enc Al W ab spare aR m 32 [c6,c7,c8,c9,CY,c11]=J y1:=by simpa[ZC,Value.cells] using k1
  obtain⟨f,df,A,c,e0,_,r0⟩:=jv _ _ _ _ (R9 _) j0 (Xt P9 hw (by simp));obtain⟨y,dg,B,e,e1,_,r1⟩:=jv _ _ _ _ (R9 _) j1 (Xt P9 hw (by simp))
  cases e0;cases e1
  exact⟨f,y,df,dg,A,B,c,e,rfl,r0,r1⟩
end
end
section
open Go.RowKit Go.Shelf
attribute [local go_sem] Oper.semAt_some
theorem jO(op:Int)(F:Fm)(v:Ar)(w:Ba)(S:Nat->Prop)(hF:FmX w S F v):An Al 19 #[O U op,v] w (RetFm S (f1 op 0 0 F) w):=by
 obtain⟨d,A,c,rfl,hA⟩:=hF;unfold Fm.vs;obtain⟨w1,ae,d0,aw,aB⟩:=zm w #[O U F.h.op,O U F.h.p,O U F.h.o,O U F.h.v,O U F.h.g,I A F.args.length c] 32;obtain⟨w2,aC,d1,bQ,az⟩:=zm w1 #[O U 0,O U 0,O U 0,O U 0,O U 0,I Z 0 0] 32;have d0:=Lb az (by omega) d0;rw[aw] at d1 bQ;have aF:Am w.heap.size w w2:=aB.trans (az.mono (by omega));have HF:=zH hA;have HB:=zH aF;have HZ:=zH bQ;have D2:=zH d1;have ak:=zH ae;have dK:=zH aC;obtain⟨q0,q1,q2,q3,q4,q5,_⟩:=Ki d0;obtain⟨r0,r1,r2,r3,r4,r5,_⟩:=Ki d1;have g0:=zi d1 0;have g1:=zi d1 1;have g2:=zi d1 2;have g3:=zi d1 3;have g4:=zi d1 4;have g5:=zi d1 5;clear hA ae aC d0 d1 aB az aF;go_enter func19,ntmps19;go_upto_region 1 with fail
 rw[ak.out,dK.out];go_wp2_with fail;obtain⟨WF,cM,f1,f2,f3,f4⟩:=xU D2.out (O U op) (O U 0) (O U 0) (O U 0) (O U 0) (I (J ⟨w.heap.size+1+1,0,Z⟩) 1 1);rw[cM];obtain⟨WG,Gt,d3,dx,ck⟩:=zm WF #[O U F.h.op,O U F.h.p,O U F.h.o,O U F.h.v,O U F.h.g,I A F.args.length c] 32;rw[Gt];have hz:=HZ.out
 (try simp only[Exit.inBlock,Exit.then])
 refine LI (L9 (P:=Al) rfl _ _ (w.heap.size+1) 32 _ (0,0) _ rfl (Lb ck (by omega) f1) LW rfl (by kernel_rfl)) rfl ?_;have fw:Am w.heap.size w2 WF:=f3 _ (by omega);have Gn:=fw.trans (ck.mono (by omega));have hE:WG.heap[w.heap.size+1+1]?=J (Ag (F.vs A c) 32 (0,0)):=by rw[show w.heap.size+1+1=WF.heap.size by omega];exact d3
 have ir:=HB.out.trans Gn;obtain⟨D,hD⟩:=Yx (S:=fun k=>S k\/w.heap.size<=k) hE (.inr (by omega)) (HF.out.keep ir.size fun k hk hs=>⟨.inl hs,ir.block k hk⟩);exact⟨_,rfl,⟨D,J ⟨w.heap.size+1+1,0,Z⟩,1,rfl,hD⟩,ir⟩
theorem qT(b:Nat)(F:Fm)(v:Ar)(w:Ba)(hb:w.cell? ⟨b,0,Z⟩=J (.func (.func 19) #[] #[]))(S:Nat->Prop)(hF:FmX w S F v):An Al 20 #[v,Aj (J ⟨b,0,Z⟩)] w (RetFm S (f1 14 0 0 F) w):=by
 have cd:=zH hF;obtain⟨d,A,c,rfl,hA⟩:=hF;unfold Fm.vs at cd ⊢;obtain⟨w1,ae,d0,aw,aB⟩:=zm w #[O U F.h.op,O U F.h.p,O U F.h.o,O U F.h.v,O U F.h.g,I A F.args.length c] 32;obtain⟨w2,aC,d1,bQ,az⟩:=zm w1 #[O U 0,O U 0,O U 0,O U 0,O U 0,I Z 0 0] 32;have d0:=Lb az (by omega) d0;rw[aw] at d1 bQ;have aF:Am w.heap.size w w2:=aB.trans (az.mono (by omega));have y0:=(aF.cell (p:=⟨b,0,Z⟩) (LG w _ hb)).trans hb;have HC:=zH (jO 14 F _ w2 (fun k=>S k/\k<w.heap.size) (FmX.keep cd.out aF.size fun k hk hs=>⟨⟨hs,hk⟩,aF.block k hk⟩));have HB:=zH aF;have HZ:=zH bQ;have D1:=zH d1;have ak:=zH ae;have dK:=zH aC;obtain⟨q0,q1,q2,q3,q4,q5,_⟩:=Ki d0;unfold RetFm at HC;clear hA ae aC d0 d1 aB az aF hb;go_enter func20,ntmps20;go_upto_region 1 with fail
 rw[ak.out,dK.out];go_wp2_with fail;refine HC.out.mono ?_;rintro e w5 ⟨v5,rfl,oK,aj⟩

 obtain⟨d5,A5,c5,rfl,ld⟩:=oK;have e2:=Lb aj (by omega) D1.out;have aK:=zH aj;have lE:=zH ld;have E2:=zH e2;obtain⟨r0,r1,r2,r3,r4,r5,_⟩:=Ki e2;have g0:=zi e2 0;have g1:=zi e2 1;have g2:=zi e2 2;have g3:=zi e2 3;have g4:=zi e2 4;have g5:=zi e2 5;unfold Fm.vs;clear ld aj e2;go_wp2_with fail;obtain⟨WF,cM,f1,f2,f3,f4⟩:=xU E2.out (O U (f1 14 0 0 F).h.op) (O U (f1 14 0 0 F).h.p) (O U (f1 14 0 0 F).h.o) (O U (f1 14 0 0 F).h.v) (O U (f1 14 0 0 F).h.g) (.slice A5 (f1 14 0 0 F).args.length c5);rw[cM]
 (try simp only[Exit.inBlock,Exit.then])
 refine LI (L9 (P:=Al) rfl _ _ (w.heap.size+1) 32 _ (0,0) _ rfl f1 LW rfl (by kernel_rfl)) rfl ?_;have hz:=HZ.out;have fw:Am w.heap.size w5 WF:=f3 _ (by omega);have cZ:=aK.out.size;refine⟨_,rfl,⟨d5,A5,c5,rfl,lE.out.keep (by omega) fun k hk hs=>⟨?_,f2 k ?_⟩⟩,(Lc HB.out aK.out).trans fw⟩
 . rcases hs with hs | hs
   . exact .inl hs.1
   exact .inr (by omega)
 rcases hs with hs | hs<;>omega
theorem topKnt_S(n N r:Nat)(hn:n<256)(hN:1<=N/\N<=5)(hr:n % N=r)(b5 b9:Nat)(F:Fm)(v:Ar)(w:Ba)(hb:w.cell? ⟨b5,0,Z⟩=J (.int .u8 (n:Int)))(hc:w.cell? ⟨b9,7,Z⟩=J (O U (N:Int)))(S:Nat->Prop)(hF:FmX w S F v):An Al 21 #[v,Aj (J ⟨b5,0,Z⟩),Aj (J ⟨b9,0,Z⟩)] w (RetFm S (f1 10 (r:Int) 0 F) w):=by
 have cd:=zH hF;obtain⟨d,A,c,rfl,hA⟩:=hF;unfold Fm.vs at cd ⊢;obtain⟨w1,ae,d0,aw,aB⟩:=zm w #[O U F.h.op,O U F.h.p,O U F.h.o,O U F.h.v,O U F.h.g,I A F.args.length c] 32;obtain⟨w2,aC,d1,bQ,az⟩:=zm w1 #[O U 0,O U 0,O U 0,O U 0,O U 0,I Z 0 0] 32;have d0:=Lb az (by omega) d0;rw[aw] at d1 bQ;have aF:Am w.heap.size w w2:=aB.trans (az.mono (by omega));have y0:=(aF.cell (p:=⟨b5,0,Z⟩) (LG w _ hb)).trans hb;have y7:=(aF.cell (p:=⟨b9,7,Z⟩) (LG w _ hc)).trans hc;have HC:=zH (kW (r:Int) F _ w2.drew (fun k=>S k/\k<w.heap.size) (FmX.keep cd.out (aF.drew).size fun k hk hs=>⟨⟨hs,hk⟩,aF.drew.block k hk⟩));have ai:Aq (∀X,Am w2.heap.size w2 X->X.heap[w.heap.size]?=J (Ag #[O U F.h.op,O U F.h.p,O U F.h.o,O U F.h.v,O U F.h.g,I A F.args.length c] 32 (0,0))/\X.cell? ⟨b5,0,Z⟩=J (.int .u8 (n:Int))/\X.cell? ⟨b9,7,Z⟩=J (O U (N:Int))):=fun X hX=>⟨Lb hX (by omega) d0,(hX.cell (p:=⟨b5,0,Z⟩) (LG w2 _ y0)).trans y0,(hX.cell (p:=⟨b9,7,Z⟩) (LG w2 _ y7)).trans y7⟩
 have EL:Aq (b5<w.heap.size/\b9<w.heap.size):=⟨LG w _ hb,LG w _ hc⟩;have G2:Aq (Am w2.heap.size w2 w2):=Li _ _;have HB:=zH aF;have HZ:=zH bQ;have D1:=zH d1;have ak:=zH ae;have dK:=zH aC;have hgm:(n:Int) % (N:Int)=(r:Int):=by rw[<-hr];push_cast;rfl
 have KH:Int.tmod (n:Int) (N:Int)=(r:Int):=by rw[<-hr];exact(Sk n N).symm
 have eh:r<N:=by rw[<-hr];exact Pv _ (by omega)
 have hwn:IntKind.i64.wrap (n:Int)=(n:Int):=by rw[Ll];omega
 have Fw:IntKind.i64.wrap (r:Int)=(r:Int):=by rw[Ll];omega
 have Il:¬(N:Int)=0:=by omega
 have KZ:¬N=0:=by omega
 unfold RetFm at HC;clear hA ae aC d0 d1 aB az aF hb hc hr eh hN hn y0 y7;go_enter func21,ntmps21;go_upto_region 1 with fail
 rw[ak.out,dK.out];refine zt [(0,Au),(1,Au),(2,Au),(3,Au),(4,Au),(5,Au),(6,Au),(7,Aw),(8,Aw)] (fun X=>X.heap[w.heap.size]?=J (Ag #[O U F.h.op,O U F.h.p,O U F.h.o,O U F.h.v,O U F.h.g,I A F.args.length c] 32 (0,0))/\X.cell? ⟨b5,0,Z⟩=J (.int .u8 (n:Int))/\X.cell? ⟨b9,7,Z⟩=J (O U (N:Int))) (by kernel_rfl) (by kernel_rfl) (ai.out _ G2.out.drew) ?_
 repeat
  apply zj rfl
  . rintro K' aa X ⟨u1,u2,u3⟩
    obtain⟨x0,x1,x2,x3,x4,x5,_⟩:=Ki u1;clear u1;go_simp;exact aa
 refine zn rfl ?_;intro K' aa;go_simp;refine HC.out.mono ?_;rintro e w5 ⟨v5,rfl,oK,aj⟩;have G5:=zH (Lc G2.out.drew aj);refine aa _ _ (ai.out _ G5.out) ?_;clear aa K' HC;have aj:Am w2.heap.size w2 w5:=G5.out;obtain⟨d5,A5,c5,rfl,ld⟩:=oK;have e2:=Lb aj (by omega) D1.out;have aK:=zH aj;have lE:=zH ld;have E2:=zH e2;obtain⟨r0,r1,r2,r3,r4,r5,_⟩:=Ki e2;have g0:=zi e2 0;have g1:=zi e2 1;have g2:=zi e2 2;have g3:=zi e2 3;have g4:=zi e2 4;have g5:=zi e2 5;unfold Fm.vs;clear ld aj e2;refine zn rfl ?_;intro K' aa;go_simp;obtain⟨WF,cM,f1,f2,f3,f4⟩:=xU E2.out (O U (f1 10 (r:Int) 0 F).h.op) (O U (f1 10 (r:Int) 0 F).h.p) (O U (f1 10 (r:Int) 0 F).h.o) (O U (f1 10 (r:Int) 0 F).h.v) (O U (f1 10 (r:Int) 0 F).h.g) (.slice A5 (f1 10 (r:Int) 0 F).args.length c5);rw[cM];refine aa _ _ ?_ ?_
 . have h2:∀k,k≠w.heap.size+1->WF.heap[k]?=w5.heap[k]?:=f2
   obtain⟨u1,u2,u3⟩:=ai.out _ G5.out;have hy0:b5≠w.heap.size+1:=by have:=EL.out;omega
   have hy7:b9≠w.heap.size+1:=by have:=EL.out;omega
   exact⟨(h2 _ (by omega)).trans u1,(LN (a:=⟨b5,0,Z⟩) (h2 _ hy0)).trans u2,(LN (a:=⟨b9,7,Z⟩) (h2 _ hy7)).trans u3⟩
 clear aa K';refine zy ?_;go_wp2_with fail
 (try simp only[Exit.inBlock,Exit.then])
 refine LI (L9 (P:=Al) rfl _ _ (w.heap.size+1) 32 _ (0,0) _ rfl f1 LW rfl (by kernel_rfl)) rfl ?_;have hz:w2.drew.heap.size=_:=HZ.out;have fw:Am w.heap.size w5 WF:=f3 _ (by omega);have cZ:=aK.out.size;refine⟨_,rfl,⟨d5,A5,c5,rfl,lE.out.keep (by omega) fun k hk hs=>⟨?_,f2 k ?_⟩⟩,(Lc HB.out aK.out).trans fw⟩
 . rcases hs with hs | hs
   . exact .inl hs.1
   exact .inr (by omega)
 rcases hs with hs | hs<;>omega
theorem Qq(T:Sy)(K N:Nat)(hT:TopW T K N)(AC SV AV AX:Bb)(kc ks kv kx:Nat)(F G:Fm)(v u:Ar)(b9:Nat)(w:Ba)(hS:SyAt w w.heap.size AC SV AV AX T)(hb:w.heap[b9]?=J (Ag (T.vs_ AC kc SV ks AV kv AX kx) 39 (0,0)))(hF:FmA w F v)(hG:FmA w G u)(h1:Vald T [] N (fIf F G))(h2:Vald T [] N (fIf G F)) :
  An Al 22 #[v,u,Aj (J ⟨b9,0,Z⟩)] w fun e w'=>e=Ak (Ah Au)/\Am w.heap.size w w':=by
 have cd:=zH hF;have sL:=zH hG;obtain⟨d,A,c,rfl,hA⟩:=hF;obtain⟨d2,B,c2,rfl,S8⟩:=hG;obtain⟨wa,ec,d0,aw,aB⟩:=zm w (F.vs A c) 32;obtain⟨v0,aC,d1,bQ,az⟩:=zm wa (G.vs B c2) 32;have d0:=Lb az (by omega) d0;rw[aw] at d1 bQ;have aF:Am w.heap.size w v0:=aB.trans (az.mono (by omega))
 have AM:Aq (∀x∈[fIf F G,fIf G F],Vald T [] N x):=fun x hx=>by
  simp only[List.mem_cons,List.not_mem_nil,or_false] at hx;rcases hx with rfl | rfl
  . exact h1
  . exact h2
 have po:=La aF hb;have sa:Aq (∀X,Am v0.heap.size v0 X->FmA X F (.agg (F.vs A c))):=fun X hX=>(cd.out.keep aF).keep hX
 have IX:Aq (∀X,Am v0.heap.size v0 X->FmA X G (.agg (G.vs B c2))):=fun X hX=>(sL.out.keep aF).keep hX
 have oH:=zH (fun (l:List Fm) (aN:l.length<=1000) (hv:∀x∈l,Vald T [] N x) (X:Ba) (hX:Am v0.heap.size v0 X) (AL:Bb) (cl d:Nat) (hL:FsAt X X.heap.size (d+1) AL l)=>qO T K N hT AC SV AV AX AL kc ks kv kx cl d l aN hv X ((hS.up aF).up hX) hL);have HB:=zH aF;unfold Fm.vs at ec aC d0 d1 sa IX ⊢;unfold Sy.vs_ at po oH;have E2:Aq (∀X,Am v0.heap.size v0 X->X.heap[b9]?=J (Ag #[O U T.p.t.n,O U T.p.t.ins,O U T.p.t.outs,I AC T.p.t.cases.length kc,O U T.p.a.n,I SV T.p.a.sts.length ks,O U T.p.k,O U T.n,I AV T.vs.length kv,I AX T.xs.length kx] 39 (0,0))):=fun X hX=>La hX po
 have E3:Aq (∀X,Am v0.heap.size v0 X->X.heap[w.heap.size]?=J (Ag #[O U F.h.op,O U F.h.p,O U F.h.o,O U F.h.v,O U F.h.g,I A F.args.length c] 32 (0,0))):=fun X hX=>Lb hX (by omega) d0
 have E4:Aq (∀X,Am v0.heap.size v0 X->X.heap[w.heap.size+1]?=J (Ag #[O U G.h.op,O U G.h.p,O U G.h.o,O U G.h.v,O U G.h.g,I B G.args.length c2] 32 (0,0))):=fun X hX=>Lb hX (by omega) d1
 have G0:Aq (Am v0.heap.size v0 v0):=Li _ _;have o8:=zH ec;have dK:=zH aC;clear hA S8 ec aC d0 d1 po aB az aF hb hS h1 h2 hT cd sL;go_enter func22,ntmps22;go_upto_region 1 with fail
 rw[o8.out,dK.out];have ai:Aq (∀X,Am v0.heap.size v0 X->X.heap[b9]?=J (Ag #[O U T.p.t.n,O U T.p.t.ins,O U T.p.t.outs,I AC T.p.t.cases.length kc,O U T.p.a.n,I SV T.p.a.sts.length ks,O U T.p.k,O U T.n,I AV T.vs.length kv,I AX T.xs.length kx] 39 (0,0))/\X.heap[w.heap.size]?=J (Ag #[O U F.h.op,O U F.h.p,O U F.h.o,O U F.h.v,O U F.h.g,I A F.args.length c] 32 (0,0))/\X.heap[w.heap.size+1]?=J (Ag #[O U G.h.op,O U G.h.p,O U G.h.o,O U G.h.v,O U G.h.g,I B G.args.length c2] 32 (0,0))):=fun X hX=>⟨E2.out X hX,E3.out X hX,E4.out X hX⟩
 refine zt [(0,Au),(1,Au),(2,Au),(4,Au),(5,Au),(3,Aw),(6,Aw),(7,Aw),(8,Aw),(9,Au)] (fun X=>X.heap[b9]?=J (Ag #[O U T.p.t.n,O U T.p.t.ins,O U T.p.t.outs,I AC T.p.t.cases.length kc,O U T.p.a.n,I SV T.p.a.sts.length ks,O U T.p.k,O U T.n,I AV T.vs.length kv,I AX T.xs.length kx] 39 (0,0))/\X.heap[w.heap.size]?=J (Ag #[O U F.h.op,O U F.h.p,O U F.h.o,O U F.h.v,O U F.h.g,I A F.args.length c] 32 (0,0))/\X.heap[w.heap.size+1]?=J (Ag #[O U G.h.op,O U G.h.p,O U G.h.o,O U G.h.v,O U G.h.g,I B G.args.length c2] 32 (0,0))) (by kernel_rfl) (by kernel_rfl) (ai.out _ G0.out.drew) ?_;apply zj rfl
 . rintro K' aa X u
   have e:=u.1;obtain⟨x0,x1,x2,x3,x4,x5,x6,x7,x8,x9⟩:=zK (e);clear u e;go_simp;exact aa
 apply zj rfl
 . rintro K' aa X u
   have e:=u.2.1;obtain⟨x0,x1,x2,x3,x4,x5,_⟩:=Ki (e);clear u e;go_simp;exact aa
 apply zj rfl
 . rintro K' aa X u
   have e:=u.2.2;obtain⟨x0,x1,x2,x3,x4,x5,_⟩:=Ki (e);clear u e;go_simp;exact aa
 apply zj rfl
 . rintro K' aa X u
   have e:=u.2.2;obtain⟨x0,x1,x2,x3,x4,x5,_⟩:=Ki (e);clear u e;go_simp;exact aa
 apply zj rfl
 . rintro K' aa X u
   have e:=u.2.1;obtain⟨x0,x1,x2,x3,x4,x5,_⟩:=Ki (e);clear u e;go_simp;exact aa
 refine zn rfl ?_;intro K' aa;go_simp;refine(yW F G _ _ _ (sa.out v0.drew G0.out.drew) (IX.out v0.drew G0.out.drew)).mono ?_;rintro e sR ⟨Um,rfl,hv,hb⟩;have au:=zH hv;have fC:Aq (Am v0.heap.size v0 sR):=Lc G0.out.drew hb;refine aa _ _ (ai.out _ fC.out) ?_;clear aa K' hb hv;refine zn rfl ?_;intro K' aa;go_simp;refine(yW G F _ _ _ (IX.out sR fC.out) (sa.out sR fC.out)).mono ?_;rintro e sf ⟨Ue,rfl,hv,hb⟩;have ay:=zH hv;have fB:Aq (Am v0.heap.size v0 sf):=Lc fC.out hb;have au:=zH (au.out.keep hb);refine aa _ _ (ai.out _ fB.out) ?_;clear aa K' hb hv;obtain⟨dmv1,PW,Od,rfl,K8⟩:=au.out;obtain⟨AI,pk,oY,rfl,oP⟩:=ay.out;refine zn rfl ?_;intro K' aa;unfold Fm.vs;go_simp;obtain⟨wL,mZ,dL,sj,ex⟩:=zm sf #[O U (fIf F G).h.op,O U (fIf F G).h.p,O U (fIf F G).h.o,O U (fIf F G).h.v,O U (fIf F G).h.g,.slice PW (fIf F G).args.length Od,O U (fIf G F).h.op,O U (fIf G F).h.p,O U (fIf G F).h.o,O U (fIf G F).h.v,O U (fIf G F).h.g,.slice pk (fIf G F).args.length oY] 32;rw[mZ]
 have an:∃D,FsAt wL wL.heap.size (D+1) (J ⟨sf.heap.size,0,Z⟩) [fIf F G,fIf G F]:=by
  refine uh dL fun i hi=>?_
  have h5:i=0\/i=1:=by have:i<2:=hi;omega
  rcases h5 with rfl | rfl
  . exact⟨dmv1,PW,Od,fun j v hv=>by rcases six (xR hv) with rfl | rfl | rfl | rfl | rfl | rfl<;>exact hv,yP K8 ex⟩
  exact⟨AI,pk,oY,fun j v hv=>by rcases six (xR hv) with rfl | rfl | rfl | rfl | rfl | rfl<;>exact hv,yP oP ex⟩
 obtain⟨DL,ni⟩:=an;have GL:Aq (Am v0.heap.size v0 wL):=Lc fB.out ex;have HC:=zH (oH.out [fIf F G,fIf G F] (by simp) AM.out wL GL.out (J ⟨sf.heap.size,0,Z⟩) 2 DL ni);refine aa _ _ (ai.out _ GL.out) ?_;clear aa K' mZ dL sj ex ni au ay K8 oP;refine zn rfl ?_;intro K' aa;go_simp;refine HC.out.mono ?_;rintro e wV ⟨rfl,hb⟩;have GV:=zH (Lc GL.out hb);refine aa _ _ (ai.out _ GV.out) ?_;clear aa K' hb HC;apply zj rfl
 . rintro K' aa X -
   go_simp;exact aa
 refine zy ?_;have cF:=zH (Lc HB.out GV.out);go_wp2_with fail;go_ret;exact⟨rfl,cF.out⟩
end
section
open Go.RowKit
def fTru:Fm:=.mk ⟨0,0,0,0,0⟩ []
theorem tru_vf{s:Sy}{out:List Int}{n:Nat}:Vf s out n 1 1 fTru (List.replicate (ptn s) Au):=by
 refine⟨0,⟨rfl,?_,Ld _,Ld _⟩,?_⟩
 . show vx n _ fTru=0
   have e:xt n fTru.h fTru.args.length=0:=by
    show xt n ⟨0,0,0,0,0⟩ 0=0;unfold xt;rw[Lg (by decide),Lg (by decide),Lg,Lg (by decide)];intro h;rcases h with h | h | h | h<;>exact absurd h.1 (by decide)
   unfold vx;rw[Lg (by rw[e];simp)]
   rfl
 show jl s out ⟨0,0,0,0,0⟩=_;rw[List.eq_replicate_iff];refine⟨uZ s out _,fun b hb=>?_⟩;unfold jl at hb;obtain⟨x,_,rfl⟩:=LZ.1 hb
 rfl
theorem uH(s:Sy):ptn s % (s.p.k.toNat+1)=0:=R8 _ _
theorem time_fwd{p:Pb}{T:Sy}{K N:Nat}(h:qd p=Au)(e:T=zO p)(hF:Fine T K N){q:Nat}(hq:q<N) :
  ∀i j,i+1<ptn T->j<ptn T->zY T.p.k.toNat i=Aw->(yt T q).getD j 0=(yt T q).getD (i+1) 0->∃k,j=k+1/\zY T.p.k.toNat k=Aw/\(yt T q).getD k 0=(yt T q).getD i 0:=by
 subst e;have hk:(zO p).p.k.toNat=K:=by rw[hF.k];exact Lo K
 rw[hk];exact time_rem h hF (YJ hF) hq rfl (by have:=uH (zO p);rw[hk] at this;exact this)
end
section
open Go.RowKit Go.Shelf
attribute [local go_sem] Oper.semAt_some
def jL(b:Nat)(g:GA):Nat->Ar
 | 0=>Aj (J ⟨b,0,Z⟩)
 | 1=>g.v 1
 | 2=>Aj (J ⟨b,6,Z⟩)
 | 3=>g.v 3
 | 4=>Aj (J ⟨g.b 4,0,Z⟩)
 | 5=>Aj (J ⟨g.b 5,0,Z⟩)
 | _=>undef
theorem uw(b:Nat){g g':GA}(j:Nat)(h1:g'.v j=g.v j)(h2:g'.b j=g.b j):jL b g' j=jL b g j:=by
 unfold jL
 split<;>first | rfl | rw[h1] | rw[h2]
def qr(ov fv:Ar)(g:GA):Nat->Ar
 | 0=>ov
 | 1=>fv
 | 2=>g.v 2
 | 3=>ov
 | 4=>fv
 | 5=>g.v 5
 | 6=>Aj (J ⟨g.b 6,0,Z⟩)
 | 7=>Aj (J ⟨g.b 7,0,Z⟩)
 | _=>undef
theorem ve(ov fv:Ar){g g':GA}(j:Nat)(h1:g'.v j=g.v j)(h2:g'.b j=g.b j):qr ov fv g' j=qr ov fv g j:=by
 unfold qr
 split<;>first | rfl | rw[h1] | rw[h2]
theorem JA.box{v0 W:Ba}{Cs:List (Nat×Fm)}{As:List (Nat×Nat×Nat)}{l:Nat->Bool}{g:GA}(h:JA v0 Cs As l g W){x:Nat×Nat×Nat}(hx:x∈As){F:Fm}(hc:(x.2.1,F)∈Cs)(h1:l x.1=Au)(h2:l x.2.1=Au)(h3:l x.2.2=Au) :
  ∃(A:Bb) (c d:Nat),W.heap[g.b x.1]?=J (Ag (F.vs A c) 32 (0,0))/\FsS W (fun _=>True) d A F.args/\v0.heap.size<=g.b x.1/\g.b x.1<W.heap.size:=by
 obtain⟨b1,b2,-,b3⟩:=h.blk x hx h1;obtain⟨vs,e1,e2⟩:=b3 h3;obtain⟨d,A,c,e3,hf⟩:=h.val _ hc h2;have e:vs=F.vs A c:=Value.agg.inj (e1.symm.trans e3);rw[e] at e2;exact⟨A,c,d,e2,hf.keep (Ld _) fun _ _ _=>⟨trivial,rfl⟩,b1,b2⟩
theorem QX(p:Pb)(hl:Zq p)(A SV AF AG:Bb)(kc ks cf cg df dg:Nat)(f y:Fm)(n:Nat)(hn:n<256)(w:Ba)(hA:CAt w w.heap.size A p.t.cases)(hS:SAt w w.heap.size SV p.a.sts)(hF:FsAt w w.heap.size df AF f.args)(hG:FsAt w w.heap.size dg AG y.args) :
  An Al 5 #[.agg (p.vs A kc SV ks),Ai #[O U f.h.op,O U f.h.p,O U f.h.o,O U f.h.v,O U f.h.g,I AF f.args.length cf,O U y.h.op,O U y.h.p,O U y.h.o,O U y.h.v,O U y.h.g,I AG y.args.length cg],.int .u8 (n:Int)] w fun e w'=>e=Ak (Ah Au)/\Am w.heap.size w w':=by
 obtain⟨wa,ec,da,ie,mc⟩:=zm w (p.vs A kc SV ks) 29;obtain⟨wb,fj,db,fM,iH⟩:=zm wa #[O U f.h.op,O U f.h.p,O U f.h.o,O U f.h.v,O U f.h.g,I AF f.args.length cf,O U y.h.op,O U y.h.p,O U y.h.o,O U y.h.v,O U y.h.g,I AG y.args.length cg] 54;obtain⟨w3,cO,dc,oA,fz⟩:=zm wb #[.int .u8 (n:Int)] 5;have hB:Am w.heap.size w w3:=(mc.trans (iH.mono (by omega))).trans (fz.mono (by omega));have da:=Lb fz (by omega) (Lb iH (by omega) da);rw[ie] at db fM;have db:=Lb fz (by omega) db;rw[fM] at dc oA;have nX:Aq (∀X,Am w3.heap.size w3 X->CAt X X.heap.size A p.t.cases/\SAt X X.heap.size SV p.a.sts):=fun X hX=>⟨(((hA.keep hB).more hB.size).keep hX).more hX.size,(((hS.keep hB).more hB.size).keep hX).more hX.size⟩
 have cd:Aq (FmA w3 f (Ai #[O U f.h.op,O U f.h.p,O U f.h.o,O U f.h.v,O U f.h.g,I AF f.args.length cf])):=FmA.of ((hF.keep hB).more hB.size);have HYX:Aq (FmA w3 y (Ai #[O U y.h.op,O U y.h.p,O U y.h.o,O U y.h.v,O U y.h.g,I AG y.args.length cg])):=FmA.of ((hG.keep hB).more hB.size);have aY:Aq (∀X,Am w3.heap.size w3 X->X.heap[w.heap.size]?=J (Ag (p.vs A kc SV ks) 29 (0,0))/\X.heap[w.heap.size+1]?=J (Ag #[O U f.h.op,O U f.h.p,O U f.h.o,O U f.h.v,O U f.h.g,I AF f.args.length cf,O U y.h.op,O U y.h.p,O U y.h.o,O U y.h.v,O U y.h.g,I AG y.args.length cg] 54 (0,0))/\X.heap[w.heap.size+1+1]?=J (Ag #[.int .u8 (n:Int)] 5 (0,0))):=fun X hX=>⟨Lb hX (by omega) da,Lb hX (by omega) db,Lb hX (by omega) dc⟩
 have fm:=zH (fun (X:Ba) (AL:Bb) (D:Nat) (hX:Am w3.heap.size w3 X) (hL:FsAt X X.heap.size (D+1) AL [f,y])=>kI p hl A SV AL kc ks 2 D [f,y] (by simp) X (nX.out X hX).1 (nX.out X hX).2 hL);have IU:=zH hl;have HZ:=zH oA;unfold Pb.vs at ec aY fm ⊢;have o8:=zH ec;have o7:=zH fj;have o5:=zH cO;have HB:=zH hB;clear ec fj cO da db dc ie fM mc iH fz hB hA hS hF hG hl;go_enter func5,ntmps5;go_upto_region 1 with fail
 rw[o8.out,o7.out,o5.out];go_wp2_with fail;refine(jN w3).mono ?_;rintro e w4 ⟨rfl,aP⟩;have G4:=zH aP;have E4:Aq (∀X,Am w4.heap.size w4 X->X.heap[w.heap.size+1]?=J (Ag #[O U f.h.op,O U f.h.p,O U f.h.o,O U f.h.v,O U f.h.g,I AF f.args.length cf,O U y.h.op,O U y.h.p,O U y.h.o,O U y.h.v,O U y.h.g,I AG y.args.length cg] 54 (0,0))):=fun X hX=>(aY.out X (Lc G4.out hX)).2.1
 have rA:Aq (∀X,Am w4.heap.size w4 X->∀S:Nat->Prop,(∀k,k<w4.heap.size->S k)->FmX X S f (Ai #[O U f.h.op,O U f.h.p,O U f.h.o,O U f.h.v,O U f.h.g,I AF f.args.length cf])):=fun X hX S hS=>FmX.keep (FmA.keep cd.out G4.out) hX.size fun k hk _=>⟨hS k hk,hX.block k hk⟩
 have HYS:Aq (∀X,Am w4.heap.size w4 X->∀S:Nat->Prop,(∀k,k<w4.heap.size->S k)->FmX X S y (Ai #[O U y.h.op,O U y.h.p,O U y.h.o,O U y.h.v,O U y.h.g,I AG y.args.length cg])):=fun X hX S hS=>FmX.keep (FmA.keep HYX.out G4.out) hX.size fun k hk _=>⟨hS k hk,hX.block k hk⟩
 have Gv:Aq (Am w4.heap.size w4 w4):=Li _ _;clear aP cd HYX;go_upto_region 3 with fail
 refine kH (by kernel_rfl) (jL (w.heap.size+1)) (JA w4 [(1,f),(3,y)] [(4,1,6),(5,3,7)]) (by kernel_rfl) ⟨fun _=>undef,fun _=>0⟩ (JA.start Gv.out.drew) ?_ ?_
 . refine⟨?_,?_,?_,?_,?_,?_,?_,?_,trivial⟩
   . intro l g W a hJ cy aZ aG
     have e4:(a.tmps[4]?).getD undef=Aj (J ⟨w.heap.size+1,0,Z⟩):=aG.oldD 4 rfl;refine ye rfl fun K hK=>?_
     go_simp;exact hK g _ _ rfl (fun _ _=>rfl) (hJ.idle (i:=0) rfl rfl)
   . intro l g W a hJ cy aZ aG
     have l0:=aZ ⟨0,.data⟩ (by simp) rfl;have e21:=aG.newD 0 21 rfl l0 (by show 21<119;decide);simp only[jL] at e21;have ce:=E4.out W hJ.low;obtain⟨x0,x1,x2,x3,x4,x5,x6,x7,x8,x9,x10,x11,_⟩:=Kj (ce);refine ye rfl fun K hK=>?_
     go_simp;exact hK { g with v:=fun j=>if j=1 then Ai #[O U f.h.op,O U f.h.p,O U f.h.o,O U f.h.v,O U f.h.g,I AF f.args.length cf] else g.v j } _ _ rfl (fun j hj=>uw (w.heap.size+1) j (Lg (fun e=>by rw[e,cy] at hj;cases hj)) rfl) (hJ.call (F:=f) rfl cy (fun c hc e=>by simp only[List.mem_cons,List.not_mem_nil,or_false] at hc;rcases hc with rfl | rfl<;>first | rfl | (simp at e)) rfl (rA.out W hJ.low (fun k=>kK [(4,1,6),(5,3,7)] l g k\/W.heap.size<=k) (fun k hk=>.inl fun x hx hl=>by have:=(hJ.blk x hx hl).1;omega)) (Li _ _))
   . intro l g W a hJ cy aZ aG
     have e4:(a.tmps[4]?).getD undef=Aj (J ⟨w.heap.size+1,0,Z⟩):=aG.oldD 4 rfl;refine ye rfl fun K hK=>?_
     go_simp;exact hK g _ _ rfl (fun _ _=>rfl) (hJ.idle (i:=2) rfl rfl)
   . intro l g W a hJ cy aZ aG
     have l2:=aZ ⟨2,.data⟩ (by simp) rfl;have e23:=aG.newD 2 23 rfl l2 (by show 23<119;decide);simp only[jL] at e23;have ce:=E4.out W hJ.low;obtain⟨x0,x1,x2,x3,x4,x5,x6,x7,x8,x9,x10,x11,_⟩:=Kj (ce);refine ye rfl fun K hK=>?_
     go_simp;exact hK { g with v:=fun j=>if j=3 then Ai #[O U y.h.op,O U y.h.p,O U y.h.o,O U y.h.v,O U y.h.g,I AG y.args.length cg] else g.v j } _ _ rfl (fun j hj=>uw (w.heap.size+1) j (Lg (fun e=>by rw[e,cy] at hj;cases hj)) rfl) (hJ.call (F:=y) rfl cy (fun c hc e=>by simp only[List.mem_cons,List.not_mem_nil,or_false] at hc;rcases hc with rfl | rfl<;>first | rfl | (simp at e)) rfl (HYS.out W hJ.low (fun k=>kK [(4,1,6),(5,3,7)] l g k\/W.heap.size<=k) (fun k hk=>.inl fun x hx hl=>by have:=(hJ.blk x hx hl).1;omega)) (Li _ _))
   . intro l g W a hJ cy aZ aG
     refine ye rfl fun K hK=>?_
     go_simp;exact hK { g with b:=fun j=>if j=4 then W.heap.size else g.b j } _ _ rfl (fun j hj=>uw (w.heap.size+1) j rfl (Lg (fun e=>by rw[e,cy] at hj;cases hj))) (hJ.alloc (x0:=(4,1,6)) rfl cy (by simp) rfl (zx _ _) (zU _ _))
   . intro l g W a hJ cy aZ aG
     refine ye rfl fun K hK=>?_
     go_simp;exact hK { g with b:=fun j=>if j=5 then W.heap.size else g.b j } _ _ rfl (fun j hj=>uw (w.heap.size+1) j rfl (Lg (fun e=>by rw[e,cy] at hj;cases hj))) (hJ.alloc (x0:=(5,3,7)) rfl cy (by simp) rfl (zx _ _) (zU _ _))
   . intro l g W a hJ cy aZ aG
     have l4:=aZ ⟨4,.data⟩ (by simp) rfl;have e7:=aG.newD 4 7 rfl l4 (by show 7<119;decide);simp only[jL] at e7;have l1:=aZ ⟨1,.data⟩ (by simp) rfl;have e22:=aG.newD 1 22 rfl l1 (by show 22<119;decide);simp only[jL] at e22;obtain⟨dv,Av,cv,ev,_⟩:=hJ.val (1,f) (by simp) l1;dsimp only at ev;have hz:=(hJ.blk (4,1,6) (by simp) l4).2.2.1 cy;dsimp only at hz;unfold z6A at hz;obtain⟨r0,r1,r2,r3,r4,r5,_⟩:=Ki (hz);have y0:=zi hz 0;have y1:=zi hz 1;have y2:=zi hz 2;have y3:=zi hz 3;have y4:=zi hz 4;have y5:=zi hz 5;rw[ev] at e22;unfold Fm.vs at e22;refine ye rfl fun K hK=>?_
     go_simp;obtain⟨wS,Ci,CV,CU,CT,CS⟩:=xU hz (O U f.h.op) (O U f.h.p) (O U f.h.o) (O U f.h.v) (O U f.h.g) (I Av f.args.length cv);rw[Ci];exact hK g _ _ rfl (fun _ _=>rfl) (hJ.store (x0:=(4,1,6)) rfl cy (by simp) rfl l4 l1 ev CV CU CT CS)
   intro l g W a hJ cy aZ aG;have l5:=aZ ⟨5,.data⟩ (by simp) rfl;have e8:=aG.newD 5 8 rfl l5 (by show 8<119;decide);simp only[jL] at e8;have l3:=aZ ⟨3,.data⟩ (by simp) rfl;have Z':=aG.newD 3 24 rfl l3 (by show 24<119;decide);simp only[jL] at Z';obtain⟨dv,Av,cv,ev,_⟩:=hJ.val (3,y) (by simp) l3;dsimp only at ev;have hz:=(hJ.blk (5,3,7) (by simp) l5).2.2.1 cy;dsimp only at hz;unfold z6A at hz;obtain⟨r0,r1,r2,r3,r4,r5,_⟩:=Ki (hz);have y0:=zi hz 0;have y1:=zi hz 1;have y2:=zi hz 2;have y3:=zi hz 3;have y4:=zi hz 4;have y5:=zi hz 5;rw[ev] at Z';unfold Fm.vs at Z';refine ye rfl fun K hK=>?_
   go_simp;obtain⟨wS,Ci,CV,CU,CT,CS⟩:=xU hz (O U y.h.op) (O U y.h.p) (O U y.h.o) (O U y.h.v) (O U y.h.g) (I Av y.args.length cv);rw[Ci];exact hK g _ _ rfl (fun _ _=>rfl) (hJ.store (x0:=(5,3,7)) rfl cy (by simp) rfl l5 l3 ev CV CU CT CS)
 intro l g W ax hJ;rw[jD (D:=[J 21,J 22,J 23,J 24,J 7,J 8,Z,Z]) rfl];simp only[jw,wG,jL];obtain⟨A7,c7,d7,H9,VJ,UW,FY⟩:=hJ.box (x:=(4,1,6)) (F:=f) (by simp) (by simp) (ax 4 (by decide)) (ax 1 (by decide)) (ax 6 (by decide));obtain⟨A8,c8,d8,H8,VI,UV,Mb⟩:=hJ.box (x:=(5,3,7)) (F:=y) (by simp) (by simp) (ax 5 (by decide)) (ax 3 (by decide)) (ax 7 (by decide));have lq:=hJ.low;dsimp only at H9 UW FY H8 UV Mb;unfold Fm.vs at H9 H8;obtain⟨b7,dk⟩:=Kk (g.b 4);obtain⟨b8,du⟩:=Kk (g.b 5);rw[dk] at H9 FY UW ⊢;rw[du] at H8 Mb UV ⊢;obtain⟨V1,hV1⟩:=Kk (g.v 1);obtain⟨V3,Ec⟩:=Kk (g.v 3);rw[hV1,Ec];clear hJ ax dk du hV1 Ec;obtain⟨W3,rfl⟩:∃x,x=W:=⟨_,rfl⟩;have G3:=zH (Lc G4.out lq);obtain⟨D0,_,_⟩:=aY.out _ G3.out;obtain⟨w5,eU,d5,cZ,aj⟩:=zm W3 #[O U f.h.op,O U f.h.p,O U f.h.o,O U f.h.v,O U f.h.g,I A7 f.args.length c7,O U y.h.op,O U y.h.p,O U y.h.o,O U y.h.v,O U y.h.g,I A8 y.args.length c8] 32;have lT:Aq (∀X,Am W3.heap.size W3 X->FmA X f (Ai #[O U f.h.op,O U f.h.p,O U f.h.o,O U f.h.v,O U f.h.g,I A7 f.args.length c7])):=fun X hX=>FmX.keep (S:=fun _=>True) ⟨d7,A7,c7,rfl,VJ⟩ hX.size fun k hk _=>⟨trivial,hX.block k hk⟩
 have C0:Aq (∀X,Am W3.heap.size W3 X->FmA X y (Ai #[O U y.h.op,O U y.h.p,O U y.h.o,O U y.h.v,O U y.h.g,I A8 y.args.length c8])):=fun X hX=>FmX.keep (S:=fun _=>True) ⟨d8,A8,c8,rfl,VI⟩ hX.size fun k hk _=>⟨trivial,hX.block k hk⟩
 have sN:Aq (∀X,Am W3.heap.size W3 X->X.heap[b7]?=J (Ag #[O U f.h.op,O U f.h.p,O U f.h.o,O U f.h.v,O U f.h.g,I A7 f.args.length c7] 32 (0,0))/\X.heap[b8]?=J (Ag #[O U y.h.op,O U y.h.p,O U y.h.o,O U y.h.v,O U y.h.g,I A8 y.args.length c8] 32 (0,0))/\X.heap[w.heap.size+1+1]?=J (Ag #[.int .u8 (n:Int)] 5 (0,0))):=fun X hX=>⟨Lb hX FY H9,Lb hX Mb H8,(aY.out X (Lc G3.out hX)).2.2⟩
 have G5:=zH (Lc G3.out aj);obtain⟨D,hD⟩:=Yw (S:=fun _=>True) d5 trivial (VJ.keep aj.size fun k hk _=>⟨trivial,aj.block k hk⟩) (VI.keep aj.size fun k hk _=>⟨trivial,aj.block k hk⟩);have HC:=zH (fm.out w5 (J ⟨W3.heap.size,0,Z⟩) D G5.out hD.at_.deep);have lC:=zH eU;unfold RetTry at HC;obtain⟨p0,p1,p2,p3,p4,p5,p6,_⟩:=Kg (D0);obtain⟨q0,q1,q2,q3,q4,q5,_⟩:=Ki (H9);obtain⟨r0,r1,r2,r3,r4,r5,_⟩:=Ki (H8);have HB35:=zH aj;clear eU d5 cZ aj hD D0 fm nX H9 H8 VJ VI lq UW UV FY Mb;go_simp;go_wp2_with fail;rw[lC.out];refine HC.out.mono ?_;rintro e w6 ⟨T,AC,dw,AV,AX,dn,dm,kv,kx,b,rfl,dj,dp⟩;have G6:=zH (Lc HB35.out dj);have nn:=zH dp;have GW:=zH (Lc G3.out G6.out);clear dj dp HC p0 p1 p2 p3 p4 p5 p6 q0 q1 q2 q3 q4 q5 r0 r1 r2 r3 r4 r5;obtain⟨w7,lW,d7,fq,dk⟩:=zm w6 (T.vs_ AC dn dw dm AV kv AX kx) 39;have G7:=zH (Lc G6.out dk)
 cases b with
 | false=>
  have cF:=zH (HB.out.trans ((Lc GW.out dk).mono HB.out.size));unfold Sy.vs_ at lW ⊢;have o9:=zH lW;clear lW d7 fq dk nn aY sN lT C0 rA HYS;go_upto_region 5 with fail
  rw[o9.out];go_wp2_with fail;go_ret;exact⟨rfl,cF.out⟩
 | true=>
 obtain⟨hr,Ed,re,rO⟩:=nn.out rfl;obtain⟨K,N,lM,y',Gu,lJ⟩:=XK IU.out hr;rw[<-Ed] at lM y' Gu;have iq:=(rO f (by simp)).vf (s:=T) lJ;have UF:=(rO y (by simp)).vf (s:=T) lJ;obtain⟨AA,El⟩:=Kk (xn T [] D f);obtain⟨AB,M6⟩:=Kk (xn T [] D y);rw[El] at iq;rw[M6] at UF;have dG:=lM.fine.n1;have lp:=lM.fine.n5;have z':=lM.fine.n;obtain⟨r,oB⟩:=Kk (n % N);have eh:r<N:=by rw[<-oB];exact Pv _ (by omega)
 have mI:Aq (Vald T [] N (fIf (f1 15 0 0 f) (yx f (fOr (yc (f1 14 0 0 fTru)) (f1 14 0 0 (f1 15 0 0 f)))))/\Vald T [] N (fIf (yx f (fOr (yc (f1 14 0 0 fTru)) (f1 14 0 0 (f1 15 0 0 f)))) (f1 15 0 0 f))):=top_ever iq (uH T) tru_vf;have fJ:Aq (Vald T [] N (fIf (f1 16 0 0 f) (fOr f (f1 14 0 0 (f1 16 0 0 f))))/\Vald T [] N (fIf (fOr f (f1 14 0 0 (f1 16 0 0 f))) (f1 16 0 0 f))):=top_once iq (uH T);have rU:Aq (Vald T [] N (fIf (f2 17 f y) (fOr y (yx f (f1 14 0 0 (f2 17 f y)))))/\Vald T [] N (fIf (fOr y (yx f (f1 14 0 0 (f2 17 f y)))) (f2 17 f y))):=top_until iq UF (uH T);have rn:Aq (Vald T [] N (fIf (yc (f1 15 0 0 f)) (f1 16 0 0 (yc f)))/\Vald T [] N (fIf (f1 16 0 0 (yc f)) (yc (f1 15 0 0 f)))):=XJ iq
 have HV5:Aq (∀x∈[fIf (f1 10 (r:Int) 0 (f1 14 0 0 f)) (f1 14 0 0 (f1 10 (r:Int) 0 f)),fIf (f1 10 (r:Int) 0 (f1 15 0 0 f)) (f1 15 0 0 (f1 10 (r:Int) 0 f))],Vald T [] N x):=fun x hx=>by
  have h5:=top_time1 iq eh (uH T) (time_fwd hr Gu lM.fine eh);simp only[List.mem_cons,List.not_mem_nil,or_false] at hx;rcases hx with rfl | rfl
  . exact h5.1
  . exact h5.2
 obtain⟨w8,Dw,d11,nc,du⟩:=zm w7 #[.func (.func 19) #[] #[]] 55;rw[fq] at d11;have G8:=zH (Lc G7.out du);have h68:Am w6.heap.size w6 w8:=dk.trans (du.mono (by omega));have pD:=zH (fun (X:Ba) (hX:Am w8.heap.size w8 X)=>(re.up h68).up hX);have d7x:=Lb du (by omega) d7;have nt:Aq (∀X,Am w8.heap.size w8 X->X.heap[w6.heap.size]?=J (Ag (T.vs_ AC dn dw dm AV kv AX kx) 39 (0,0))/\X.heap[w6.heap.size+1]?=J (Ag #[.func (.func 19) #[] #[]] 55 (0,0))):=fun X hX=>⟨Lb hX (by omega) d7x,Lb hX (by omega) d11⟩
 have oH:=zH (fun (l:List Fm) (aN:l.length<=1000) (hv:∀x∈l,Vald T [] N x) (X:Ba) (hX:Am w8.heap.size w8 X) (AL:Bb) (cl d:Nat) (hL:FsAt X X.heap.size (d+1) AL l)=>qO T K N lM AC dw AV AX AL dn dm kv kx cl d l aN hv X (pD.out X hX) hL);have IQ:=zH (fun (F G:Fm) (v u:Ar) (X:Ba) (hX:Am w8.heap.size w8 X) (hF:FmA X F v) (hG:FmA X G u) (h1:Vald T [] N (fIf F G)) (h2:Vald T [] N (fIf G F))=>Qq T K N lM AC dw AV AX dn dm kv kx F G v u w6.heap.size X (pD.out X hX) (nt.out X hX).1 hF hG h1 h2)
 have BM:Aq (∀X,Am w8.heap.size w8 X->∀(F:Fm) (v:Ar),FmA X F v->An Al 21 #[v,Aj (J ⟨w.heap.size+1+1,0,Z⟩),Aj (J ⟨w6.heap.size,0,Z⟩)] X (kG (f1 10 (r:Int) 0 F) X)):=fun X hX F v hF=>by
  have h7:=zh (nt.out X hX).1 7 rfl;have h8:X.cell? ⟨w6.heap.size,7,Z⟩=J (O U (N:Int)):=by rw[<-z'];exact h7
  exact(topKnt_S n N r hn ⟨dG,lp⟩ oB (w.heap.size+1+1) w6.heap.size F v X (zh (sN.out X (Lc G8.out hX)).2.2 0 rfl) h8 _ hF).mono fun _ _ h=>h.all
 have rr:Aq (∀X,Am w8.heap.size w8 X->X.cell? ⟨w6.heap.size+1,0,Z⟩=J (.func (.func 19) #[] #[])):=fun X hX=>zh (nt.out X hX).2 0 rfl
 have E7:Aq (∀X,Am w8.heap.size w8 X->X.heap[b7]?=J (Ag #[O U f.h.op,O U f.h.p,O U f.h.o,O U f.h.v,O U f.h.g,I A7 f.args.length c7] 32 (0,0))):=fun X hX=>(sN.out X (Lc G8.out hX)).1
 have E8:Aq (∀X,Am w8.heap.size w8 X->X.heap[b8]?=J (Ag #[O U y.h.op,O U y.h.p,O U y.h.o,O U y.h.v,O U y.h.g,I A8 y.args.length c8] 32 (0,0))):=fun X hX=>(sN.out X (Lc G8.out hX)).2.1
 have Ht:Aq (∀X,Am w8.heap.size w8 X->X.heap[w6.heap.size+1]?=J (Ag #[.func (.func 19) #[] #[]] 55 (0,0))):=fun X hX=>(nt.out X hX).2
 have lT:=zH (fun (X:Ba) (hX:Am w8.heap.size w8 X)=>lT.out X (Lc G8.out hX));have C0:=zH (fun (X:Ba) (hX:Am w8.heap.size w8 X)=>C0.out X (Lc G8.out hX));have G08:Aq (Am w.heap.size w w8):=HB.out.trans ((Lc G3.out G8.out).mono HB.out.size);have HNC:=zH (qT (w6.heap.size+1) fTru (Ai #[O U 0,O U 0,O U 0,O U 0,O U 0,I Z 0 0]) w8 (rr.out w8 (Li _ _)) (fun _=>True) ⟨0,Z,0,rfl,rfl⟩);unfold Sy.vs_ at lW nt oH ⊢;have E9:Aq (∀X,Am w8.heap.size w8 X->X.heap[w6.heap.size]?=J (Ag #[O U T.p.t.n,O U T.p.t.ins,O U T.p.t.outs,I AC T.p.t.cases.length dn,O U T.p.a.n,I dw T.p.a.sts.length dm,O U T.p.k,O U T.n,I AV T.vs.length kv,I AX T.xs.length kx] 39 (0,0))):=fun X hX=>(nt.out X hX).1
 have o9:=zH lW;have GR:=zH Dw;clear lW Dw d7 d7x d11 fq nc dk du h68 nn aY sN hr Ed re rO lM y' Gu lJ iq UF El M6 z' dG lp oB eh nt hn rA HYS IU G4 Gv E4 HZ;unfold RetFm at HNC;go_upto_region 8 with fail
 rw[o9.out,GR.out];go_upto_region 9 with fail
 go_wp2_with fail;refine HNC.out.mono ?_;rintro e w9 ⟨v9,rfl,Dz,ey⟩;have HT9:=zH (jq _ _ _ Dz.all);have G9:=zH ey;clear Dz ey HNC;unfold kG at HT9;go_wp2_with fail;refine HT9.out.mono ?_;rintro e fD ⟨T4,rfl,UJ,de⟩;obtain⟨dL,AL,cL,rfl,VG⟩:=UJ;obtain⟨LA,hLA⟩:=Kk ((yc (f1 14 0 0 fTru)));rw[hLA] at VG mI ⊢;have I8:=zH (Lc G9.out de);obtain⟨io,Fy,d13,FI,Gr⟩:=zm fD (LA.vs AL cL) 32;have TZ:=zH (Lc I8.out Gr);have iK:Aq (∀X,Am io.heap.size io X->FmA X LA (.agg (LA.vs AL cL))):=fun X hX=>(FmA.keep (FmX.all ⟨dL,AL,cL,rfl,VG⟩) Gr).keep hX
 unfold Fm.vs at Fy d13 iK ⊢;have E13:Aq (∀X,Am io.heap.size io X->X.heap[fD.heap.size]?=J (Ag #[O U LA.h.op,O U LA.h.p,O U LA.h.o,O U LA.h.v,O U LA.h.g,I AL LA.args.length cL] 32 (0,0))):=fun X hX=>Lb hX (by omega) d13
 have C2:=zH Fy;clear Fy d13 FI de Gr VG HT9 hLA;have eP:∀X,Am io.heap.size io X->Am w8.heap.size w8 X:=fun X hX=>Lc TZ.out hX
 have E7:=zH (fun (X:Ba) (hX:Am io.heap.size io X)=>E7.out X (eP X hX));have E8:=zH (fun (X:Ba) (hX:Am io.heap.size io X)=>E8.out X (eP X hX));have E9:=zH (fun (X:Ba) (hX:Am io.heap.size io X)=>E9.out X (eP X hX));have Ht:=zH (fun (X:Ba) (hX:Am io.heap.size io X)=>Ht.out X (eP X hX));have lT:=zH (fun (X:Ba) (hX:Am io.heap.size io X)=>lT.out X (eP X hX));have C0:=zH (fun (X:Ba) (hX:Am io.heap.size io X)=>C0.out X (eP X hX));have rA:Aq (∀X,Am io.heap.size io X->∀S:Nat->Prop,(∀k,k<io.heap.size->S k)->FmX X S f (Ai #[O U f.h.op,O U f.h.p,O U f.h.o,O U f.h.v,O U f.h.g,I A7 f.args.length c7])):=fun X hX S hS=>FmX.keep (lT.out io (Li _ _)) hX.size fun k hk _=>⟨hS k hk,hX.block k hk⟩
 have Gv:Aq (Am io.heap.size io io):=Li _ _;clear eP;go_upto_region 10 with fail
 rw[C2.out];go_upto_region 11 with fail
 refine kH (by kernel_rfl) (qr (.func (.func 19) #[] #[]) (Ai #[O U f.h.op,O U f.h.p,O U f.h.o,O U f.h.v,O U f.h.g,I A7 f.args.length c7])) (JA io [(2,f1 15 0 0 f),(5,f1 16 0 0 f)] [(6,2,8),(7,5,9)]) (by kernel_rfl) ⟨fun _=>undef,fun _=>0⟩ (JA.start Gv.out.drew) ?_ ?_
 . refine⟨?_,?_,?_,?_,?_,?_,?_,?_,?_,?_,trivial⟩
   . intro l g W a hJ cy aZ aG
     have BF:(a.tmps[11]?).getD undef=Aj (J ⟨w6.heap.size+1,0,Z⟩):=aG.oldD 11 rfl;have ce:=Ht.out W hJ.low;have x0:=zh (ce) 0 rfl;refine ye rfl fun K hK=>?_
     go_simp;exact hK g _ _ rfl (fun _ _=>rfl) (hJ.idle (i:=0) rfl rfl)
   . intro l g W a hJ cy aZ aG
     have e7:(a.tmps[7]?).getD undef=Aj (J ⟨b7,0,Z⟩):=aG.oldD 7 rfl;have ce:=E7.out W hJ.low;obtain⟨x0,x1,x2,x3,x4,x5,_⟩:=Ki (ce);refine ye rfl fun K hK=>?_
     go_simp;exact hK g _ _ rfl (fun _ _=>rfl) (hJ.idle (i:=1) rfl rfl)
   . intro l g W a hJ cy aZ aG
     have l0:=aZ ⟨0,.data⟩ (by simp) rfl;have Y':=aG.newD 0 41 rfl l0 (by show 41<119;decide);simp only[qr] at Y';have l1:=aZ ⟨1,.data⟩ (by simp) rfl;have WZ:=aG.newD 1 42 rfl l1 (by show 42<119;decide);simp only[qr] at WZ;refine ye rfl fun K hK=>?_
     go_simp;refine(jO 15 f _ W (kK [(6,2,8),(7,5,9)] l g) (rA.out W hJ.low (kK [(6,2,8),(7,5,9)] l g) (fun k hk x hx hl=>by have:=(hJ.blk x hx hl).1;omega))).mono ?_;rintro e w' ⟨v,rfl,hv,hb⟩;exact hK { g with v:=fun j=>if j=2 then v else g.v j } _ _ rfl (fun j hj=>ve (.func (.func 19) #[] #[]) (Ai #[O U f.h.op,O U f.h.p,O U f.h.o,O U f.h.v,O U f.h.g,I A7 f.args.length c7]) j (Lg (fun e=>by rw[e,cy] at hj;cases hj)) rfl) (hJ.call (F:=f1 15 0 0 f) rfl cy (fun c hc e=>by simp only[List.mem_cons,List.not_mem_nil,or_false] at hc;rcases hc with rfl | rfl<;>first | rfl | (simp at e)) rfl hv hb)
   . intro l g W a hJ cy aZ aG
     have BF:(a.tmps[11]?).getD undef=Aj (J ⟨w6.heap.size+1,0,Z⟩):=aG.oldD 11 rfl;have ce:=Ht.out W hJ.low;have x0:=zh (ce) 0 rfl;refine ye rfl fun K hK=>?_
     go_simp;exact hK g _ _ rfl (fun _ _=>rfl) (hJ.idle (i:=3) rfl rfl)
   . intro l g W a hJ cy aZ aG
     have e7:(a.tmps[7]?).getD undef=Aj (J ⟨b7,0,Z⟩):=aG.oldD 7 rfl;have ce:=E7.out W hJ.low;obtain⟨x0,x1,x2,x3,x4,x5,_⟩:=Ki (ce);refine ye rfl fun K hK=>?_
     go_simp;exact hK g _ _ rfl (fun _ _=>rfl) (hJ.idle (i:=4) rfl rfl)
   . intro l g W a hJ cy aZ aG
     have l3:=aZ ⟨3,.data⟩ (by simp) rfl;have WY:=aG.newD 3 44 rfl l3 (by show 44<119;decide);simp only[qr] at WY;have l4:=aZ ⟨4,.data⟩ (by simp) rfl;have M':=aG.newD 4 45 rfl l4 (by show 45<119;decide);simp only[qr] at M';refine ye rfl fun K hK=>?_
     go_simp;refine(jO 16 f _ W (kK [(6,2,8),(7,5,9)] l g) (rA.out W hJ.low (kK [(6,2,8),(7,5,9)] l g) (fun k hk x hx hl=>by have:=(hJ.blk x hx hl).1;omega))).mono ?_;rintro e w' ⟨v,rfl,hv,hb⟩;exact hK { g with v:=fun j=>if j=5 then v else g.v j } _ _ rfl (fun j hj=>ve (.func (.func 19) #[] #[]) (Ai #[O U f.h.op,O U f.h.p,O U f.h.o,O U f.h.v,O U f.h.g,I A7 f.args.length c7]) j (Lg (fun e=>by rw[e,cy] at hj;cases hj)) rfl) (hJ.call (F:=f1 16 0 0 f) rfl cy (fun c hc e=>by simp only[List.mem_cons,List.not_mem_nil,or_false] at hc;rcases hc with rfl | rfl<;>first | rfl | (simp at e)) rfl hv hb)
   . intro l g W a hJ cy aZ aG
     refine ye rfl fun K hK=>?_
     go_simp;exact hK { g with b:=fun j=>if j=6 then W.heap.size else g.b j } _ _ rfl (fun j hj=>ve (.func (.func 19) #[] #[]) (Ai #[O U f.h.op,O U f.h.p,O U f.h.o,O U f.h.v,O U f.h.g,I A7 f.args.length c7]) j rfl (Lg (fun e=>by rw[e,cy] at hj;cases hj))) (hJ.alloc (x0:=(6,2,8)) rfl cy (by simp) rfl (zx _ _) (zU _ _))
   . intro l g W a hJ cy aZ aG
     refine ye rfl fun K hK=>?_
     go_simp;exact hK { g with b:=fun j=>if j=7 then W.heap.size else g.b j } _ _ rfl (fun j hj=>ve (.func (.func 19) #[] #[]) (Ai #[O U f.h.op,O U f.h.p,O U f.h.o,O U f.h.v,O U f.h.g,I A7 f.args.length c7]) j rfl (Lg (fun e=>by rw[e,cy] at hj;cases hj))) (hJ.alloc (x0:=(7,5,9)) rfl cy (by simp) rfl (zx _ _) (zU _ _))
   . intro l g W a hJ cy aZ aG
     have l6:=aZ ⟨6,.data⟩ (by simp) rfl;have En:=aG.newD 6 15 rfl l6 (by show 15<119;decide);simp only[qr] at En;have l2:=aZ ⟨2,.data⟩ (by simp) rfl;have Na:=aG.newD 2 43 rfl l2 (by show 43<119;decide);simp only[qr] at Na;obtain⟨dv,Av,cv,ev,_⟩:=hJ.val (2,f1 15 0 0 f) (by simp) l2;dsimp only at ev;have hz:=(hJ.blk (6,2,8) (by simp) l6).2.2.1 cy;dsimp only at hz;unfold z6A at hz;obtain⟨r0,r1,r2,r3,r4,r5,_⟩:=Ki (hz);have y0:=zi hz 0;have y1:=zi hz 1;have y2:=zi hz 2;have y3:=zi hz 3;have y4:=zi hz 4;have y5:=zi hz 5;rw[ev] at Na;unfold Fm.vs at Na;refine ye rfl fun K hK=>?_
     go_simp;obtain⟨wS,Ci,CV,CU,CT,CS⟩:=xU hz (O U (f1 15 0 0 f).h.op) (O U (f1 15 0 0 f).h.p) (O U (f1 15 0 0 f).h.o) (O U (f1 15 0 0 f).h.v) (O U (f1 15 0 0 f).h.g) (.slice Av (f1 15 0 0 f).args.length cv);rw[Ci];exact hK g _ _ rfl (fun _ _=>rfl) (hJ.store (x0:=(6,2,8)) rfl cy (by simp) rfl l6 l2 ev CV CU CT CS)
   intro l g W a hJ cy aZ aG;have l7:=aZ ⟨7,.data⟩ (by simp) rfl;have CX:=aG.newD 7 16 rfl l7 (by show 16<119;decide);simp only[qr] at CX;have l5:=aZ ⟨5,.data⟩ (by simp) rfl;have WX:=aG.newD 5 46 rfl l5 (by show 46<119;decide);simp only[qr] at WX;obtain⟨dv,Av,cv,ev,_⟩:=hJ.val (5,f1 16 0 0 f) (by simp) l5;dsimp only at ev;have hz:=(hJ.blk (7,5,9) (by simp) l7).2.2.1 cy;dsimp only at hz;unfold z6A at hz;obtain⟨r0,r1,r2,r3,r4,r5,_⟩:=Ki (hz);have y0:=zi hz 0;have y1:=zi hz 1;have y2:=zi hz 2;have y3:=zi hz 3;have y4:=zi hz 4;have y5:=zi hz 5;rw[ev] at WX;unfold Fm.vs at WX;refine ye rfl fun K hK=>?_
   go_simp;obtain⟨wS,Ci,CV,CU,CT,CS⟩:=xU hz (O U (f1 16 0 0 f).h.op) (O U (f1 16 0 0 f).h.p) (O U (f1 16 0 0 f).h.o) (O U (f1 16 0 0 f).h.v) (O U (f1 16 0 0 f).h.g) (.slice Av (f1 16 0 0 f).args.length cv);rw[Ci];exact hK g _ _ rfl (fun _ _=>rfl) (hJ.store (x0:=(7,5,9)) rfl cy (by simp) rfl l7 l5 ev CV CU CT CS)
 intro l g W ax hJ;rw[jD (D:=[J 41,J 42,J 43,J 44,J 45,J 46,J 15,J 16,Z,Z]) rfl];simp only[jw,wG,qr];obtain⟨RE,Og,d15,sh,Gh,FL,tS⟩:=hJ.box (x:=(6,2,8)) (F:=(f1 15 0 0 f)) (by simp) (by simp) (ax 6 (by decide)) (ax 2 (by decide)) (ax 8 (by decide));obtain⟨Rl,Of,d16,sg,Gg,FK,tR⟩:=hJ.box (x:=(7,5,9)) (F:=(f1 16 0 0 f)) (by simp) (by simp) (ax 7 (by decide)) (ax 5 (by decide)) (ax 9 (by decide));have lq:=hJ.low;dsimp only at sh FL tS sg FK tR;obtain⟨b15,My⟩:=Kk (g.b 6);obtain⟨b16,Mx⟩:=Kk (g.b 7);rw[My] at sh tS FL ⊢;rw[Mx] at sg tR FK ⊢;obtain⟨V2,hV2⟩:=Kk (g.v 2);obtain⟨V5,hV5⟩:=Kk (g.v 5);rw[hV2,hV5];clear hJ ax My Mx hV2 hV5;obtain⟨EV,hEV⟩:=Kk ((f1 15 0 0 f));obtain⟨ON,hON⟩:=Kk ((f1 16 0 0 f));rw[hEV] at sh Gh mI rn HV5;rw[hON] at sg Gg fJ;obtain⟨WE,rfl⟩:∃x,x=W:=⟨_,rfl⟩;have y7:=E7.out WE lq;have y8:=E8.out WE lq;obtain⟨w12,Kw,d12,KE,pZ⟩:=zm WE #[O U f.h.op,O U f.h.p,O U f.h.o,O U f.h.v,O U f.h.g,I A7 f.args.length c7,O U y.h.op,O U y.h.p,O U y.h.o,O U y.h.v,O U y.h.g,I A8 y.args.length c8] 32;obtain⟨aU,Kv,d17,UR,pY⟩:=zm w12 #[O U 17,O U 0,O U 0,O U 0,O U 0,I (J ⟨WE.heap.size,0,Z⟩) 2 2] 32;rw[KE] at d17;have dQ:Am WE.heap.size WE aU:=pZ.trans (pY.mono (by omega))
 have TY:=zH (Lc lq dQ)
 obtain⟨dA,hdA⟩:∃D,FsS aU (fun _=>True) D (J ⟨WE.heap.size,0,Z⟩) [f,y]:=by
  obtain⟨d1,A1,c1,e1,iE⟩:=lT.out aU TY.out;obtain⟨d2,A2,c2,e2,mD⟩:=C0.out aU TY.out
  cases e1
  cases e2
  exact Yw (Lb pY (by omega) d12) trivial iE mD
 have IN:Aq (∀X,Am aU.heap.size aU X->FmA X (f2 17 f y) (Ai #[O U 17,O U 0,O U 0,O U 0,O U 0,I (J ⟨WE.heap.size,0,Z⟩) 2 2])):=fun X hX=>FmX.keep (S:=fun _=>True) ⟨dA,J ⟨WE.heap.size,0,Z⟩,2,rfl,hdA⟩ hX.size fun k hk _=>⟨trivial,hX.block k hk⟩
 have eD:Aq (∀X,Am aU.heap.size aU X->FmA X EV (.agg (EV.vs RE Og))):=fun X hX=>FmA.keep (w:=aU) (FmX.keep (S:=fun _=>True) ⟨d15,RE,Og,rfl,Gh⟩ dQ.size fun k hk _=>⟨trivial,dQ.block k hk⟩) hX
 have pE:Aq (∀X,Am aU.heap.size aU X->FmA X ON (.agg (ON.vs Rl Of))):=fun X hX=>FmA.keep (w:=aU) (FmX.keep (S:=fun _=>True) ⟨d16,Rl,Of,rfl,Gg⟩ dQ.size fun k hk _=>⟨trivial,dQ.block k hk⟩) hX
 unfold Fm.vs at sh sg eD pE;have E15:Aq (∀X,Am aU.heap.size aU X->X.heap[b15]?=J (Ag #[O U EV.h.op,O U EV.h.p,O U EV.h.o,O U EV.h.v,O U EV.h.g,I RE EV.args.length Og] 32 (0,0))):=fun X hX=>Lb hX (LE tS dQ.size) (Lb dQ tS sh)
 have E16:Aq (∀X,Am aU.heap.size aU X->X.heap[b16]?=J (Ag #[O U ON.h.op,O U ON.h.p,O U ON.h.o,O U ON.h.v,O U ON.h.g,I Rl ON.args.length Of] 32 (0,0))):=fun X hX=>Lb hX (LE tR dQ.size) (Lb dQ tR sg)
 have E17:Aq (∀X,Am aU.heap.size aU X->X.heap[WE.heap.size+1]?=J (Ag #[O U 17,O U 0,O U 0,O U 0,O U 0,I (J ⟨WE.heap.size,0,Z⟩) 2 2] 32 (0,0))):=fun X hX=>Lb hX (by omega) d17
 have HW12:=zH Kw;have HW13:=zH Kv;have eP:∀X,Am aU.heap.size aU X->Am io.heap.size io X:=fun X hX=>Lc TY.out hX
 have tD:∀X,Am aU.heap.size aU X->Am w8.heap.size w8 X:=fun X hX=>TZ.out.trans ((eP X hX).mono TZ.out.size)
 have E7:=zH (fun (X:Ba) (hX:Am aU.heap.size aU X)=>E7.out X (eP X hX));have E8:=zH (fun (X:Ba) (hX:Am aU.heap.size aU X)=>E8.out X (eP X hX));have E9:=zH (fun (X:Ba) (hX:Am aU.heap.size aU X)=>E9.out X (eP X hX));have Ht:=zH (fun (X:Ba) (hX:Am aU.heap.size aU X)=>Ht.out X (eP X hX));have E13:=zH (fun (X:Ba) (hX:Am aU.heap.size aU X)=>E13.out X (eP X hX));have lT:=zH (fun (X:Ba) (hX:Am aU.heap.size aU X)=>lT.out X (eP X hX));have C0:=zH (fun (X:Ba) (hX:Am aU.heap.size aU X)=>C0.out X (eP X hX));have iK:=zH (fun (X:Ba) (hX:Am aU.heap.size aU X)=>iK.out X (eP X hX));have oH:=zH (fun (l:List Fm) (aN:l.length<=1000) (hv:∀x∈l,Vald T [] N x) (X:Ba) (hX:Am aU.heap.size aU X)=>oH.out l aN hv X (tD X hX));have IQ:=zH (fun (F G:Fm) (v u:Ar) (X:Ba) (hX:Am aU.heap.size aU X)=>IQ.out F G v u X (tD X hX));have BM:=zH (fun (X:Ba) (hX:Am aU.heap.size aU X)=>BM.out X (tD X hX));have rr:=zH (fun (X:Ba) (hX:Am aU.heap.size aU X)=>rr.out X (tD X hX));have G0:Aq (Am aU.heap.size aU aU):=Li _ _;have G013:Aq (Am w.heap.size w aU):=G08.out.trans ((Lc TZ.out TY.out).mono G08.out.size);obtain⟨x0,x1,x2,x3,x4,x5,_⟩:=Ki (y7);obtain⟨z0,z1,z2,z3,z4,z5,_⟩:=Ki (y8);clear Kw Kv d12 d17 KE UR pZ pY dQ hdA sh sg Gh Gg FL FK tS tR lq eP tD y7 y8 rA Gv pD hEV hON;go_simp;go_upto_region 13 with fail
 rw[HW12.out,HW13.out];clear x0 z0 x1 z1 x2 z2 x3 z3 x4 z4 x5 z5;go_upto_region 14 with fail
 have ai:Aq (∀X,Am aU.heap.size aU X->X.heap[b15]?=J (Ag #[O U EV.h.op,O U EV.h.p,O U EV.h.o,O U EV.h.v,O U EV.h.g,I RE EV.args.length Og] 32 (0,0))/\X.heap[b7]?=J (Ag #[O U f.h.op,O U f.h.p,O U f.h.o,O U f.h.v,O U f.h.g,I A7 f.args.length c7] 32 (0,0))/\X.heap[fD.heap.size]?=J (Ag #[O U LA.h.op,O U LA.h.p,O U LA.h.o,O U LA.h.v,O U LA.h.g,I AL LA.args.length cL] 32 (0,0))/\X.heap[b16]?=J (Ag #[O U ON.h.op,O U ON.h.p,O U ON.h.o,O U ON.h.v,O U ON.h.g,I Rl ON.args.length Of] 32 (0,0))/\X.heap[WE.heap.size+1]?=J (Ag #[O U 17,O U 0,O U 0,O U 0,O U 0,I (J ⟨WE.heap.size,0,Z⟩) 2 2] 32 (0,0))/\X.heap[b8]?=J (Ag #[O U y.h.op,O U y.h.p,O U y.h.o,O U y.h.v,O U y.h.g,I A8 y.args.length c8] 32 (0,0))/\X.heap[w6.heap.size+1]?=J (Ag #[.func (.func 19) #[] #[]] 55 (0,0))/\X.heap[w6.heap.size]?=J (Ag #[O U T.p.t.n,O U T.p.t.ins,O U T.p.t.outs,I AC T.p.t.cases.length dn,O U T.p.a.n,I dw T.p.a.sts.length dm,O U T.p.k,O U T.n,I AV T.vs.length kv,I AX T.xs.length kx] 39 (0,0))):=fun X hX=>⟨E15.out X hX,E7.out X hX,E13.out X hX,E16.out X hX,E17.out X hX,E8.out X hX,Ht.out X hX,E9.out X hX⟩
 refine zt [(0,Au),(1,Au),(2,Au),(3,Au),(4,Au),(5,Au),(6,Aw),(7,Aw),(8,Aw),(9,Aw),(10,Au),(11,Au),(12,Au),(13,Au),(14,Au),(15,Au),(16,Aw),(17,Aw),(18,Aw),(19,Au),(20,Au),(21,Au),(22,Au),(23,Au),(24,Au),(25,Au),(26,Au),(27,Aw),(28,Aw),(29,Aw),(30,Aw),(31,Au),(32,Au),(33,Au),(34,Au),(36,Au),(37,Au),(35,Aw),(38,Aw),(39,Aw),(40,Aw),(41,Au),(42,Au),(43,Au),(44,Au),(45,Au),(46,Au),(49,Au),(50,Au),(51,Au),(55,Au),(56,Au),(58,Au),(59,Au),(60,Au),(47,Aw),(48,Aw),(52,Aw),(53,Aw),(54,Aw),(57,Aw),(61,Aw),(62,Aw),(63,Aw),(64,Aw),(65,Aw),(66,Au),(67,Au)] (fun X=>X.heap[b15]?=J (Ag #[O U EV.h.op,O U EV.h.p,O U EV.h.o,O U EV.h.v,O U EV.h.g,I RE EV.args.length Og] 32 (0,0))/\X.heap[b7]?=J (Ag #[O U f.h.op,O U f.h.p,O U f.h.o,O U f.h.v,O U f.h.g,I A7 f.args.length c7] 32 (0,0))/\X.heap[fD.heap.size]?=J (Ag #[O U LA.h.op,O U LA.h.p,O U LA.h.o,O U LA.h.v,O U LA.h.g,I AL LA.args.length cL] 32 (0,0))/\X.heap[b16]?=J (Ag #[O U ON.h.op,O U ON.h.p,O U ON.h.o,O U ON.h.v,O U ON.h.g,I Rl ON.args.length Of] 32 (0,0))/\X.heap[WE.heap.size+1]?=J (Ag #[O U 17,O U 0,O U 0,O U 0,O U 0,I (J ⟨WE.heap.size,0,Z⟩) 2 2] 32 (0,0))/\X.heap[b8]?=J (Ag #[O U y.h.op,O U y.h.p,O U y.h.o,O U y.h.v,O U y.h.g,I A8 y.args.length c8] 32 (0,0))/\X.heap[w6.heap.size+1]?=J (Ag #[.func (.func 19) #[] #[]] 55 (0,0))/\X.heap[w6.heap.size]?=J (Ag #[O U T.p.t.n,O U T.p.t.ins,O U T.p.t.outs,I AC T.p.t.cases.length dn,O U T.p.a.n,I dw T.p.a.sts.length dm,O U T.p.k,O U T.n,I AV T.vs.length kv,I AX T.xs.length kx] 39 (0,0))) (by kernel_rfl) (by kernel_rfl) (ai.out _ G0.out.drew) ?_
 apply zj rfl
 . rintro K' aa X -
   go_simp;exact aa
 apply zj rfl
 . rintro K' aa X u
   have e:=u.1;obtain⟨x0,x1,x2,x3,x4,x5,_⟩:=Ki (e);clear u e;go_simp;exact aa
 apply zj rfl
 . rintro K' aa X u
   have e:=u.2.1;obtain⟨x0,x1,x2,x3,x4,x5,_⟩:=Ki (e);clear u e;go_simp;exact aa
 apply zj rfl
 . rintro K' aa X u
   have e:=u.2.2.1;obtain⟨x0,x1,x2,x3,x4,x5,_⟩:=Ki (e);clear u e;go_simp;exact aa
 apply zj rfl
 . rintro K' aa X -
   go_simp;exact aa
 apply zj rfl
 . rintro K' aa X u
   have e:=u.1;obtain⟨x0,x1,x2,x3,x4,x5,_⟩:=Ki (e);clear u e;go_simp;exact aa
 refine zn rfl ?_;intro K' aa;go_simp;refine((qT (w6.heap.size+1) EV _ _ (rr.out _ G0.out.drew) _ (eD.out aU.drew G0.out.drew)).mono fun _ _ h=>RetFm.all h).mono ?_;rintro e sR ⟨Um,rfl,hv,hb⟩;have au:=zH hv;have fC:Aq (Am aU.heap.size aU sR):=Lc G0.out.drew hb;refine aa _ _ (ai.out _ fC.out) ?_;clear aa K' hb hv;refine zn rfl ?_;intro K' aa;go_simp;refine(JS LA (f1 14 0 0 EV) _ _ _ (iK.out sR fC.out) au.out).mono ?_;rintro e sf ⟨Ue,rfl,hv,hb⟩;have ay:=zH hv;have fB:Aq (Am aU.heap.size aU sf):=Lc fC.out hb;have au:=zH (au.out.keep hb);refine aa _ _ (ai.out _ fB.out) ?_;clear aa K' hb hv;refine zn rfl ?_;intro K' aa;go_simp;refine(Zr f (fOr LA (f1 14 0 0 EV)) _ _ _ (lT.out sf fB.out) ay.out).mono ?_;rintro e Dr ⟨mv3,rfl,hv,hb⟩;have aI:=zH hv;have iR:Aq (Am aU.heap.size aU Dr):=Lc fB.out hb;have au:=zH (au.out.keep hb);have ay:=zH (ay.out.keep hb);refine aa _ _ (ai.out _ iR.out) ?_;clear aa K' hb hv;refine zn rfl ?_;intro K' aa;go_simp;refine(IQ.out EV (yx f (fOr LA (f1 14 0 0 EV))) _ _ _ iR.out (eD.out Dr iR.out) aI.out mI.out.1 mI.out.2).mono ?_;rintro e Fs ⟨rfl,hb⟩;have iQ:Aq (Am aU.heap.size aU Fs):=Lc iR.out hb;refine aa _ _ (ai.out _ iQ.out) ?_;clear aa K' hb;clear au ay aI;apply zj rfl
 . rintro K' aa X -
   go_simp;exact aa
 apply zj rfl
 . rintro K' aa X -
   go_simp;exact aa
 apply zj rfl
 . rintro K' aa X u
   have e:=u.2.2.2.1;obtain⟨x0,x1,x2,x3,x4,x5,_⟩:=Ki (e);clear u e;go_simp;exact aa
 apply zj rfl
 . rintro K' aa X u
   have e:=u.2.1;obtain⟨x0,x1,x2,x3,x4,x5,_⟩:=Ki (e);clear u e;go_simp;exact aa
 apply zj rfl
 . rintro K' aa X -
   go_simp;exact aa
 apply zj rfl
 . rintro K' aa X u
   have e:=u.2.2.2.1;obtain⟨x0,x1,x2,x3,x4,x5,_⟩:=Ki (e);clear u e;go_simp;exact aa
 refine zn rfl ?_;intro K' aa;go_simp;refine((qT (w6.heap.size+1) ON _ _ (rr.out _ iQ.out) _ (pE.out Fs iQ.out)).mono fun _ _ h=>RetFm.all h).mono ?_;rintro e Fr ⟨mv5,rfl,hv,hb⟩;have aS:=zH hv;have mp:Aq (Am aU.heap.size aU Fr):=Lc iQ.out hb;refine aa _ _ (ai.out _ mp.out) ?_;clear aa K' hb hv;refine zn rfl ?_;intro K' aa;go_simp;refine(JS f (f1 14 0 0 ON) _ _ _ (lT.out Fr mp.out) aS.out).mono ?_;rintro e Fq ⟨mv6,rfl,hv,hb⟩;have bq:=zH hv;have iP:Aq (Am aU.heap.size aU Fq):=Lc mp.out hb;have aS:=zH (aS.out.keep hb);refine aa _ _ (ai.out _ iP.out) ?_;clear aa K' hb hv;refine zn rfl ?_;intro K' aa;go_simp;refine(IQ.out ON (fOr f (f1 14 0 0 ON)) _ _ _ iP.out (pE.out Fq iP.out) bq.out fJ.out.1 fJ.out.2).mono ?_;rintro e Hy ⟨rfl,hb⟩;have mW:Aq (Am aU.heap.size aU Hy):=Lc iP.out hb;refine aa _ _ (ai.out _ mW.out) ?_;clear aa K' hb;clear aS bq;apply zj rfl
 . rintro K' aa X -
   go_simp;exact aa
 apply zj rfl
 . rintro K' aa X -
   go_simp;exact aa
 apply zj rfl
 . rintro K' aa X -
   go_simp;exact aa
 apply zj rfl
 . rintro K' aa X u
   have e:=u.2.2.2.2.1;obtain⟨x0,x1,x2,x3,x4,x5,_⟩:=Ki (e);clear u e;go_simp;exact aa
 apply zj rfl
 . rintro K' aa X u
   have e:=u.2.2.2.2.2.1;obtain⟨x0,x1,x2,x3,x4,x5,_⟩:=Ki (e);clear u e;go_simp;exact aa
 apply zj rfl
 . rintro K' aa X u
   have e:=u.2.1;obtain⟨x0,x1,x2,x3,x4,x5,_⟩:=Ki (e);clear u e;go_simp;exact aa
 apply zj rfl
 . rintro K' aa X -
   go_simp;exact aa
 apply zj rfl
 . rintro K' aa X u
   have e:=u.2.2.2.2.1;obtain⟨x0,x1,x2,x3,x4,x5,_⟩:=Ki (e);clear u e;go_simp;exact aa
 refine zn rfl ?_;intro K' aa;go_simp;refine((qT (w6.heap.size+1) (f2 17 f y) _ _ (rr.out _ mW.out) _ (IN.out Hy mW.out)).mono fun _ _ h=>RetFm.all h).mono ?_;rintro e Dq ⟨mv8,rfl,hv,hb⟩;have bP:=zH hv;have iO:Aq (Am aU.heap.size aU Dq):=Lc mW.out hb;refine aa _ _ (ai.out _ iO.out) ?_;clear aa K' hb hv;refine zn rfl ?_;intro K' aa;go_simp;refine(Zr f (f1 14 0 0 (f2 17 f y)) _ _ _ (lT.out Dq iO.out) bP.out).mono ?_;rintro e Fp ⟨mv9,rfl,hv,hb⟩;have cq:=zH hv;have mV:Aq (Am aU.heap.size aU Fp):=Lc iO.out hb;have bP:=zH (bP.out.keep hb);refine aa _ _ (ai.out _ mV.out) ?_;clear aa K' hb hv;refine zn rfl ?_;intro K' aa;go_simp;refine(JS y (yx f (f1 14 0 0 (f2 17 f y))) _ _ _ (C0.out Fp mV.out) cq.out).mono ?_;rintro e nA ⟨Km,rfl,hv,hb⟩;have bz:=zH hv;have fi:Aq (Am aU.heap.size aU nA):=Lc mV.out hb;have bP:=zH (bP.out.keep hb);have cq:=zH (cq.out.keep hb);refine aa _ _ (ai.out _ fi.out) ?_;clear aa K' hb hv;refine zn rfl ?_;intro K' aa;go_simp;refine(IQ.out (f2 17 f y) (fOr y (yx f (f1 14 0 0 (f2 17 f y)))) _ _ _ fi.out (IN.out nA fi.out) bz.out rU.out.1 rU.out.2).mono ?_;rintro e Ce ⟨rfl,hb⟩;have nx:Aq (Am aU.heap.size aU Ce):=Lc fi.out hb;refine aa _ _ (ai.out _ nx.out) ?_;clear aa K' hb;clear bP cq bz;apply zj rfl
 . rintro K' aa X -
   go_simp;exact aa
 apply zj rfl
 . rintro K' aa X -
   go_simp;exact aa
 apply zj rfl
 . rintro K' aa X -
   go_simp;exact aa
 apply zj rfl
 . rintro K' aa X u
   have e:=u.1;obtain⟨x0,x1,x2,x3,x4,x5,_⟩:=Ki (e);clear u e;go_simp;exact aa
 apply zj rfl
 . rintro K' aa X u
   have e:=u.2.2.2.2.2.2.1;have x0:=zh (e) 0 rfl;clear u e;go_simp;exact aa
 apply zj rfl
 . rintro K' aa X u
   have e:=u.2.1;obtain⟨x0,x1,x2,x3,x4,x5,_⟩:=Ki (e);clear u e;go_simp;exact aa
 refine zn rfl ?_;intro K' aa;go_simp;refine(jq EV _ _ (eD.out Ce nx.out)).mono ?_;rintro e tz ⟨Ul,rfl,hv,hb⟩;have bW:=zH hv;have li:Aq (Am aU.heap.size aU tz):=Lc nx.out hb;refine aa _ _ (ai.out _ li.out) ?_;clear aa K' hb hv;refine zn rfl ?_;intro K' aa;go_simp;refine(jq f _ _ (lT.out tz li.out)).mono ?_;rintro e tx ⟨Uk,rfl,hv,hb⟩;have cx:=zH hv;have mw:Aq (Am aU.heap.size aU tx):=Lc li.out hb;have bW:=zH (bW.out.keep hb);refine aa _ _ (ai.out _ mw.out) ?_;clear aa K' hb hv;refine zn rfl ?_;intro K' aa;go_simp;refine((jO 16 (yc f) _ _ _ cx.out).mono fun _ _ h=>RetFm.all h).mono ?_;rintro e Ft ⟨Uj,rfl,hv,hb⟩;have cW:=zH hv;have mv:Aq (Am aU.heap.size aU Ft):=Lc mw.out hb;have bW:=zH (bW.out.keep hb);have cx:=zH (cx.out.keep hb);refine aa _ _ (ai.out _ mv.out) ?_;clear aa K' hb hv;refine zn rfl ?_;intro K' aa;go_simp;refine(IQ.out (yc EV) (f1 16 0 0 (yc f)) _ _ _ mv.out bW.out cW.out rn.out.1 rn.out.2).mono ?_;rintro e Cd ⟨rfl,hb⟩;have mu:Aq (Am aU.heap.size aU Cd):=Lc mv.out hb;refine aa _ _ (ai.out _ mu.out) ?_;clear aa K' hb;clear bW cx cW;apply zj rfl
 . rintro K' aa X -
   go_simp;exact aa
 apply zj rfl
 . rintro K' aa X -
   go_simp;exact aa
 apply zj rfl
 . rintro K' aa X u
   have e:=u.2.2.2.2.2.2.2;obtain⟨x0,x1,x2,x3,x4,x5,x6,x7,x8,x9⟩:=zK (e);clear u e;go_simp;exact aa
 apply zj rfl
 . rintro K' aa X -
   go_simp;exact aa
 apply zj rfl
 . rintro K' aa X -
   go_simp;exact aa
 apply zj rfl
 . rintro K' aa X u
   have e:=u.2.1;obtain⟨x0,x1,x2,x3,x4,x5,_⟩:=Ki (e);clear u e;go_simp;exact aa
 apply zj rfl
 . rintro K' aa X -
   go_simp;exact aa
 apply zj rfl
 . rintro K' aa X -
   go_simp;exact aa
 apply zj rfl
 . rintro K' aa X u
   have e:=u.2.1;obtain⟨x0,x1,x2,x3,x4,x5,_⟩:=Ki (e);clear u e;go_simp;exact aa
 apply zj rfl
 . rintro K' aa X -
   go_simp;exact aa
 apply zj rfl
 . rintro K' aa X u
   have e:=u.1;obtain⟨x0,x1,x2,x3,x4,x5,_⟩:=Ki (e);clear u e;go_simp;exact aa
 apply zj rfl
 . rintro K' aa X u
   have e:=u.2.2.2.2.2.2.1;have x0:=zh (e) 0 rfl;clear u e;go_simp;exact aa
 apply zj rfl
 . rintro K' aa X -
   go_simp;exact aa
 apply zj rfl
 . rintro K' aa X u
   have e:=u.2.1;obtain⟨x0,x1,x2,x3,x4,x5,_⟩:=Ki (e);clear u e;go_simp;exact aa
 refine zn rfl ?_;intro K' aa;go_simp;refine((qT (w6.heap.size+1) f _ _ (rr.out _ mu.out) _ (lT.out Cd mu.out)).mono fun _ _ h=>RetFm.all h).mono ?_;rintro e Cc ⟨Ui,rfl,hv,hb⟩;have bj:=zH hv;have lh:Aq (Am aU.heap.size aU Cc):=Lc mu.out hb;refine aa _ _ (ai.out _ lh.out) ?_;clear aa K' hb hv;refine zn rfl ?_;intro K' aa;go_simp;refine(BM.out _ lh.out (f1 14 0 0 f) _ bj.out).mono ?_;rintro e Cb ⟨Uh,rfl,hv,hb⟩;have bU:=zH hv;have mt:Aq (Am aU.heap.size aU Cb):=Lc lh.out hb;have bj:=zH (bj.out.keep hb);refine aa _ _ (ai.out _ mt.out) ?_;clear aa K' hb hv;refine zn rfl ?_;intro K' aa;go_simp;refine(BM.out _ mt.out f _ (lT.out Cb mt.out)).mono ?_;rintro e Ca ⟨Ug,rfl,hv,hb⟩;have cu:=zH hv;have lg:Aq (Am aU.heap.size aU Ca):=Lc mt.out hb;have bj:=zH (bj.out.keep hb);have bU:=zH (bU.out.keep hb);refine aa _ _ (ai.out _ lg.out) ?_;clear aa K' hb hv;refine zn rfl ?_;intro K' aa;go_simp;refine((qT (w6.heap.size+1) (f1 10 (r:Int) 0 f) _ _ (rr.out _ lg.out) _ cu.out).mono fun _ _ h=>RetFm.all h).mono ?_;rintro e B9 ⟨Uf,rfl,hv,hb⟩;have cV:=zH hv;have nu:Aq (Am aU.heap.size aU B9):=Lc lg.out hb;have bj:=zH (bj.out.keep hb);have bU:=zH (bU.out.keep hb);have cu:=zH (cu.out.keep hb)
 refine aa _ _ (ai.out _ nu.out) ?_;clear aa K' hb hv;refine zn rfl ?_;intro K' aa;go_simp;refine(yW (f1 10 (r:Int) 0 (f1 14 0 0 f)) (f1 14 0 0 (f1 10 (r:Int) 0 f)) _ _ _ bU.out cV.out).mono ?_;rintro e BZ ⟨Ud,rfl,hv,hb⟩;have dF:=zH hv;have mr:Aq (Am aU.heap.size aU BZ):=Lc nu.out hb;have bj:=zH (bj.out.keep hb);have bU:=zH (bU.out.keep hb);have cu:=zH (cu.out.keep hb);have cV:=zH (cV.out.keep hb);refine aa _ _ (ai.out _ mr.out) ?_;clear aa K' hb hv;refine zn rfl ?_;intro K' aa;go_simp;refine(BM.out _ mr.out EV _ (eD.out BZ mr.out)).mono ?_;rintro e pH ⟨Uc,rfl,hv,hb⟩;have fg:=zH hv;have mq:Aq (Am aU.heap.size aU pH):=Lc mr.out hb;have bj:=zH (bj.out.keep hb);have bU:=zH (bU.out.keep hb);have cu:=zH (cu.out.keep hb);have cV:=zH (cV.out.keep hb);have dF:=zH (dF.out.keep hb);refine aa _ _ (ai.out _ mq.out) ?_;clear aa K' hb hv;refine zn rfl ?_;intro K' aa;go_simp;refine(BM.out _ mq.out f _ (lT.out pH mq.out)).mono ?_;rintro e Ub ⟨mv22,rfl,hv,hb⟩;have nk:=zH hv;have Fc:Aq (Am aU.heap.size aU Ub):=Lc mq.out hb;have bj:=zH (bj.out.keep hb);have bU:=zH (bU.out.keep hb);have cu:=zH (cu.out.keep hb);have cV:=zH (cV.out.keep hb);have dF:=zH (dF.out.keep hb);have fg:=zH (fg.out.keep hb)
 refine aa _ _ (ai.out _ Fc.out) ?_;clear aa K' hb hv;refine zn rfl ?_;intro K' aa;go_simp;refine((jO 15 (f1 10 (r:Int) 0 f) _ _ _ nk.out).mono fun _ _ h=>RetFm.all h).mono ?_;rintro e Ua ⟨mv23,rfl,hv,hb⟩;have rR:=zH hv;have Fb:Aq (Am aU.heap.size aU Ua):=Lc Fc.out hb;have bj:=zH (bj.out.keep hb);have bU:=zH (bU.out.keep hb);have cu:=zH (cu.out.keep hb);have cV:=zH (cV.out.keep hb);have dF:=zH (dF.out.keep hb);have fg:=zH (fg.out.keep hb);have nk:=zH (nk.out.keep hb);refine aa _ _ (ai.out _ Fb.out) ?_;clear aa K' hb hv;refine zn rfl ?_;intro K' aa;go_simp;refine(yW (f1 10 (r:Int) 0 EV) (f1 15 0 0 (f1 10 (r:Int) 0 f)) _ _ _ fg.out rR.out).mono ?_;rintro e BY ⟨mv24,rfl,hv,hb⟩;have Ez:=zH hv;have Fa:Aq (Am aU.heap.size aU BY):=Lc Fb.out hb;have bj:=zH (bj.out.keep hb);have bU:=zH (bU.out.keep hb);have cu:=zH (cu.out.keep hb);have cV:=zH (cV.out.keep hb);have dF:=zH (dF.out.keep hb);have fg:=zH (fg.out.keep hb);have nk:=zH (nk.out.keep hb);have rR:=zH (rR.out.keep hb);refine aa _ _ (ai.out _ Fa.out) ?_;clear aa K' hb hv;obtain⟨Nv,Fg,Es,rfl,DJ⟩:=dF.out;obtain⟨Nl,Fe,Eq,rfl,DH⟩:=Ez.out;refine zn rfl ?_;intro K' aa;unfold Fm.vs;go_simp
 obtain⟨wL,mZ,dL,sj,ex⟩:=zm BY #[O U (fIf (f1 10 (r:Int) 0 (f1 14 0 0 f)) (f1 14 0 0 (f1 10 (r:Int) 0 f))).h.op,O U (fIf (f1 10 (r:Int) 0 (f1 14 0 0 f)) (f1 14 0 0 (f1 10 (r:Int) 0 f))).h.p,O U (fIf (f1 10 (r:Int) 0 (f1 14 0 0 f)) (f1 14 0 0 (f1 10 (r:Int) 0 f))).h.o,O U (fIf (f1 10 (r:Int) 0 (f1 14 0 0 f)) (f1 14 0 0 (f1 10 (r:Int) 0 f))).h.v,O U (fIf (f1 10 (r:Int) 0 (f1 14 0 0 f)) (f1 14 0 0 (f1 10 (r:Int) 0 f))).h.g,.slice Fg (fIf (f1 10 (r:Int) 0 (f1 14 0 0 f)) (f1 14 0 0 (f1 10 (r:Int) 0 f))).args.length Es,O U (fIf (f1 10 (r:Int) 0 EV) (f1 15 0 0 (f1 10 (r:Int) 0 f))).h.op,O U (fIf (f1 10 (r:Int) 0 EV) (f1 15 0 0 (f1 10 (r:Int) 0 f))).h.p,O U (fIf (f1 10 (r:Int) 0 EV) (f1 15 0 0 (f1 10 (r:Int) 0 f))).h.o,O U (fIf (f1 10 (r:Int) 0 EV) (f1 15 0 0 (f1 10 (r:Int) 0 f))).h.v,O U (fIf (f1 10 (r:Int) 0 EV) (f1 15 0 0 (f1 10 (r:Int) 0 f))).h.g,.slice Fe (fIf (f1 10 (r:Int) 0 EV) (f1 15 0 0 (f1 10 (r:Int) 0 f))).args.length Eq] 32;rw[mZ]
 have an:∃D,FsAt wL wL.heap.size (D+1) (J ⟨BY.heap.size,0,Z⟩) [fIf (f1 10 (r:Int) 0 (f1 14 0 0 f)) (f1 14 0 0 (f1 10 (r:Int) 0 f)),fIf (f1 10 (r:Int) 0 EV) (f1 15 0 0 (f1 10 (r:Int) 0 f))]:=by
  refine uh dL fun i hi=>?_
  have h5:i=0\/i=1:=by have:i<2:=hi;omega
  rcases h5 with rfl | rfl
  . exact⟨Nv,Fg,Es,fun j v hv=>by rcases six (xR hv) with rfl | rfl | rfl | rfl | rfl | rfl<;>exact hv,yP DJ ex⟩
  exact⟨Nl,Fe,Eq,fun j v hv=>by rcases six (xR hv) with rfl | rfl | rfl | rfl | rfl | rfl<;>exact hv,yP DH ex⟩
 obtain⟨DL,ni⟩:=an;have GL:Aq (Am aU.heap.size aU wL):=Lc Fa.out ex;have HC:=zH (oH.out [fIf (f1 10 (r:Int) 0 (f1 14 0 0 f)) (f1 14 0 0 (f1 10 (r:Int) 0 f)),fIf (f1 10 (r:Int) 0 EV) (f1 15 0 0 (f1 10 (r:Int) 0 f))] (by simp) HV5.out wL GL.out (J ⟨BY.heap.size,0,Z⟩) 2 DL ni);refine aa _ _ (ai.out _ GL.out) ?_;clear aa K' mZ dL sj ex ni bj bU cu cV dF fg nk rR Ez DJ DH;refine zn rfl ?_;intro K' aa;go_simp;refine HC.out.mono ?_;rintro e wV ⟨rfl,hb⟩;have GV:=zH (Lc GL.out hb);refine aa _ _ (ai.out _ GV.out) ?_;clear aa K' hb HC;apply zj rfl
 . rintro K' aa X -
   go_simp;exact aa
 apply zj rfl
 . rintro K' aa X -
   go_simp;exact aa
 refine zy ?_;have cF:=zH (Lc G013.out GV.out);go_wp2_with fail;go_ret;exact⟨rfl,cF.out⟩
end
end Go.Proofs.YtkmbdfdaffmhjaaGreat
