/- Merged. -/
import Derived.Test.YtkmbdfdaffmhjaaGreatTi
import Derived.Test.YtkmbdfdaffmhjaaGreatTj
open Go.Proofs.Tryz
open Go.Value renaming int->O,slice->I,bool->Ah,agg->Ai,pointer->Aj
open Go.IntKind renaming i64->U
open Option renaming none->Z,some->J
open Go.Obj renaming cells->Ag
open Go.Ending renaming returned->Ak
open Go.Proofs.Tryz renaming prog->Al
open Go.RowKit renaming Below->Am,intOf->Ap,Hid->Aq
open Go renaming Calls->An,Value->Ar
open Bool renaming true->Au,false->Aw
namespace Go.Proofs.YtkmbdfdaffmhjaaGreat
set_option maxRecDepth 100000
set_option maxHeartbeats 20000000
section
open Go.RowKit Go.Shelf
attribute [local go_sem] Oper.semAt_some
theorem JT(g:Int)(b:Nat)(F:Fm)(v:Ar)(w:Ba)(hb:w.cell? ⟨b,0,Z⟩=J (O U g))(S:Nat->Prop)(hF:FmX w S F v):An Al 16 #[v,Aj (J ⟨b,0,Z⟩)] w (RetFm S (f1 11 0 g F) w):=by
 have cd:=zH hF;obtain⟨d,A,c,rfl,hA⟩:=hF;unfold Fm.vs at cd ⊢;obtain⟨w1,ae,d0,aw,aB⟩:=zm w #[O U F.h.op,O U F.h.p,O U F.h.o,O U F.h.v,O U F.h.g,I A F.args.length c] 32;obtain⟨w2,aC,d1,bQ,az⟩:=zm w1 #[O U 0,O U 0,O U 0,O U 0,O U 0,I Z 0 0] 32;have d0:=Lb az (by omega) d0;rw[aw] at d1 bQ;have aF:Am w.heap.size w w2:=aB.trans (az.mono (by omega));have y0:=(aF.cell (p:=⟨b,0,Z⟩) (LG w _ hb)).trans hb;have HC:=zH (qS 11 (by simp) g F _ w2 (fun k=>S k/\k<w.heap.size) (FmX.keep cd.out aF.size fun k hk hs=>⟨⟨hs,hk⟩,aF.block k hk⟩));have HB:=zH aF;have HZ:=zH bQ;have D1:=zH d1;have ak:=zH ae;have dK:=zH aC;obtain⟨q0,q1,q2,q3,q4,q5,_⟩:=Ki d0;unfold RetFm at HC;clear hA ae aC d0 d1 aB az aF hb;go_enter func16,ntmps16;go_upto_region 1 with fail
 rw[ak.out,dK.out];go_wp2_with fail;refine HC.out.mono ?_;rintro e w5 ⟨v5,rfl,oK,aj⟩;obtain⟨d5,A5,c5,rfl,ld⟩:=oK;have e2:=Lb aj (by omega) D1.out;have aK:=zH aj;have lE:=zH ld;have E2:=zH e2;obtain⟨r0,r1,r2,r3,r4,r5,_⟩:=Ki e2;have g0:=zi e2 0;have g1:=zi e2 1;have g2:=zi e2 2;have g3:=zi e2 3;have g4:=zi e2 4;have g5:=zi e2 5;unfold Fm.vs;clear ld aj e2;go_wp2_with fail;obtain⟨WF,cM,f1,f2,f3,f4⟩:=xU E2.out (O U (f1 11 0 g F).h.op) (O U (f1 11 0 g F).h.p) (O U (f1 11 0 g F).h.o) (O U (f1 11 0 g F).h.v) (O U (f1 11 0 g F).h.g) (.slice A5 (f1 11 0 g F).args.length c5);rw[cM]
 (try simp only[Exit.inBlock,Exit.then])
 refine LI (L9 (P:=Al) rfl _ _ (w.heap.size+1) 32 _ (0,0) _ rfl f1 LW rfl (by kernel_rfl)) rfl ?_;have hz:=HZ.out;have fw:Am w.heap.size w5 WF:=f3 _ (by omega);have cZ:=aK.out.size;refine⟨_,rfl,⟨d5,A5,c5,rfl,lE.out.keep (by omega) fun k hk hs=>⟨?_,f2 k ?_⟩⟩,(Lc HB.out aK.out).trans fw⟩
 . rcases hs with hs | hs
   . exact .inl hs.1
   exact .inr (by omega)
 rcases hs with hs | hs<;>omega
theorem topCom_S(g:Int)(b:Nat)(F:Fm)(v:Ar)(w:Ba)(hb:w.cell? ⟨b,0,Z⟩=J (O U g))(S:Nat->Prop)(hF:FmX w S F v):An Al 17 #[v,Aj (J ⟨b,0,Z⟩)] w (RetFm S (f1 13 0 g F) w):=by
 have cd:=zH hF;obtain⟨d,A,c,rfl,hA⟩:=hF;unfold Fm.vs at cd ⊢;obtain⟨w1,ae,d0,aw,aB⟩:=zm w #[O U F.h.op,O U F.h.p,O U F.h.o,O U F.h.v,O U F.h.g,I A F.args.length c] 32;obtain⟨w2,aC,d1,bQ,az⟩:=zm w1 #[O U 0,O U 0,O U 0,O U 0,O U 0,I Z 0 0] 32;have d0:=Lb az (by omega) d0;rw[aw] at d1 bQ;have aF:Am w.heap.size w w2:=aB.trans (az.mono (by omega));have y0:=(aF.cell (p:=⟨b,0,Z⟩) (LG w _ hb)).trans hb;have HC:=zH (qS 13 (by simp) g F _ w2 (fun k=>S k/\k<w.heap.size) (FmX.keep cd.out aF.size fun k hk hs=>⟨⟨hs,hk⟩,aF.block k hk⟩));have HB:=zH aF;have HZ:=zH bQ;have D1:=zH d1;have ak:=zH ae;have dK:=zH aC;obtain⟨q0,q1,q2,q3,q4,q5,_⟩:=Ki d0;unfold RetFm at HC;clear hA ae aC d0 d1 aB az aF hb;go_enter func17,ntmps17;go_upto_region 1 with fail
 rw[ak.out,dK.out];go_wp2_with fail;refine HC.out.mono ?_;rintro e w5 ⟨v5,rfl,oK,aj⟩;obtain⟨d5,A5,c5,rfl,ld⟩:=oK;have e2:=Lb aj (by omega) D1.out;have aK:=zH aj;have lE:=zH ld;have E2:=zH e2;obtain⟨r0,r1,r2,r3,r4,r5,_⟩:=Ki e2;have g0:=zi e2 0;have g1:=zi e2 1;have g2:=zi e2 2;have g3:=zi e2 3;have g4:=zi e2 4;have g5:=zi e2 5;unfold Fm.vs;clear ld aj e2;go_wp2_with fail;obtain⟨WF,cM,f1,f2,f3,f4⟩:=xU E2.out (O U (f1 13 0 g F).h.op) (O U (f1 13 0 g F).h.p) (O U (f1 13 0 g F).h.o) (O U (f1 13 0 g F).h.v) (O U (f1 13 0 g F).h.g) (.slice A5 (f1 13 0 g F).args.length c5);rw[cM]
 (try simp only[Exit.inBlock,Exit.then])
 refine LI (L9 (P:=Al) rfl _ _ (w.heap.size+1) 32 _ (0,0) _ rfl f1 LW rfl (by kernel_rfl)) rfl ?_;have hz:=HZ.out;have fw:Am w.heap.size w5 WF:=f3 _ (by omega);have cZ:=aK.out.size;refine⟨_,rfl,⟨d5,A5,c5,rfl,lE.out.keep (by omega) fun k hk hs=>⟨?_,f2 k ?_⟩⟩,(Lc HB.out aK.out).trans fw⟩
 . rcases hs with hs | hs
   . exact .inl hs.1
   exact .inr (by omega)
 rcases hs with hs | hs<;>omega
end
section
open Go.RowKit Go.Shelf
theorem Vf.tev{s:Sy}{K N:Nat}(hT:TopW s K N){f:Fm}{A:List Bool}(h:Vf s [] N 128 24 f A){D:Nat}(hD:inD D f):ws s [] D f=(A,0)/\(zL D f).1<=1000000:=by
 have hA:=h.at_ hD;obtain⟨d,h1,h2⟩:=h;have e1:zL D f=zL d f:=by rw[<-kD hD (NF d D),kD h1.deep (NV d D)]
 have e2:yJ N D f=yJ N d f:=by rw[<-kj N hD (NF d D),kj N h1.deep (NV d D)]
 have dp:OkF N D f 128 24:=⟨hD,by rw[e2];exact h1.nod,by rw[e1];exact h1.size,by rw[e1];exact h1.depth⟩;have hn:=hT.fine.pn;have Mj:=dp.fml ⟨hT.fine.n1,hT.fine.n5⟩ (by omega) (by omega);refine⟨?_,by have:=dp.size;omega⟩;unfold ws;rw[Lg (by rw[hT.ver];simp),Lg (by simp),Lg (by rw[hn,Mj];simp),hA]
theorem JH{A:List Bool}(h:(!(A.any fun b=>!b))=Au):JI A.length A:=fun i hi=>by
 have h1:(A.any fun b=>!b)=Aw:=by simpa using h
 rw[List.any_eq_false] at h1;rw[zw hi];simpa using h1 A[i] (Le hi)
theorem valid_at(s:Sy)(K N:Nat)(hT:TopW s K N)(A SV AV AX:Bb)(kc ks kv kx:Nat)(F:Fm)(B:List Bool)(hF:Vf s [] N 128 24 F B)(v:Ar)(w:Ba)(hv:FmA w F v)(hS:SyAt w w.heap.size A SV AV AX s) :
  An Al 18 #[.agg (s.vs_ A kc SV ks AV kv AX kx),Ai #[I Z 0 0],v] w fun e w'=>∃(b:Bool) (i:Int),e=Ak (.tuple #[Ah b,O U i,O U 0])/\(b=Au->JI (ptn s) B)/\Am w.heap.size w w':=by
 obtain⟨d,AF,cf,rfl,hA⟩:=hv;have hD:=Yn hA.at_;obtain⟨h1,h2⟩:=hF.tev hT hD;have hp7:=hT.p7;have hl:=hF.len;have hC:=ZR s hT.lo hT.few [] d F h2 (by rw[h1]) (by rw[h1];show B.length<=_;omega) A SV AV AX AF Z kc ks kv kx cf 0 w hS (fun h=>absurd h (by simp)) hA.at_;rw[h1] at hC;refine hC.mono ?_;rintro e w' ⟨i,rfl,hb⟩;refine⟨_,i,rfl,fun h=>?_,hb⟩;rw[<-hl];exact JH h
end
section
open Go.RowKit Go.Shelf
attribute [local go_sem] Oper.semAt_some
def kT(ev cv fv:Ar)(g:GA):Nat->Ar
 | 0=>ev
 | 1=>fv
 | 2=>cv
 | 3=>fv
 | 4=>g.v 4
 | 5=>g.v 5
 | 6=>g.v 6
 | 7=>Aj (J ⟨g.b 7,0,Z⟩)
 | _=>undef
theorem ux(ev cv fv:Ar){g g':GA}(j:Nat)(h1:g'.v j=g.v j)(h2:g'.b j=g.b j):kT ev cv fv g' j=kT ev cv fv g j:=by
 unfold kT
 split<;>first | rfl | rw[h1] | rw[h2]
theorem bits_ne5{N G:Nat}(hN:N<=5)(hG:G<2^N)(h0:G≠0):yp G N≠[]:=by
 have h:∀N:Nat,N<6->∀G:Nat,G<32->G<2^N->G≠0->yp G N≠[]:=by decide +kernel
 refine h N (by omega) G ?_ hG h0;have:2^N<=2^5:=Nk (by decide) hN;omega
theorem YT(p:Pb)(hl:Zq p)(A SV AF:Bb)(kc ks cf df:Nat)(f:Fm)(n:Nat)(hn:n<256)(w:Ba)(hA:CAt w w.heap.size A p.t.cases)(hS:SAt w w.heap.size SV p.a.sts)(hF:FsAt w w.heap.size df AF f.args) :
  An Al 4 #[.agg (p.vs A kc SV ks),.agg (f.vs AF cf),.int .u8 (n:Int)] w fun e w'=>e=Ak (Ah Au)/\Am w.heap.size w w':=by
 obtain⟨wa,ec,da,ie,mc⟩:=zm w (p.vs A kc SV ks) 29;obtain⟨w3,cO,dc,oA,fz⟩:=zm wa (f.vs AF cf) 32;have hB:Am w.heap.size w w3:=mc.trans (fz.mono (by omega));have da:=Lb fz (by omega) da;rw[ie] at dc oA;have nX:Aq (∀X,Am w3.heap.size w3 X->CAt X X.heap.size A p.t.cases/\SAt X X.heap.size SV p.a.sts):=fun X hX=>⟨(((hA.keep hB).more hB.size).keep hX).more hX.size,(((hS.keep hB).more hB.size).keep hX).more hX.size⟩
 have Dg:Aq (∀X,Am w3.heap.size w3 X->FsAt X X.heap.size df AF f.args):=fun X hX=>(((hF.keep hB).more hB.size).keep hX).more hX.size
 have cd:Aq (∀X,Am w3.heap.size w3 X->FmA X f (.agg (f.vs AF cf))):=fun X hX=>FmA.of (Dg.out X hX)
 have aY:Aq (∀X,Am w3.heap.size w3 X->X.heap[w.heap.size]?=J (Ag (p.vs A kc SV ks) 29 (0,0))/\X.heap[w.heap.size+1]?=J (Ag (f.vs AF cf) 32 (0,0))):=fun X hX=>⟨Lb hX (by omega) da,Lb hX (by omega) dc⟩
 have fm:=zH (fun (X:Ba) (AL:Bb) (D:Nat) (hX:Am w3.heap.size w3 X) (hL:FsAt X X.heap.size (D+1) AL [f])=>kI p hl A SV AL kc ks 1 D [f] (by simp) X (nX.out X hX).1 (nX.out X hX).2 hL);have IU:=zH hl;have HZ:=zH oA;unfold Pb.vs at ec aY fm ⊢;unfold Fm.vs at cO cd aY ⊢;have o8:=zH ec;have o5:=zH cO;have HB:=zH hB;clear ec cO da dc ie mc fz hB hA hS hF hl;go_enter func4,ntmps4;go_upto_region 1 with fail
 rw[o8.out,o5.out];go_wp2_with fail;refine(jN w3).mono ?_;rintro e w4 ⟨rfl,aP⟩;have G4:=zH aP;obtain⟨D0,D1⟩:=aY.out _ G4.out;obtain⟨p0,p1,p2,p3,p4,p5,p6,_⟩:=Kg (D0);obtain⟨q0,q1,q2,q3,q4,q5,_⟩:=Ki (D1);obtain⟨w5,eU,d5,cZ,aj⟩:=zm w4 #[O U f.h.op,O U f.h.p,O U f.h.o,O U f.h.v,O U f.h.g,I AF f.args.length cf] 32;have G5:=zH (Lc G4.out aj);obtain⟨D,hD⟩:=Yx (S:=fun _=>True) (F:=f) d5 trivial ((FsS.of (Dg.out _ G5.out) (Ld _)).keep (Ld _) fun _ _ _=>⟨trivial,rfl⟩);have HC:=zH (fm.out w5 (J ⟨w4.heap.size,0,Z⟩) D G5.out hD.at_.deep);have lC:=zH eU;clear eU d5 cZ aj hD D0 D1 aP fm nX Dg;unfold RetTry at HC;go_wp2_with fail;rw[lC.out];refine HC.out.mono ?_;rintro e w6 ⟨T,AC,dw,AV,AX,dn,dm,kv,kx,b,rfl,dj,dp⟩;have G6:=zH (Lc G5.out dj);have nn:=zH dp;clear dj dp HC p0 p1 p2 p3 p4 p5 p6 q0 q1 q2 q3 q4 q5;obtain⟨w7,lW,d7,fq,dk⟩:=zm w6 (T.vs_ AC dn dw dm AV kv AX kx) 39;have G7:=zH (Lc G6.out dk)
 cases b with
 | false=>
  have cF:=zH (Lc HB.out G7.out);unfold Sy.vs_ at lW ⊢;have o9:=zH lW;clear lW d7 fq dk nn aY cd;go_upto_region 4 with fail
  rw[o9.out];go_wp2_with fail;go_ret;exact⟨rfl,cF.out⟩
 | true=>
 obtain⟨hr,Ed,re,rO⟩:=nn.out rfl;obtain⟨K,N,lM,y',Gu,lJ⟩:=XK IU.out hr;rw[<-Ed] at lM y';have iq:=(rO f (by simp)).vf (s:=T) lJ;obtain⟨AA,El⟩:=Kk (xn T [] D f);rw[El] at iq;have dG:=lM.fine.n1;have lp:=lM.fine.n5;have z':=lM.fine.n
 have S9:(2:Int)<=(2:Int)^N/\(2:Int)^N<=32:=by
  obtain rfl | rfl | rfl | rfl | rfl:N=1\/N=2\/N=3\/N=4\/N=5:=by omega
  all_goals decide
 obtain⟨G0,hG0⟩:∃G0:Nat,(2:Int)^N-1=(G0:Int):=⟨((2:Int)^N-1).toNat,by omega⟩;obtain⟨r,oB⟩:=Kk (n % G0);have eh:r<G0:=by rw[<-oB];exact Pv _ (by omega)
 have KH:Int.tmod (n:Int) ((2:Int)^N-1)=(r:Int):=by rw[hG0,<-oB];exact(Sk n G0).symm
 obtain⟨gg,DQ⟩:=Kk (r+1);have Gb:(gg:Int)=(r:Int)+1:=by rw[<-DQ];push_cast;rfl
 have lK:1<=(gg:Int)/\(gg:Int)<=(2:Int)^N-1:=by omega
 have oS:gg<32:=by omega
 have FM:psG T (gg:Int)=yp gg N:=by unfold psG;rw[Lo,z',Lo]
 have hgN:gg<2^N:=by
  have:((2^N:Nat):Int)=(2:Int)^N:=by push_cast;rfl
  omega
 have fW:psG T (gg:Int)≠[]:=by rw[FM];exact bits_ne5 lp hgN (by omega)
 have dC:∀q,q<N->gg.testBit q=Au->q∈psG T (gg:Int):=fun q hq hb=>by rw[FM];exact List.mem_filter.2 ⟨PX.2 hq,hb⟩
 have Ts:Aq (∀x∈[fIf (f1 13 0 gg f) (f1 11 0 gg (yx f (f1 13 0 gg f))),fIf (f1 11 0 gg (yx f (f1 13 0 gg f))) (f1 13 0 gg f),fIf (f1 13 0 gg f) (f1 13 0 gg (f1 13 0 gg f)),fIf (f1 13 0 gg f) f],Vald T [] N x):=fun x hx=>by
  simp only[List.mem_cons,List.not_mem_nil,or_false] at hx;rcases hx with rfl | rfl | rfl | rfl
  . exact top_com1 iq lK
  . exact top_com2 iq lK
  . exact top_com3 iq lK
  . exact top_com4 iq lK fW
 have Oo:Aq (∀q:Nat,q<N->gg.testBit q=Au->∀x∈[fIf (f1 11 0 gg f) (f1 10 q 0 f)],Vald T [] N x):=fun q hq hb x hx=>by
  rw[LY] at hx;subst hx;exact top_com5 iq lK hq (dC q hq hb)
 have Tr:Aq (JI (ptn T) (Q8 (ptn T) AA (evG T (gg:Int) AA))->∀x∈[fIf f (f1 13 0 gg f)],Vald T [] N x):=fun hv x hx=>by
  rw[LY] at hx;subst hx;exact top_com6 iq lK hv
 obtain⟨v0,Cm,d8,nc,du⟩:=zm w7 #[O U ((r:Int)+1)] 3;have hgm:(n:Int) % (G0:Int)=(r:Int):=by rw[<-oB];push_cast;rfl
 rw[<-Gb] at d8;have M8:Am w6.heap.size w6 v0:=dk.trans (du.mono (by omega));have GV:Aq (Am w3.heap.size w3 v0):=Lc G7.out du;have NO:=d7;have d7:=Lb du (by omega) d7;have cd:=zH (fun (X:Ba) (hX:Am v0.heap.size v0 X)=>cd.out X (Lc GV.out hX));have pD:=zH (fun (X:Ba) (hX:Am v0.heap.size v0 X)=>(re.up M8).up hX)
 have nt:Aq (∀X,Am v0.heap.size v0 X->X.heap[w6.heap.size]?=J (Ag (T.vs_ AC dn dw dm AV kv AX kx) 39 (0,0))/\X.heap[w7.heap.size]?=J (Ag #[O U (gg:Int)] 3 (0,0))/\X.heap[w.heap.size+1]?=J (Ag #[O U f.h.op,O U f.h.p,O U f.h.o,O U f.h.v,O U f.h.g,I AF f.args.length cf] 32 (0,0))):=fun X hX=>by
  obtain⟨_,e1⟩:=aY.out X (Lc GV.out hX);exact⟨Lb hX (by omega) d7,Lb hX (by omega) d8,e1⟩
 have oH:=zH (fun (l:List Fm) (aN:l.length<=1000) (hv:∀x∈l,Vald T [] N x) (X:Ba) (hX:Am v0.heap.size v0 X) (AL:Bb) (cl d:Nat) (hL:FsAt X X.heap.size (d+1) AL l)=>qO T K N lM AC dw AV AX AL dn dm kv kx cl d l aN hv X (pD.out X hX) hL);have Hj:=zH Gb;have D7:=zH NO;unfold Sy.vs_ at lW nt oH D7 ⊢;have o9:=zH lW;have GR:=zH Cm;have AN:=zH z';have HN:=zH (And.intro dG lp);have HTW:=zH lM;have mR:=zH iq;have OR:=zH (And.intro oS lK);clear lW Cm d7 NO d8 fq nc dk du M8 nn aY hr Ed re rO lM y' Gu lJ iq El z' dG lp fW dC FM hgN DQ;go_upto_region 6 with fail
 rw[o9.out];have x7:=zh D7.out 7 rfl;rw[AN.out] at x7;have Sq:IntKind.i64.wrap ((2:Int)^N)=(2:Int)^N:=by rw[Ll];omega
 have tM:min N 64=N:=by have:=HN.out;omega
 have fM:IntKind.i64.wrap ((2:Int)^N-1)=(2:Int)^N-1:=by rw[Ll];omega
 have hwn:IntKind.i64.wrap (n:Int)=(n:Int):=by rw[Ll];omega
 have fL:IntKind.i64.wrap ((r:Int)+1)=(r:Int)+1:=by rw[Ll];omega
 have Fw:IntKind.i64.wrap (r:Int)=(r:Int):=by rw[Ll];omega
 have Il:¬(2:Int)^N-1=0:=by omega
 have KZ:¬(2:Int)^N=1:=by omega
 go_upto_region 7 with fail
 rw[GR.out];have E7:Aq (∀X,Am v0.heap.size v0 X->X.heap[w6.heap.size]?=J (Ag #[O U T.p.t.n,O U T.p.t.ins,O U T.p.t.outs,I AC T.p.t.cases.length dn,O U T.p.a.n,I dw T.p.a.sts.length dm,O U T.p.k,O U T.n,I AV T.vs.length kv,I AX T.xs.length kx] 39 (0,0))):=fun X hX=>(nt.out X hX).1
 have E9:Aq (∀X,Am v0.heap.size v0 X->X.heap[w7.heap.size]?=J (Ag #[O U (gg:Int)] 3 (0,0))):=fun X hX=>(nt.out X hX).2.1
 have E4:Aq (∀X,Am v0.heap.size v0 X->X.heap[w.heap.size+1]?=J (Ag #[O U f.h.op,O U f.h.p,O U f.h.o,O U f.h.v,O U f.h.g,I AF f.args.length cf] 32 (0,0))):=fun X hX=>(nt.out X hX).2.2
 have mU:Aq (∀X,Am v0.heap.size v0 X->X.cell? ⟨w7.heap.size,0,Z⟩=J (O U (gg:Int))):=fun X hX=>zh (E9.out X hX) 0 rfl
 have rA:Aq (∀X,Am v0.heap.size v0 X->∀S:Nat->Prop,(∀k,k<v0.heap.size->S k)->FmX X S f (Ai #[O U f.h.op,O U f.h.p,O U f.h.o,O U f.h.v,O U f.h.g,I AF f.args.length cf])):=fun X hX S hS=>FmX.keep (cd.out v0 (Li _ _)) hX.size fun k hk _=>⟨hS k hk,hX.block k hk⟩
 have TX:=GV;have GV0:=GV;have Gv:Aq (Am v0.heap.size v0 v0):=Li _ _;clear Gb hgm hG0 eh S9 lK oS x7 Sq tM fM hwn fL Fw Il KZ KH nt D7 o9 GR oB;go_upto_region 9 with fail
 refine kH (by kernel_rfl) (kT (.func (.func 16) #[] #[Aj (J ⟨w7.heap.size,0,Z⟩)]) (.func (.func 17) #[] #[Aj (J ⟨w7.heap.size,0,Z⟩)]) (Ai #[O U f.h.op,O U f.h.p,O U f.h.o,O U f.h.v,O U f.h.g,I AF f.args.length cf])) (JA v0 [(4,f1 13 0 gg f),(5,yx f (f1 13 0 gg f)),(6,f1 11 0 gg (yx f (f1 13 0 gg f)))] [(7,6,8)]) (by kernel_rfl) ⟨fun _=>undef,fun _=>0⟩ (JA.start Gv.out.drew) ?_ ?_
 . refine⟨?_,?_,?_,?_,?_,?_,?_,?_,?_,trivial⟩
   . intro l g W a hJ cy aZ aG
     have rj:(a.tmps[10]?).getD undef=.func (.func 16) #[] #[Aj (J ⟨w7.heap.size,0,Z⟩)]:=aG.oldD 10 rfl;refine ye rfl fun K hK=>?_
     go_simp;exact hK g _ _ rfl (fun _ _=>rfl) (hJ.idle (i:=0) rfl rfl)
   . intro l g W a hJ cy aZ aG
     have e4:(a.tmps[4]?).getD undef=Aj (J ⟨w.heap.size+1,0,Z⟩):=aG.oldD 4 rfl;have ce:=E4.out W hJ.low;obtain⟨x0,x1,x2,x3,x4,x5,_⟩:=Ki (ce);refine ye rfl fun K hK=>?_
     go_simp;exact hK g _ _ rfl (fun _ _=>rfl) (hJ.idle (i:=1) rfl rfl)
   . intro l g W a hJ cy aZ aG
     have BF:(a.tmps[11]?).getD undef=.func (.func 17) #[] #[Aj (J ⟨w7.heap.size,0,Z⟩)]:=aG.oldD 11 rfl;refine ye rfl fun K hK=>?_
     go_simp;exact hK g _ _ rfl (fun _ _=>rfl) (hJ.idle (i:=2) rfl rfl)
   . intro l g W a hJ cy aZ aG
     have e4:(a.tmps[4]?).getD undef=Aj (J ⟨w.heap.size+1,0,Z⟩):=aG.oldD 4 rfl;have ce:=E4.out W hJ.low;obtain⟨x0,x1,x2,x3,x4,x5,_⟩:=Ki (ce);refine ye rfl fun K hK=>?_
     go_simp;exact hK g _ _ rfl (fun _ _=>rfl) (hJ.idle (i:=3) rfl rfl)
   . intro l g W a hJ cy aZ aG
     have l2:=aZ ⟨2,.data⟩ (by simp) rfl;have Y':=aG.newD 2 41 rfl l2 (by show 41<127;decide);simp only[kT] at Y';have l3:=aZ ⟨3,.data⟩ (by simp) rfl;have WZ:=aG.newD 3 42 rfl l3 (by show 42<127;decide);simp only[kT] at WZ;refine ye rfl fun K hK=>?_
     go_simp;refine(topCom_S (gg:Int) w7.heap.size f _ W (mU.out W hJ.low) (kK [(7,6,8)] l g) (rA.out W hJ.low (kK [(7,6,8)] l g) (fun k hk x hx hl=>by have:=(hJ.blk x hx hl).1;omega))).mono ?_;rintro e w' ⟨v,rfl,hv,hb⟩;exact hK { g with v:=fun j=>if j=4 then v else g.v j } _ _ rfl (fun j hj=>ux (.func (.func 16) #[] #[Aj (J ⟨w7.heap.size,0,Z⟩)]) (.func (.func 17) #[] #[Aj (J ⟨w7.heap.size,0,Z⟩)]) (Ai #[O U f.h.op,O U f.h.p,O U f.h.o,O U f.h.v,O U f.h.g,I AF f.args.length cf]) j (Lg (fun e=>by rw[e,cy] at hj;cases hj)) rfl) (hJ.call (F:=f1 13 0 gg f) rfl cy (fun c hc e=>by simp only[List.mem_cons,List.not_mem_nil,or_false] at hc;rcases hc with rfl | rfl | rfl<;>first | rfl | (simp at e)) rfl hv hb)
   . intro l g W a hJ cy aZ aG
     have l1:=aZ ⟨1,.data⟩ (by simp) rfl;have e40:=aG.newD 1 40 rfl l1 (by show 40<127;decide);simp only[kT] at e40;have l4:=aZ ⟨4,.data⟩ (by simp) rfl;have Na:=aG.newD 4 43 rfl l4 (by show 43<127;decide);simp only[kT] at Na;refine ye rfl fun K hK=>?_
     go_simp;refine(ZN f (f1 13 0 gg f) _ _ W (kK [(7,6,8)] l g) (rA.out W hJ.low (kK [(7,6,8)] l g) (fun k hk x hx hl=>by have:=(hJ.blk x hx hl).1;omega)) (hJ.val (4,f1 13 0 gg f) (by simp) l4)).mono ?_;rintro e w' ⟨v,rfl,hv,hb⟩;exact hK { g with v:=fun j=>if j=5 then v else g.v j } _ _ rfl (fun j hj=>ux (.func (.func 16) #[] #[Aj (J ⟨w7.heap.size,0,Z⟩)]) (.func (.func 17) #[] #[Aj (J ⟨w7.heap.size,0,Z⟩)]) (Ai #[O U f.h.op,O U f.h.p,O U f.h.o,O U f.h.v,O U f.h.g,I AF f.args.length cf]) j (Lg (fun e=>by rw[e,cy] at hj;cases hj)) rfl) (hJ.call (F:=yx f (f1 13 0 gg f)) rfl cy (fun c hc e=>by simp only[List.mem_cons,List.not_mem_nil,or_false] at hc;rcases hc with rfl | rfl | rfl<;>first | rfl | (simp at e)) rfl hv hb)
   . intro l g W a hJ cy aZ aG
     have l0:=aZ ⟨0,.data⟩ (by simp) rfl;have e39:=aG.newD 0 39 rfl l0 (by show 39<127;decide);simp only[kT] at e39;have l5:=aZ ⟨5,.data⟩ (by simp) rfl;have WY:=aG.newD 5 44 rfl l5 (by show 44<127;decide);simp only[kT] at WY;refine ye rfl fun K hK=>?_
     go_simp;refine(JT (gg:Int) w7.heap.size (yx f (f1 13 0 gg f)) _ W (mU.out W hJ.low) (kK [(7,6,8)] l g) (hJ.val (5,yx f (f1 13 0 gg f)) (by simp) l5)).mono ?_;rintro e w' ⟨v,rfl,hv,hb⟩;exact hK { g with v:=fun j=>if j=6 then v else g.v j } _ _ rfl (fun j hj=>ux (.func (.func 16) #[] #[Aj (J ⟨w7.heap.size,0,Z⟩)]) (.func (.func 17) #[] #[Aj (J ⟨w7.heap.size,0,Z⟩)]) (Ai #[O U f.h.op,O U f.h.p,O U f.h.o,O U f.h.v,O U f.h.g,I AF f.args.length cf]) j (Lg (fun e=>by rw[e,cy] at hj;cases hj)) rfl) (hJ.call (F:=f1 11 0 gg (yx f (f1 13 0 gg f))) rfl cy (fun c hc e=>by simp only[List.mem_cons,List.not_mem_nil,or_false] at hc;rcases hc with rfl | rfl | rfl<;>first | rfl | (simp at e)) rfl hv hb)
   . intro l g W a hJ cy aZ aG
     refine ye rfl fun K hK=>?_
     go_simp;exact hK { g with b:=fun j=>if j=7 then W.heap.size else g.b j } _ _ rfl (fun j hj=>ux (.func (.func 16) #[] #[Aj (J ⟨w7.heap.size,0,Z⟩)]) (.func (.func 17) #[] #[Aj (J ⟨w7.heap.size,0,Z⟩)]) (Ai #[O U f.h.op,O U f.h.p,O U f.h.o,O U f.h.v,O U f.h.g,I AF f.args.length cf]) j rfl (Lg (fun e=>by rw[e,cy] at hj;cases hj))) (hJ.alloc (x0:=(7,6,8)) rfl cy (by simp) rfl (zx _ _) (zU _ _))
   intro l g W a hJ cy aZ aG;have l7:=aZ ⟨7,.data⟩ (by simp) rfl;have BE:=aG.newD 7 12 rfl l7 (by show 12<127;decide);simp only[kT] at BE;have l6:=aZ ⟨6,.data⟩ (by simp) rfl;have M':=aG.newD 6 45 rfl l6 (by show 45<127;decide);simp only[kT] at M';obtain⟨dv,Av,cv,ev,_⟩:=hJ.val (6,f1 11 0 gg (yx f (f1 13 0 gg f))) (by simp) l6;dsimp only at ev;have hz:=(hJ.blk (7,6,8) (by simp) l7).2.2.1 cy;dsimp only at hz;unfold z6A at hz;obtain⟨r0,r1,r2,r3,r4,r5,_⟩:=Ki (hz);have y0:=zi hz 0;have y1:=zi hz 1;have y2:=zi hz 2;have y3:=zi hz 3;have y4:=zi hz 4;have y5:=zi hz 5;rw[ev] at M';unfold Fm.vs at M';refine ye rfl fun K hK=>?_
   go_simp;obtain⟨wS,Ci,CV,CU,CT,CS⟩:=xU hz (O U (f1 11 0 gg (yx f (f1 13 0 gg f))).h.op) (O U (f1 11 0 gg (yx f (f1 13 0 gg f))).h.p) (O U (f1 11 0 gg (yx f (f1 13 0 gg f))).h.o) (O U (f1 11 0 gg (yx f (f1 13 0 gg f))).h.v) (O U (f1 11 0 gg (yx f (f1 13 0 gg f))).h.g) (.slice Av (f1 11 0 gg (yx f (f1 13 0 gg f))).args.length cv);rw[Ci];exact hK g _ _ rfl (fun _ _=>rfl) (hJ.store (x0:=(7,6,8)) rfl cy (by simp) rfl l7 l6 ev CV CU CT CS)
 intro l g W ax hJ;rw[jD (D:=[J 39,J 40,J 41,J 42,J 43,J 44,J 45,J 12,Z]) rfl];simp only[jw,wG,kT];obtain⟨aQ,ah,-,al⟩:=hJ.blk (7,6,8) (by simp) (ax 7 (by decide));obtain⟨vs9,Fz,tZ⟩:=al (ax 8 (by decide));have Dz:=hJ.val (6,(f1 11 0 gg (yx f (f1 13 0 gg f)))) (by simp) (ax 6 (by decide));have G9:=zH hJ.low;dsimp only at aQ ah Fz tZ Dz;obtain⟨b9,ey⟩:=Kk (g.b 7);rw[ey] at aQ ah tZ ⊢;obtain⟨d9,A9,c9,VL,VH⟩:=Dz;obtain⟨ST,Wi⟩:=Kk ((f1 11 0 gg (yx f (f1 13 0 gg f))));rw[Wi] at VL VH;have hve:vs9=ST.vs A9 c9:=Value.agg.inj (Fz.symm.trans VL);rw[hve] at tZ;have HVC:Aq (Vf T [] N 128 24 (fIf f (f1 11 0 gg f)) (Q8 (ptn T) AA (evG T (gg:Int) AA))):=(mR.out.imp (mR.out.every OR.out.2)).more (by omega) (by omega);rw[Wi] at Ts;have en:Aq (∀X,Am W.heap.size W X->FmA X ST (.agg (ST.vs A9 c9))):=fun X hX=>FmA.keep (FmX.all ⟨d9,A9,c9,rfl,VH⟩) hX
 have E12:Aq (∀X,Am W.heap.size W X->X.heap[b9]?=J (Ag #[O U ST.h.op,O U ST.h.p,O U ST.h.o,O U ST.h.v,O U ST.h.g,I A9 ST.args.length c9] 32 (0,0))):=fun X hX=>Lb hX ah tZ
 have eP:∀X,Am W.heap.size W X->Am v0.heap.size v0 X:=fun X hX=>Lc G9.out hX
 have E7:=zH (fun (X:Ba) (hX:Am W.heap.size W X)=>E7.out X (eP X hX));have E9:=zH (fun (X:Ba) (hX:Am W.heap.size W X)=>E9.out X (eP X hX));have E4:=zH (fun (X:Ba) (hX:Am W.heap.size W X)=>E4.out X (eP X hX));have mU:=zH (fun (X:Ba) (hX:Am W.heap.size W X)=>mU.out X (eP X hX));have cd:=zH (fun (X:Ba) (hX:Am W.heap.size W X)=>cd.out X (eP X hX));have pD:=zH (fun (X:Ba) (hX:Am W.heap.size W X)=>pD.out X (eP X hX));have oH:=zH (fun (l:List Fm) (aN:l.length<=1000) (hv:∀x∈l,Vald T [] N x) (X:Ba) (hX:Am W.heap.size W X)=>oH.out l aN hv X (eP X hX));have HVA:=zH (fun (F:Fm) (B:List Bool) (hF:Vf T [] N 128 24 F B) (v:Ar) (X:Ba) (hv:FmA X F v) (hX:Am W.heap.size W X)=>valid_at T K N HTW.out AC dw AV AX dn dm kv kx F B hF v X hv (pD.out X hX));unfold Sy.vs_ at HVA;unfold Fm.vs at en;have G0:Aq (Am W.heap.size W W):=Li _ _;clear eP hJ ax aQ ah al Fz tZ hve VH VL rA Gv GV0;go_simp;clear ey Wi;go_upto_region 10 with fail
 have ai:Aq (∀X,Am W.heap.size W X->X.heap[w6.heap.size]?=J (Ag #[O U T.p.t.n,O U T.p.t.ins,O U T.p.t.outs,I AC T.p.t.cases.length dn,O U T.p.a.n,I dw T.p.a.sts.length dm,O U T.p.k,O U T.n,I AV T.vs.length kv,I AX T.xs.length kx] 39 (0,0))/\X.heap[w.heap.size+1]?=J (Ag #[O U f.h.op,O U f.h.p,O U f.h.o,O U f.h.v,O U f.h.g,I AF f.args.length cf] 32 (0,0))/\X.heap[b9]?=J (Ag #[O U ST.h.op,O U ST.h.p,O U ST.h.o,O U ST.h.v,O U ST.h.g,I A9 ST.args.length c9] 32 (0,0))):=fun X hX=>⟨E7.out X hX,E4.out X hX,E12.out X hX⟩
 refine zt [(0,Au),(1,Au),(2,Au),(4,Au),(6,Au),(7,Au),(8,Au),(11,Au),(12,Au),(14,Au),(15,Au),(16,Au),(20,Au),(21,Au),(23,Au),(3,Aw),(5,Aw),(9,Aw),(10,Aw),(13,Aw),(17,Aw),(18,Aw),(19,Aw),(22,Aw),(24,Aw),(25,Aw),(26,Aw),(27,Au)] (fun X=>X.heap[w6.heap.size]?=J (Ag #[O U T.p.t.n,O U T.p.t.ins,O U T.p.t.outs,I AC T.p.t.cases.length dn,O U T.p.a.n,I dw T.p.a.sts.length dm,O U T.p.k,O U T.n,I AV T.vs.length kv,I AX T.xs.length kx] 39 (0,0))/\X.heap[w.heap.size+1]?=J (Ag #[O U f.h.op,O U f.h.p,O U f.h.o,O U f.h.v,O U f.h.g,I AF f.args.length cf] 32 (0,0))/\X.heap[b9]?=J (Ag #[O U ST.h.op,O U ST.h.p,O U ST.h.o,O U ST.h.v,O U ST.h.g,I A9 ST.args.length c9] 32 (0,0))) (by kernel_rfl) (by kernel_rfl) (ai.out _ G0.out.drew) ?_;apply zj rfl
 . rintro K' aa X u
   have e:=u.1;obtain⟨x0,x1,x2,x3,x4,x5,x6,x7,x8,x9⟩:=zK (e);clear u e;go_simp;exact aa
 apply zj rfl
 . rintro K' aa X -
   go_simp;exact aa
 apply zj rfl
 . rintro K' aa X u
   have e:=u.2.1;obtain⟨x0,x1,x2,x3,x4,x5,_⟩:=Ki (e);clear u e;go_simp;exact aa
 apply zj rfl
 . rintro K' aa X u
   have e:=u.2.2;obtain⟨x0,x1,x2,x3,x4,x5,_⟩:=Ki (e);clear u e;go_simp;exact aa
 apply zj rfl
 . rintro K' aa X u
   have e:=u.2.2;obtain⟨x0,x1,x2,x3,x4,x5,_⟩:=Ki (e);clear u e;go_simp;exact aa
 apply zj rfl
 . rintro K' aa X -
   go_simp;exact aa
 apply zj rfl
 . rintro K' aa X u
   have e:=u.2.1;obtain⟨x0,x1,x2,x3,x4,x5,_⟩:=Ki (e);clear u e;go_simp;exact aa
 apply zj rfl
 . rintro K' aa X -
   go_simp;exact aa
 apply zj rfl
 . rintro K' aa X u
   have e:=u.2.1;obtain⟨x0,x1,x2,x3,x4,x5,_⟩:=Ki (e);clear u e;go_simp;exact aa
 apply zj rfl
 . rintro K' aa X -
   go_simp;exact aa
 apply zj rfl
 . rintro K' aa X -
   go_simp;exact aa
 apply zj rfl
 . rintro K' aa X u
   have e:=u.2.1;obtain⟨x0,x1,x2,x3,x4,x5,_⟩:=Ki (e);clear u e;go_simp;exact aa
 apply zj rfl
 . rintro K' aa X -
   go_simp;exact aa
 apply zj rfl
 . rintro K' aa X u
   have e:=u.2.1;obtain⟨x0,x1,x2,x3,x4,x5,_⟩:=Ki (e);clear u e;go_simp;exact aa
 apply zj rfl
 . rintro K' aa X u
   have e:=u.2.1;obtain⟨x0,x1,x2,x3,x4,x5,_⟩:=Ki (e);clear u e;go_simp;exact aa
 refine zn rfl ?_;intro K' aa;go_simp;refine(xP (gg:Int) w7.heap.size f _ _ (mU.out _ G0.out.drew) (cd.out W.drew G0.out.drew)).mono ?_;rintro e sR ⟨Um,rfl,hv,hb⟩;have au:=zH hv;have fC:Aq (Am W.heap.size W sR):=Lc G0.out.drew hb;refine aa _ _ (ai.out _ fC.out) ?_;clear aa K' hb hv;refine zn rfl ?_;intro K' aa;go_simp;refine(yW (f1 13 0 gg f) ST _ _ _ au.out (en.out sR fC.out)).mono ?_;rintro e sf ⟨Ue,rfl,hv,hb⟩;have ay:=zH hv;have fB:Aq (Am W.heap.size W sf):=Lc fC.out hb;have au:=zH (au.out.keep hb);refine aa _ _ (ai.out _ fB.out) ?_;clear aa K' hb hv;refine zn rfl ?_;intro K' aa;go_simp;refine(xP (gg:Int) w7.heap.size f _ _ (mU.out _ fB.out) (cd.out sf fB.out)).mono ?_;rintro e Dr ⟨mv3,rfl,hv,hb⟩;have aI:=zH hv;have iR:Aq (Am W.heap.size W Dr):=Lc fB.out hb;have au:=zH (au.out.keep hb);have ay:=zH (ay.out.keep hb);refine aa _ _ (ai.out _ iR.out) ?_;clear aa K' hb hv;refine zn rfl ?_;intro K' aa;go_simp;refine(yW ST (f1 13 0 gg f) _ _ _ (en.out Dr iR.out) aI.out).mono ?_;rintro e Fs ⟨mv4,rfl,hv,hb⟩;have aV:=zH hv;have iQ:Aq (Am W.heap.size W Fs):=Lc iR.out hb;have au:=zH (au.out.keep hb);have ay:=zH (ay.out.keep hb);have aI:=zH (aI.out.keep hb);refine aa _ _ (ai.out _ iQ.out) ?_;clear aa K' hb hv;refine zn rfl ?_;intro K' aa;go_simp
 refine(xP (gg:Int) w7.heap.size f _ _ (mU.out _ iQ.out) (cd.out Fs iQ.out)).mono ?_;rintro e Fr ⟨mv5,rfl,hv,hb⟩;have aS:=zH hv;have mp:Aq (Am W.heap.size W Fr):=Lc iQ.out hb;have au:=zH (au.out.keep hb);have ay:=zH (ay.out.keep hb);have aI:=zH (aI.out.keep hb);have aV:=zH (aV.out.keep hb);refine aa _ _ (ai.out _ mp.out) ?_;clear aa K' hb hv;refine zn rfl ?_;intro K' aa;go_simp;refine(xP (gg:Int) w7.heap.size f _ _ (mU.out _ mp.out) (cd.out Fr mp.out)).mono ?_;rintro e Fq ⟨mv6,rfl,hv,hb⟩;have bq:=zH hv;have iP:Aq (Am W.heap.size W Fq):=Lc mp.out hb;have au:=zH (au.out.keep hb);have ay:=zH (ay.out.keep hb);have aI:=zH (aI.out.keep hb);have aV:=zH (aV.out.keep hb);have aS:=zH (aS.out.keep hb);refine aa _ _ (ai.out _ iP.out) ?_;clear aa K' hb hv;refine zn rfl ?_;intro K' aa;go_simp;refine(xP (gg:Int) w7.heap.size (f1 13 0 gg f) _ _ (mU.out _ iP.out) bq.out).mono ?_;rintro e Hy ⟨mv7,rfl,hv,hb⟩;have ch:=zH hv;have mW:Aq (Am W.heap.size W Hy):=Lc iP.out hb;have au:=zH (au.out.keep hb);have ay:=zH (ay.out.keep hb);have aI:=zH (aI.out.keep hb);have aV:=zH (aV.out.keep hb);have aS:=zH (aS.out.keep hb);have bq:=zH (bq.out.keep hb);refine aa _ _ (ai.out _ mW.out) ?_;clear aa K' hb hv;refine zn rfl ?_;intro K' aa;go_simp
 refine(yW (f1 13 0 gg f) (f1 13 0 gg (f1 13 0 gg f)) _ _ _ aS.out ch.out).mono ?_;rintro e Dq ⟨mv8,rfl,hv,hb⟩;have bP:=zH hv;have iO:Aq (Am W.heap.size W Dq):=Lc mW.out hb;have au:=zH (au.out.keep hb);have ay:=zH (ay.out.keep hb);have aI:=zH (aI.out.keep hb);have aV:=zH (aV.out.keep hb);have aS:=zH (aS.out.keep hb);have bq:=zH (bq.out.keep hb);have ch:=zH (ch.out.keep hb);refine aa _ _ (ai.out _ iO.out) ?_;clear aa K' hb hv;refine zn rfl ?_;intro K' aa;go_simp;refine(xP (gg:Int) w7.heap.size f _ _ (mU.out _ iO.out) (cd.out Dq iO.out)).mono ?_;rintro e Fp ⟨mv9,rfl,hv,hb⟩;have cq:=zH hv;have mV:Aq (Am W.heap.size W Fp):=Lc iO.out hb;have au:=zH (au.out.keep hb);have ay:=zH (ay.out.keep hb);have aI:=zH (aI.out.keep hb);have aV:=zH (aV.out.keep hb);have aS:=zH (aS.out.keep hb);have bq:=zH (bq.out.keep hb);have ch:=zH (ch.out.keep hb);have bP:=zH (bP.out.keep hb);refine aa _ _ (ai.out _ mV.out) ?_;clear aa K' hb hv;refine zn rfl ?_;intro K' aa;go_simp;refine(yW (f1 13 0 gg f) f _ _ _ cq.out (cd.out Fp mV.out)).mono ?_;rintro e nA ⟨Km,rfl,hv,hb⟩;have bz:=zH hv;have fi:Aq (Am W.heap.size W nA):=Lc mV.out hb;have au:=zH (au.out.keep hb);have ay:=zH (ay.out.keep hb);have aI:=zH (aI.out.keep hb);have aV:=zH (aV.out.keep hb);have aS:=zH (aS.out.keep hb)
 have bq:=zH (bq.out.keep hb);have ch:=zH (ch.out.keep hb);have bP:=zH (bP.out.keep hb);have cq:=zH (cq.out.keep hb);refine aa _ _ (ai.out _ fi.out) ?_;clear aa K' hb hv;obtain⟨AI,pk,oY,rfl,oP⟩:=ay.out;obtain⟨dmv4,PV,Oc,rfl,K7⟩:=aV.out;obtain⟨dmv8,PI,Oa,rfl,K3⟩:=bP.out;obtain⟨NN,Fk,Ev,rfl,DN⟩:=bz.out;refine zn rfl ?_;intro K' aa;unfold Fm.vs;go_simp
 obtain⟨wL,mZ,dL,sj,ex⟩:=zm nA #[O U (fIf (f1 13 0 gg f) ST).h.op,O U (fIf (f1 13 0 gg f) ST).h.p,O U (fIf (f1 13 0 gg f) ST).h.o,O U (fIf (f1 13 0 gg f) ST).h.v,O U (fIf (f1 13 0 gg f) ST).h.g,.slice pk (fIf (f1 13 0 gg f) ST).args.length oY,O U (fIf ST (f1 13 0 gg f)).h.op,O U (fIf ST (f1 13 0 gg f)).h.p,O U (fIf ST (f1 13 0 gg f)).h.o,O U (fIf ST (f1 13 0 gg f)).h.v,O U (fIf ST (f1 13 0 gg f)).h.g,.slice PV (fIf ST (f1 13 0 gg f)).args.length Oc,O U (fIf (f1 13 0 gg f) (f1 13 0 gg (f1 13 0 gg f))).h.op,O U (fIf (f1 13 0 gg f) (f1 13 0 gg (f1 13 0 gg f))).h.p,O U (fIf (f1 13 0 gg f) (f1 13 0 gg (f1 13 0 gg f))).h.o,O U (fIf (f1 13 0 gg f) (f1 13 0 gg (f1 13 0 gg f))).h.v,O U (fIf (f1 13 0 gg f) (f1 13 0 gg (f1 13 0 gg f))).h.g,.slice PI (fIf (f1 13 0 gg f) (f1 13 0 gg (f1 13 0 gg f))).args.length Oa,O U (fIf (f1 13 0 gg f) f).h.op,O U (fIf (f1 13 0 gg f) f).h.p,O U (fIf (f1 13 0 gg f) f).h.o,O U (fIf (f1 13 0 gg f) f).h.v,O U (fIf (f1 13 0 gg f) f).h.g,.slice Fk (fIf (f1 13 0 gg f) f).args.length Ev] 32;rw[mZ]
 have an:∃D,FsAt wL wL.heap.size (D+1) (J ⟨nA.heap.size,0,Z⟩) [fIf (f1 13 0 gg f) ST,fIf ST (f1 13 0 gg f),fIf (f1 13 0 gg f) (f1 13 0 gg (f1 13 0 gg f)),fIf (f1 13 0 gg f) f]:=by
  refine uh dL fun i hi=>?_
  have h5:i=0\/i=1\/i=2\/i=3:=by have:i<4:=hi;omega
  rcases h5 with rfl | rfl | rfl | rfl
  . exact⟨AI,pk,oY,fun j v hv=>by rcases six (xR hv) with rfl | rfl | rfl | rfl | rfl | rfl<;>exact hv,yP oP ex⟩
  . exact⟨dmv4,PV,Oc,fun j v hv=>by rcases six (xR hv) with rfl | rfl | rfl | rfl | rfl | rfl<;>exact hv,yP K7 ex⟩
  . exact⟨dmv8,PI,Oa,fun j v hv=>by rcases six (xR hv) with rfl | rfl | rfl | rfl | rfl | rfl<;>exact hv,yP K3 ex⟩
  exact⟨NN,Fk,Ev,fun j v hv=>by rcases six (xR hv) with rfl | rfl | rfl | rfl | rfl | rfl<;>exact hv,yP DN ex⟩
 obtain⟨DL,ni⟩:=an;have GL:Aq (Am W.heap.size W wL):=Lc fi.out ex;have HC:=zH (oH.out [fIf (f1 13 0 gg f) ST,fIf ST (f1 13 0 gg f),fIf (f1 13 0 gg f) (f1 13 0 gg (f1 13 0 gg f)),fIf (f1 13 0 gg f) f] (by simp) Ts.out wL GL.out (J ⟨nA.heap.size,0,Z⟩) 4 DL ni);refine aa _ _ (ai.out _ GL.out) ?_;clear aa K' mZ dL sj ex ni au ay aI aV aS bq ch bP cq bz oP K7 K3 DN;refine zn rfl ?_;intro K' aa;go_simp;refine HC.out.mono ?_;rintro e wV ⟨rfl,hb⟩;have GV:=zH (Lc GL.out hb);refine aa _ _ (ai.out _ GV.out) ?_;clear aa K' hb HC;apply zj rfl
 . rintro K' aa X -
   go_simp;exact aa
 refine zy ?_;have y7:=zh (E7.out _ GV.out) 7 rfl;rw[AN.out] at y7;go_wp2_with fail
 go_loopw [77] (fun i wr=>∃k:Nat,k<=N/\i=O U (k:Int)/\Aq (Am W.heap.size W wr)) (fun i _=>N-(Ap i).toNat)
 case atStart=>exact⟨0,by omega,rfl,GV⟩
 obtain⟨k,hk,rfl,aO⟩:=hrel;have pU:k<=5:=by have:=HN.out;omega
 have pm:IntKind.i64.wrap ((k:Int)+1)=((k+1:Nat):Int):=by rw[Ll];omega
 by_cases ac:k<N
 . have dS:(0:Int)<=(k:Int):=by omega
   have aW:(k:Int)<(N:Int):=by omega
   have tM:min k 64=k:=by omega
   have hkN:k<5:=by have:=HN.out;omega
   have aQ:=YL OR.out.1 hkN;clear y7
   by_cases eH:gg.testBit k=Au
   case neg=>
    have DZ:gg.testBit k=Aw:=by simpa using eH
    rw[DZ] at aQ;go_upto_region 15 with fail
    have ai:Aq (∀X,Am W.heap.size W X->X.heap[w7.heap.size]?=J (Ag #[O U (gg:Int)] 3 (0,0))/\X.heap[w6.heap.size]?=J (Ag #[O U T.p.t.n,O U T.p.t.ins,O U T.p.t.outs,I AC T.p.t.cases.length dn,O U T.p.a.n,I dw T.p.a.sts.length dm,O U T.p.k,O U T.n,I AV T.vs.length kv,I AX T.xs.length kx] 39 (0,0))/\X.heap[w.heap.size+1]?=J (Ag #[O U f.h.op,O U f.h.p,O U f.h.o,O U f.h.v,O U f.h.g,I AF f.args.length cf] 32 (0,0))):=fun X hX=>⟨E9.out X hX,E7.out X hX,E4.out X hX⟩
    refine zt [(0,Au),(1,Au),(2,Au),(3,Au),(4,Au),(5,Au),(6,Au),(7,Au),(8,Au),(10,Au),(11,Au),(9,Aw),(12,Aw),(13,Aw),(14,Aw),(15,Aw),(16,Au),(17,Au)] (fun X=>X.heap[w7.heap.size]?=J (Ag #[O U (gg:Int)] 3 (0,0))/\X.heap[w6.heap.size]?=J (Ag #[O U T.p.t.n,O U T.p.t.ins,O U T.p.t.outs,I AC T.p.t.cases.length dn,O U T.p.a.n,I dw T.p.a.sts.length dm,O U T.p.k,O U T.n,I AV T.vs.length kv,I AX T.xs.length kx] 39 (0,0))/\X.heap[w.heap.size+1]?=J (Ag #[O U f.h.op,O U f.h.p,O U f.h.o,O U f.h.v,O U f.h.g,I AF f.args.length cf] 32 (0,0))) (by kernel_rfl) (by kernel_rfl) (ai.out _ aO.out.drew) ?_;apply zj rfl
    . rintro K' aa X u
      have e:=u.1;have x0:=zh (e) 0 rfl;clear u e;go_simp;exact aa
    apply zj rfl
    . rintro K' aa X -
      go_simp;exact aa
    apply zj rfl
    . rintro K' aa X -
      go_simp;exact aa
    apply zj rfl
    . rintro K' aa X -
      go_simp;exact aa
    apply zj rfl
    . rintro K' aa X -
      go_simp;exact aa
    apply zj rfl
    . rintro K' aa X -
      go_simp;exact aa
    apply zj rfl
    . rintro K' aa X -
      go_simp;exact aa
    apply zj rfl
    . rintro K' aa X -
      go_simp;exact aa
    apply zj rfl
    . rintro K' aa X -
      go_simp;exact aa
    apply zj rfl
    . rintro K' aa X -
      go_simp;exact aa
    apply zj rfl
    . rintro K' aa X -
      go_simp;exact aa
    refine zn rfl ?_;intro K' aa;go_simp;refine aa _ _ (ai.out _ aO.out.drew) ?_;clear aa K';refine zn rfl ?_;intro K' aa;go_simp;refine aa _ _ (ai.out _ aO.out.drew) ?_;clear aa K';refine zn rfl ?_;intro K' aa;go_simp;refine aa _ _ (ai.out _ aO.out.drew) ?_;clear aa K';refine zn rfl ?_;intro K' aa;go_simp;refine aa _ _ (ai.out _ aO.out.drew) ?_;clear aa K';refine zn rfl ?_;intro K' aa;go_simp;refine aa _ _ (ai.out _ aO.out.drew) ?_;clear aa K';apply zj rfl
    . rintro K' aa X -
      go_simp;exact aa
    apply zj rfl
    . rintro K' aa X -
      go_simp;exact aa
    refine zy ?_;have sO:=zH (aO.out.drew);go_wp2_with fail
    go_roundw
    case rel=>exact⟨k+1,by omega,by go_num,sO⟩
    simp[Ap];omega
   rw[eH] at aQ;have HV2k:=zH (Oo.out k ac eH);go_upto_region 15 with fail
   have ai:Aq (∀X,Am W.heap.size W X->X.heap[w7.heap.size]?=J (Ag #[O U (gg:Int)] 3 (0,0))/\X.heap[w6.heap.size]?=J (Ag #[O U T.p.t.n,O U T.p.t.ins,O U T.p.t.outs,I AC T.p.t.cases.length dn,O U T.p.a.n,I dw T.p.a.sts.length dm,O U T.p.k,O U T.n,I AV T.vs.length kv,I AX T.xs.length kx] 39 (0,0))/\X.heap[w.heap.size+1]?=J (Ag #[O U f.h.op,O U f.h.p,O U f.h.o,O U f.h.v,O U f.h.g,I AF f.args.length cf] 32 (0,0))):=fun X hX=>⟨E9.out X hX,E7.out X hX,E4.out X hX⟩
   refine zt [(0,Au),(1,Au),(2,Au),(3,Au),(4,Au),(5,Au),(6,Au),(7,Au),(8,Au),(10,Au),(11,Au),(9,Aw),(12,Aw),(13,Aw),(14,Aw),(15,Aw),(16,Au),(17,Au)] (fun X=>X.heap[w7.heap.size]?=J (Ag #[O U (gg:Int)] 3 (0,0))/\X.heap[w6.heap.size]?=J (Ag #[O U T.p.t.n,O U T.p.t.ins,O U T.p.t.outs,I AC T.p.t.cases.length dn,O U T.p.a.n,I dw T.p.a.sts.length dm,O U T.p.k,O U T.n,I AV T.vs.length kv,I AX T.xs.length kx] 39 (0,0))/\X.heap[w.heap.size+1]?=J (Ag #[O U f.h.op,O U f.h.p,O U f.h.o,O U f.h.v,O U f.h.g,I AF f.args.length cf] 32 (0,0))) (by kernel_rfl) (by kernel_rfl) (ai.out _ aO.out.drew) ?_;apply zj rfl
   . rintro K' aa X u
     have e:=u.1;have x0:=zh (e) 0 rfl;clear u e;go_simp;exact aa
   apply zj rfl
   . rintro K' aa X -
     go_simp;exact aa
   apply zj rfl
   . rintro K' aa X -
     go_simp;exact aa
   apply zj rfl
   . rintro K' aa X -
     go_simp;exact aa
   apply zj rfl
   . rintro K' aa X -
     go_simp;exact aa
   apply zj rfl
   . rintro K' aa X -
     go_simp;exact aa
   apply zj rfl
   . rintro K' aa X u
     have e:=u.2.1;obtain⟨x0,x1,x2,x3,x4,x5,x6,x7,x8,x9⟩:=zK (e);clear u e;go_simp;exact aa
   apply zj rfl
   . rintro K' aa X -
     go_simp;exact aa
   apply zj rfl
   . rintro K' aa X u
     have e:=u.2.2;obtain⟨x0,x1,x2,x3,x4,x5,_⟩:=Ki (e);clear u e;go_simp;exact aa
   apply zj rfl
   . rintro K' aa X -
     go_simp;exact aa
   apply zj rfl
   . rintro K' aa X u
     have e:=u.2.2;obtain⟨x0,x1,x2,x3,x4,x5,_⟩:=Ki (e);clear u e;go_simp;exact aa
   refine zn rfl ?_;intro K' aa;go_simp;refine(uy (gg:Int) w7.heap.size f _ _ (mU.out _ aO.out.drew) (cd.out wr.drew aO.out.drew)).mono ?_;rintro e Dp ⟨nv1,rfl,hv,hb⟩;have cc:=zH hv;have mo:Aq (Am W.heap.size W Dp):=Lc aO.out.drew hb;refine aa _ _ (ai.out _ mo.out) ?_;clear aa K' hb hv;refine zn rfl ?_;intro K' aa;go_simp;refine(tryKnA f _ _ (cd.out Dp mo.out) (k:Int)).mono ?_;rintro e Fn ⟨nv2,rfl,hv,hb⟩;have cB:=zH hv;have mn:Aq (Am W.heap.size W Fn):=Lc mo.out hb;have cc:=zH (cc.out.keep hb);refine aa _ _ (ai.out _ mn.out) ?_;clear aa K' hb hv;refine zn rfl ?_;intro K' aa;go_simp;refine(yW (f1 11 0 gg f) (f1 10 k 0 f) _ _ _ cc.out cB.out).mono ?_;rintro e Hx ⟨nv3,rfl,hv,hb⟩;have dh:=zH hv;have Bj:Aq (Am W.heap.size W Hx):=Lc mn.out hb;have cc:=zH (cc.out.keep hb);have cB:=zH (cB.out.keep hb);refine aa _ _ (ai.out _ Bj.out) ?_;clear aa K' hb hv;obtain⟨dnv3,PC,N5,rfl,KV⟩:=dh.out;refine zn rfl ?_;intro K' aa;unfold Fm.vs;go_simp;obtain⟨wL,mZ,dL,sj,ex⟩:=zm Hx #[O U (fIf (f1 11 0 gg f) (f1 10 k 0 f)).h.op,O U (fIf (f1 11 0 gg f) (f1 10 k 0 f)).h.p,O U (fIf (f1 11 0 gg f) (f1 10 k 0 f)).h.o,O U (fIf (f1 11 0 gg f) (f1 10 k 0 f)).h.v,O U (fIf (f1 11 0 gg f) (f1 10 k 0 f)).h.g,.slice PC (fIf (f1 11 0 gg f) (f1 10 k 0 f)).args.length N5] 32;rw[mZ]
   have an:∃D,FsAt wL wL.heap.size (D+1) (J ⟨Hx.heap.size,0,Z⟩) [fIf (f1 11 0 gg f) (f1 10 k 0 f)]:=by
    refine uh dL fun i hi=>?_
    obtain rfl:i=0:=by have:i<1:=hi;omega
    exact⟨dnv3,PC,N5,fun j v hv=>by rcases six (xR hv) with rfl | rfl | rfl | rfl | rfl | rfl<;>exact hv,yP KV ex⟩
   obtain⟨DL,ni⟩:=an;have GL:Aq (Am W.heap.size W wL):=Lc Bj.out ex;have HC:=zH (oH.out [fIf (f1 11 0 gg f) (f1 10 k 0 f)] (by simp) HV2k.out wL GL.out (J ⟨Hx.heap.size,0,Z⟩) 1 DL ni);refine aa _ _ (ai.out _ GL.out) ?_;clear aa K' mZ dL sj ex ni cc cB dh KV;refine zn rfl ?_;intro K' aa;go_simp;refine HC.out.mono ?_;rintro e wV ⟨rfl,hb⟩;have GV:=zH (Lc GL.out hb);refine aa _ _ (ai.out _ GV.out) ?_;clear aa K' hb HC;apply zj rfl
   . rintro K' aa X -
     go_simp;exact aa
   apply zj rfl
   . rintro K' aa X -
     go_simp;exact aa
   refine zy ?_;have sO:=zH (GV.out);go_wp2_with fail
   go_roundw
   case rel=>exact⟨k+1,by omega,by go_num,sO⟩
   simp[Ap];omega
 obtain rfl:N=k:=by omega
 have aW:¬(N:Int)<(N:Int):=by omega
 clear y7;go_upto_region 18 with fail
 have ai:Aq (∀X,Am W.heap.size W X->X.heap[w6.heap.size]?=J (Ag #[O U T.p.t.n,O U T.p.t.ins,O U T.p.t.outs,I AC T.p.t.cases.length dn,O U T.p.a.n,I dw T.p.a.sts.length dm,O U T.p.k,O U T.n,I AV T.vs.length kv,I AX T.xs.length kx] 39 (0,0))/\X.heap[w.heap.size+1]?=J (Ag #[O U f.h.op,O U f.h.p,O U f.h.o,O U f.h.v,O U f.h.g,I AF f.args.length cf] 32 (0,0))):=fun X hX=>⟨E7.out X hX,E4.out X hX⟩
 refine zt [(0,Au),(1,Au),(2,Au),(3,Au),(4,Au),(5,Aw),(6,Aw),(7,Aw),(8,Au),(9,Au),(10,Au),(11,Au),(12,Au),(13,Au),(14,Au)] (fun X=>X.heap[w6.heap.size]?=J (Ag #[O U T.p.t.n,O U T.p.t.ins,O U T.p.t.outs,I AC T.p.t.cases.length dn,O U T.p.a.n,I dw T.p.a.sts.length dm,O U T.p.k,O U T.n,I AV T.vs.length kv,I AX T.xs.length kx] 39 (0,0))/\X.heap[w.heap.size+1]?=J (Ag #[O U f.h.op,O U f.h.p,O U f.h.o,O U f.h.v,O U f.h.g,I AF f.args.length cf] 32 (0,0))) (by kernel_rfl) (by kernel_rfl) (ai.out _ aO.out.drew) ?_;apply zj rfl
 . rintro K' aa X u
   have e:=u.1;obtain⟨x0,x1,x2,x3,x4,x5,x6,x7,x8,x9⟩:=zK (e);clear u e;go_simp;exact aa
 apply zj rfl
 . rintro K' aa X -
   go_simp;exact aa
 apply zj rfl
 . rintro K' aa X u
   have e:=u.2;obtain⟨x0,x1,x2,x3,x4,x5,_⟩:=Ki (e);clear u e;go_simp;exact aa
 apply zj rfl
 . rintro K' aa X -
   go_simp;exact aa
 apply zj rfl
 . rintro K' aa X u
   have e:=u.2;obtain⟨x0,x1,x2,x3,x4,x5,_⟩:=Ki (e);clear u e;go_simp;exact aa
 refine zn rfl ?_;intro K' aa;go_simp;refine(uy (gg:Int) w7.heap.size f _ _ (mU.out _ aO.out.drew) (cd.out wr.drew aO.out.drew)).mono ?_;rintro e Dp ⟨nv1,rfl,hv,hb⟩;have cc:=zH hv;have mo:Aq (Am W.heap.size W Dp):=Lc aO.out.drew hb;refine aa _ _ (ai.out _ mo.out) ?_;clear aa K' hb hv;refine zn rfl ?_;intro K' aa;go_simp;refine(yW f (f1 11 0 gg f) _ _ _ (cd.out Dp mo.out) cc.out).mono ?_;rintro e Fn ⟨nv2,rfl,hv,hb⟩;have cB:=zH hv;have mn:Aq (Am W.heap.size W Fn):=Lc mo.out hb;have cc:=zH (cc.out.keep hb);refine aa _ _ (ai.out _ mn.out) ?_;clear aa K' hb hv;refine zn rfl ?_;intro K' aa;go_simp;refine(HVA.out _ _ HVC.out _ Fn cB.out mn.out).mono ?_;rintro e wY ⟨bY,iY,rfl,hbY,hb⟩;have GY:=zH (Lc mn.out hb);have sN:=zH hbY;refine aa _ _ (ai.out _ GY.out) ?_;clear aa K' hb hbY;clear cc;clear cB;apply zj rfl
 . rintro K' aa X -
   go_simp;exact aa
 apply zj rfl
 . rintro K' aa X -
   go_simp;exact aa
 apply zj rfl
 . rintro K' aa X -
   go_simp;exact aa
 apply zj rfl
 . rintro K' aa X -
   go_simp;exact aa
 apply zj rfl
 . rintro K' aa X -
   go_simp;exact aa
 apply zj rfl
 . rintro K' aa X -
   go_simp;exact aa
 apply zj rfl
 . rintro K' aa X -
   go_simp;exact aa
 refine zy ?_
 cases bY with
 | false=>
  have cF:=zH (HB.out.trans ((((Lc TX.out G9.out).trans (GY.out.mono (Lc TX.out G9.out).size))).mono HB.out.size));go_upto_region 19 with fail
  have ai:Aq (∀X,Am W.heap.size W X->X.heap[w6.heap.size]?=J (Ag #[O U T.p.t.n,O U T.p.t.ins,O U T.p.t.outs,I AC T.p.t.cases.length dn,O U T.p.a.n,I dw T.p.a.sts.length dm,O U T.p.k,O U T.n,I AV T.vs.length kv,I AX T.xs.length kx] 39 (0,0))/\X.heap[w.heap.size+1]?=J (Ag #[O U f.h.op,O U f.h.p,O U f.h.o,O U f.h.v,O U f.h.g,I AF f.args.length cf] 32 (0,0))):=fun X hX=>⟨E7.out X hX,E4.out X hX⟩
  refine zt [(0,Au),(1,Au),(2,Au),(3,Au),(4,Au),(5,Au),(6,Au),(7,Au),(8,Au),(9,Au),(10,Aw),(11,Aw),(12,Aw),(13,Aw),(14,Au),(15,Au),(16,Au)] (fun X=>X.heap[w6.heap.size]?=J (Ag #[O U T.p.t.n,O U T.p.t.ins,O U T.p.t.outs,I AC T.p.t.cases.length dn,O U T.p.a.n,I dw T.p.a.sts.length dm,O U T.p.k,O U T.n,I AV T.vs.length kv,I AX T.xs.length kx] 39 (0,0))/\X.heap[w.heap.size+1]?=J (Ag #[O U f.h.op,O U f.h.p,O U f.h.o,O U f.h.v,O U f.h.g,I AF f.args.length cf] 32 (0,0))) (by kernel_rfl) (by kernel_rfl) (ai.out _ GY.out.drew) ?_;apply zj rfl
  . rintro K' aa X -
    go_simp;exact aa
  apply zj rfl
  . rintro K' aa X -
    go_simp;exact aa
  apply zj rfl
  . rintro K' aa X -
    go_simp;exact aa
  apply zj rfl
  . rintro K' aa X -
    go_simp;exact aa
  apply zj rfl
  . rintro K' aa X -
    go_simp;exact aa
  apply zj rfl
  . rintro K' aa X -
    go_simp;exact aa
  apply zj rfl
  . rintro K' aa X -
    go_simp;exact aa
  apply zj rfl
  . rintro K' aa X -
    go_simp;exact aa
  apply zj rfl
  . rintro K' aa X -
    go_simp;exact aa
  apply zj rfl
  . rintro K' aa X -
    go_simp;exact aa
  refine zn rfl ?_;intro K' aa;go_simp;refine aa _ _ (ai.out _ GY.out.drew) ?_;clear aa K';refine zn rfl ?_;intro K' aa;go_simp;refine aa _ _ (ai.out _ GY.out.drew) ?_;clear aa K';refine zn rfl ?_;intro K' aa;go_simp;refine aa _ _ (ai.out _ GY.out.drew) ?_;clear aa K';refine zn rfl ?_;intro K' aa;go_simp;refine aa _ _ (ai.out _ GY.out.drew) ?_;clear aa K';apply zj rfl
  . rintro K' aa X -
    go_simp;exact aa
  apply zj rfl
  . rintro K' aa X -
    go_simp;exact aa
  apply zj rfl
  . rintro K' aa X -
    go_simp;exact aa
  refine zy ?_;go_wp2_with fail;go_ret;exact⟨rfl,cF.out.drew⟩
 | true=>
  have HV3k:=zH (Tr.out (sN.out rfl));go_upto_region 19 with fail
  have ai:Aq (∀X,Am W.heap.size W X->X.heap[w6.heap.size]?=J (Ag #[O U T.p.t.n,O U T.p.t.ins,O U T.p.t.outs,I AC T.p.t.cases.length dn,O U T.p.a.n,I dw T.p.a.sts.length dm,O U T.p.k,O U T.n,I AV T.vs.length kv,I AX T.xs.length kx] 39 (0,0))/\X.heap[w.heap.size+1]?=J (Ag #[O U f.h.op,O U f.h.p,O U f.h.o,O U f.h.v,O U f.h.g,I AF f.args.length cf] 32 (0,0))):=fun X hX=>⟨E7.out X hX,E4.out X hX⟩
  refine zt [(0,Au),(1,Au),(2,Au),(3,Au),(4,Au),(5,Au),(6,Au),(7,Au),(8,Au),(9,Au),(10,Aw),(11,Aw),(12,Aw),(13,Aw),(14,Au),(15,Au),(16,Au)] (fun X=>X.heap[w6.heap.size]?=J (Ag #[O U T.p.t.n,O U T.p.t.ins,O U T.p.t.outs,I AC T.p.t.cases.length dn,O U T.p.a.n,I dw T.p.a.sts.length dm,O U T.p.k,O U T.n,I AV T.vs.length kv,I AX T.xs.length kx] 39 (0,0))/\X.heap[w.heap.size+1]?=J (Ag #[O U f.h.op,O U f.h.p,O U f.h.o,O U f.h.v,O U f.h.g,I AF f.args.length cf] 32 (0,0))) (by kernel_rfl) (by kernel_rfl) (ai.out _ GY.out.drew) ?_;apply zj rfl
  . rintro K' aa X -
    go_simp;exact aa
  apply zj rfl
  . rintro K' aa X -
    go_simp;exact aa
  apply zj rfl
  . rintro K' aa X -
    go_simp;exact aa
  apply zj rfl
  . rintro K' aa X -
    go_simp;exact aa
  apply zj rfl
  . rintro K' aa X -
    go_simp;exact aa
  apply zj rfl
  . rintro K' aa X -
    go_simp;exact aa
  apply zj rfl
  . rintro K' aa X u
    have e:=u.1;obtain⟨x0,x1,x2,x3,x4,x5,x6,x7,x8,x9⟩:=zK (e);clear u e;go_simp;exact aa
  apply zj rfl
  . rintro K' aa X u
    have e:=u.2;obtain⟨x0,x1,x2,x3,x4,x5,_⟩:=Ki (e);clear u e;go_simp;exact aa
  apply zj rfl
  . rintro K' aa X -
    go_simp;exact aa
  apply zj rfl
  . rintro K' aa X u
    have e:=u.2;obtain⟨x0,x1,x2,x3,x4,x5,_⟩:=Ki (e);clear u e;go_simp;exact aa
  refine zn rfl ?_;intro K' aa;go_simp;refine(xP (gg:Int) w7.heap.size f _ _ (mU.out _ GY.out.drew) (cd.out wY.drew GY.out.drew)).mono ?_;rintro e qw1 ⟨qv1,rfl,hv,hb⟩;have CZ:=zH hv;have Hr:Aq (Am W.heap.size W qw1):=Lc GY.out.drew hb;refine aa _ _ (ai.out _ Hr.out) ?_;clear aa K' hb hv;refine zn rfl ?_;intro K' aa;go_simp;refine(yW f (f1 13 0 gg f) _ _ _ (cd.out qw1 Hr.out) CZ.out).mono ?_;rintro e Sa ⟨qv2,rfl,hv,hb⟩;have Ok:=zH hv;have O9:Aq (Am W.heap.size W Sa):=Lc Hr.out hb;have CZ:=zH (CZ.out.keep hb);refine aa _ _ (ai.out _ O9.out) ?_;clear aa K' hb hv;obtain⟨dqv2,Ps,NY,rfl,KM⟩:=Ok.out;refine zn rfl ?_;intro K' aa;unfold Fm.vs;go_simp;obtain⟨wL,mZ,dL,sj,ex⟩:=zm Sa #[O U (fIf f (f1 13 0 gg f)).h.op,O U (fIf f (f1 13 0 gg f)).h.p,O U (fIf f (f1 13 0 gg f)).h.o,O U (fIf f (f1 13 0 gg f)).h.v,O U (fIf f (f1 13 0 gg f)).h.g,.slice Ps (fIf f (f1 13 0 gg f)).args.length NY] 32;rw[mZ]
  have an:∃D,FsAt wL wL.heap.size (D+1) (J ⟨Sa.heap.size,0,Z⟩) [fIf f (f1 13 0 gg f)]:=by
   refine uh dL fun i hi=>?_
   obtain rfl:i=0:=by have:i<1:=hi;omega
   exact⟨dqv2,Ps,NY,fun j v hv=>by rcases six (xR hv) with rfl | rfl | rfl | rfl | rfl | rfl<;>exact hv,yP KM ex⟩
  obtain⟨DL,ni⟩:=an;have GL:Aq (Am W.heap.size W wL):=Lc O9.out ex;have HC:=zH (oH.out [fIf f (f1 13 0 gg f)] (by simp) HV3k.out wL GL.out (J ⟨Sa.heap.size,0,Z⟩) 1 DL ni);refine aa _ _ (ai.out _ GL.out) ?_;clear aa K' mZ dL sj ex ni CZ Ok KM;refine zn rfl ?_;intro K' aa;go_simp;refine HC.out.mono ?_;rintro e wV ⟨rfl,hb⟩;have GV:=zH (Lc GL.out hb);refine aa _ _ (ai.out _ GV.out) ?_;clear aa K' hb HC;apply zj rfl
  . rintro K' aa X -
    go_simp;exact aa
  apply zj rfl
  . rintro K' aa X -
    go_simp;exact aa
  apply zj rfl
  . rintro K' aa X -
    go_simp;exact aa
  refine zy ?_;have cF:=zH (HB.out.trans ((((Lc TX.out G9.out).trans (GV.out.mono (Lc TX.out G9.out).size))).mono HB.out.size));go_wp2_with fail;go_ret;exact⟨rfl,cF.out⟩
end
end Go.Proofs.YtkmbdfdaffmhjaaGreat
