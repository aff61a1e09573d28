/- Merged. -/
import Derived.Test.YtjjcgpfljidbhaaGreatYg
import Derived.Deep.Cut
import Derived.Deep.CutBlock
open Go.Proofs.Tryz
open Go.Value renaming int->O,slice->I,bool->Ah,agg->Ai,pointer->Aj
open Go.IntKind renaming i64->U
open Option renaming none->Z,some->J
open Go.Obj renaming cells->Ag
open Go.Ending renaming returned->Ak
open Go.Proofs.Tryz renaming prog->Al,func151->NP,ntmps151->NJ
open Go.RowKit renaming Below->Am,intOf->Ao,Hid->Ap
open Go renaming Calls->An,Value->Aq
open Bool renaming true->Ar,false->As
namespace Go.Proofs.YtjjcgpfljidbhaaGreat
set_option maxRecDepth 100000
set_option maxHeartbeats 8000000
section
open Go.RowKit Go.Shelf
attribute [local go_sem] Oper.semAt_some
theorem kW{W:Ba}{b:Nat}{xs:List Int}{t:TypeId}(h:W.heap[b]?=J (Ag ((xs.map (O U)).toArray) t (0,0))):IAt W W.heap.size (J ⟨b,0,Z⟩) xs:=fun _=>
 ⟨b,0,rfl,zc h,fun i hi=>by rw[LM];exact za h i (by simp[hi])⟩
theorem QW{W:Ba}{b:Nat}{v:List Int}{A:Bb}{c:Nat}{t:TypeId}(h:W.heap[b]?=J (Ag #[I A v.length c] t (0,0)))(h2:IAt W W.heap.size A v):LAt W W.heap.size (J ⟨b,0,Z⟩) [v]:=fun _=>
 ⟨b,0,rfl,zc h,fun i hi=>by
  obtain rfl:i=0:=by simpa using hi
  exact⟨A,c,za h 0 rfl,h2⟩⟩
theorem Zq:xW gJ=Ar:=by
 unfold xW;rw[vH,Nh];exact⟨by decide +kernel,rfl⟩
theorem dcd_low:gu gJ:=by
 refine⟨⟨by decide,fun c hc=>?_⟩,by decide,fun l hl=>?_⟩
 . have:c=⟨[0],[[0]],[]⟩\/c=⟨[1],[[1]],[]⟩:=by simpa[gJ] using hc
   rcases this with rfl | rfl
   . refine⟨by decide,by decide,by decide,fun v hv=>?_,fun v hv=>?_⟩
     . have:v=[0]:=by simpa using hv
       subst this;decide
     simp at hv
   refine⟨by decide,by decide,by decide,fun v hv=>?_,fun v hv=>?_⟩
   . have:v=[1]:=by simpa using hv
     subst this;decide
   simp at hv
 have:l=[⟨⟨1,1,0,0,0,0,0⟩,0⟩]:=by simpa[gJ] using hl
 subst this;decide
theorem dcd_facts:LowS vI/\xN gJ/\yb vI=0/\zX gJ.t=0/\Fine vI 0 1/\∀x∈vI.xs,CaseOk vI 1 x:=by
 obtain⟨pV,iI,hf,h0,dt,CQ,-⟩:=qx Zq;have cz:LowS (zz gJ):=by have:=qU dcd_low hf;rw[pV] at this;exact this
 obtain⟨K,N,hF,mc,-⟩:=gR Zq;have lY:=Z5 (zM h0).1 hf.1.1 hF mc
 have e:zz gJ=vI:=by
  have:=vH;rw[pV] at this;exact(Prod.ext_iff.1 this).1
 rw[e] at iI cz hF mc lY;have hk:(0:Int)=(K:Int):=hF.k;have hn:(1:Int)=(N:Int):=hF.n;obtain rfl:K=0:=by omega
 obtain rfl:N=1:=by omega
 exact⟨cz,hf,iI,(zM h0).1,hF,lY⟩
theorem uJ(w:Ba):An Al 4 #[] w fun e w'=>e=Ak (Ah Ar)/\Am w.heap.size w w':=by
 obtain⟨a0,SJ,e0,oD,ly⟩:=zh w #[O U 0] 3;obtain⟨a1,dL,e1,aA,aH⟩:=zh a0 #[O U 0] 3;obtain⟨a2,iN,e2,ef,af⟩:=zh a1 #[I (J ⟨w.heap.size+1,0,Z⟩) 1 1] 30;obtain⟨a3,SI,e3,ij,am⟩:=zh a2 #[O U 1] 3;obtain⟨a4,C3,e4,mC,bq⟩:=zh a3 #[O U 1] 3;obtain⟨a5,SH,e5,iV,ap⟩:=zh a4 #[I (J ⟨w.heap.size+1+1+1+1,0,Z⟩) 1 1] 30;obtain⟨a6,Ma,e6,mB,bz⟩:=zh a5 #[I (J ⟨w.heap.size,0,Z⟩) 1 1,I (J ⟨w.heap.size+1+1,0,Z⟩) 1 1,I Z 0 0,I (J ⟨w.heap.size+1+1+1,0,Z⟩) 1 1,I (J ⟨w.heap.size+1+1+1+1+1,0,Z⟩) 1 1,I Z 0 0] 63;obtain⟨a7,SG,e7,fP,cM⟩:=zh a6 #[O U 1,O U 2,O U 2,I (J ⟨w.heap.size+1+1+1+1+1+1,0,Z⟩) 2 2] 24;obtain⟨a8,SF,e8,mA,dD⟩:=zh a7 #[O U 1,O U 1,O U 0,O U 0,O U 0,O U 0,O U 0,O U 0] 70;obtain⟨a9,SE,e9,oC,dg⟩:=zh a8 #[I (J ⟨w.heap.size+1+1+1+1+1+1+1+1,0,Z⟩) 1 1] 71;obtain⟨ex,Fa,sq,lO,aX⟩:=zh a9 #[O U 1,I (J ⟨w.heap.size+1+1+1+1+1+1+1+1+1,0,Z⟩) 1 1] 27;rw[oD] at e1 aA;rw[aA] at e2 ef;rw[ef] at e3 ij;rw[ij] at e4 mC;rw[mC] at e5 iV;rw[iV] at e6 mB;rw[mB] at e7 fP;rw[fP] at e8 mA;rw[mA] at e9 oC;rw[oC] at sq lO
 have D0:Ap (ex.heap[w.heap.size]?=J (Ag #[O U 0] 3 (0,0))):=Lb aX (by omega) (Lb dg (by omega) (Lb dD (by omega) (Lb cM (by omega) (Lb bz (by omega) (Lb ap (by omega) (Lb bq (by omega) (Lb am (by omega) (Lb af (by omega) (Lb aH (by omega) (e0))))))))));have D1:Ap (ex.heap[w.heap.size+1]?=J (Ag #[O U 0] 3 (0,0))):=Lb aX (by omega) (Lb dg (by omega) (Lb dD (by omega) (Lb cM (by omega) (Lb bz (by omega) (Lb ap (by omega) (Lb bq (by omega) (Lb am (by omega) (Lb af (by omega) (e1)))))))));have D2:Ap (ex.heap[w.heap.size+1+1]?=J (Ag #[I (J ⟨w.heap.size+1,0,Z⟩) 1 1] 30 (0,0))):=Lb aX (by omega) (Lb dg (by omega) (Lb dD (by omega) (Lb cM (by omega) (Lb bz (by omega) (Lb ap (by omega) (Lb bq (by omega) (Lb am (by omega) (e2))))))));have D3:Ap (ex.heap[w.heap.size+1+1+1]?=J (Ag #[O U 1] 3 (0,0))):=Lb aX (by omega) (Lb dg (by omega) (Lb dD (by omega) (Lb cM (by omega) (Lb bz (by omega) (Lb ap (by omega) (Lb bq (by omega) (e3)))))))
 have D4:Ap (ex.heap[w.heap.size+1+1+1+1]?=J (Ag #[O U 1] 3 (0,0))):=Lb aX (by omega) (Lb dg (by omega) (Lb dD (by omega) (Lb cM (by omega) (Lb bz (by omega) (Lb ap (by omega) (e4))))));have D5:Ap (ex.heap[w.heap.size+1+1+1+1+1]?=J (Ag #[I (J ⟨w.heap.size+1+1+1+1,0,Z⟩) 1 1] 30 (0,0))):=Lb aX (by omega) (Lb dg (by omega) (Lb dD (by omega) (Lb cM (by omega) (Lb bz (by omega) (e5)))));have D6:Ap (ex.heap[w.heap.size+1+1+1+1+1+1]?=J (Ag #[I (J ⟨w.heap.size,0,Z⟩) 1 1,I (J ⟨w.heap.size+1+1,0,Z⟩) 1 1,I Z 0 0,I (J ⟨w.heap.size+1+1+1,0,Z⟩) 1 1,I (J ⟨w.heap.size+1+1+1+1+1,0,Z⟩) 1 1,I Z 0 0] 63 (0,0))):=Lb aX (by omega) (Lb dg (by omega) (Lb dD (by omega) (Lb cM (by omega) (e6))));have D7:Ap (ex.heap[w.heap.size+1+1+1+1+1+1+1]?=J (Ag #[O U 1,O U 2,O U 2,I (J ⟨w.heap.size+1+1+1+1+1+1,0,Z⟩) 2 2] 24 (0,0))):=Lb aX (by omega) (Lb dg (by omega) (Lb dD (by omega) (e7)))
 have D8:Ap (ex.heap[w.heap.size+1+1+1+1+1+1+1+1]?=J (Ag #[O U 1,O U 1,O U 0,O U 0,O U 0,O U 0,O U 0,O U 0] 70 (0,0))):=Lb aX (by omega) (Lb dg (by omega) (e8));have D9:Ap (ex.heap[w.heap.size+1+1+1+1+1+1+1+1+1]?=J (Ag #[I (J ⟨w.heap.size+1+1+1+1+1+1+1+1,0,Z⟩) 1 1] 71 (0,0))):=Lb aX (by omega) (e9);have UI:Ap (ex.heap[w.heap.size+1+1+1+1+1+1+1+1+1+1]?=J (Ag #[O U 1,I (J ⟨w.heap.size+1+1+1+1+1+1+1+1+1,0,Z⟩) 1 1] 27 (0,0))):=sq;have HB:Ap (Am w.heap.size w ex):=((((((((((ly).trans (aH.mono (by omega))).trans (af.mono (by omega))).trans (am.mono (by omega))).trans (bq.mono (by omega))).trans (ap.mono (by omega))).trans (bz.mono (by omega))).trans (cM.mono (by omega))).trans (dD.mono (by omega))).trans (dg.mono (by omega))).trans (aX.mono (by omega));have Ih:=zH SJ;have mS:=zH dL;have CC:=zH iN;have sM:=zH SI;have CB:=zH C3;have UE:=zH SH;have UD:=zH Ma;have Ig:=zH SG;have UC:=zH SF;have UB:=zH SE;have Gl:=zH Fa;have HS:=zH lO;clear SJ e0 ly dL e1 aH iN e2 af SI e3 am C3 e4 bq SH e5 ap Ma e6 bz SG e7 cM SF e8 dD SE e9 dg Fa sq aX oD aA ef ij mC iV mB fP mA oC lO;go_enter func4,ntmps4;go_upto_region 3 with fail
 rw[Ih.out,mS.out,CC.out,sM.out,CB.out,UE.out,UD.out,Ig.out,UC.out,UB.out,Gl.out];clear Ih mS CC sM CB UE UD Ig UC UB Gl
 have nN:CAt ex ex.heap.size (J ⟨w.heap.size+1+1+1+1+1+1,0,Z⟩) gJ.t.cases:=fun _=>⟨_,0,rfl,zc D6.out,fun i hi=>by
  have h2:i=0\/i=1:=by have:i<2:=hi;omega
  have i0:IAt ex ex.heap.size _ [0]:=kW D0.out;have i1:IAt ex ex.heap.size _ [0]:=kW D1.out;have i3:IAt ex ex.heap.size _ [1]:=kW D3.out;have i4:IAt ex ex.heap.size _ [1]:=kW D4.out;have l2:=QW (v:=[0]) D2.out i1;have l5:=QW (v:=[1]) D5.out i4;rcases h2 with rfl | rfl
  . exact⟨_,_,_,za D6.out 0 rfl,za D6.out 1 rfl,za D6.out 2 rfl,⟨_,1,rfl,i0⟩,⟨_,1,rfl,l2⟩,⟨Z,0,rfl,LAt.nil _ _ _⟩⟩
  . exact⟨_,_,_,za D6.out 3 rfl,za D6.out 4 rfl,za D6.out 5 rfl,⟨_,1,rfl,i3⟩,⟨_,1,rfl,l5⟩,⟨Z,0,rfl,LAt.nil _ _ _⟩⟩⟩
 have Bu:SAt ex ex.heap.size (J ⟨w.heap.size+1+1+1+1+1+1+1+1+1,0,Z⟩) gJ.a.sts:=fun _=>⟨_,0,rfl,zc D9.out,fun i hi=>by
  obtain rfl:i=0:=by have:i<1:=hi;omega
  refine⟨_,1,za D9.out 0 rfl,fun _=>⟨_,0,rfl,zc D8.out,fun i hi k u hu=>?_⟩⟩;obtain rfl:i=0:=by have:i<1:=hi;omega
  have R9:k<8:=(Lq.1 hu).1;rw[<-hu];have h8:k=0\/k=1\/k=2\/k=3\/k=4\/k=5\/k=6\/k=7:=by omega
  rcases h8 with rfl | rfl | rfl | rfl | rfl | rfl | rfl | rfl
  all_goals exact za D8.out _ rfl⟩
 obtain⟨cz,fU,iI,lL,My,lY⟩:=dcd_facts;have aF:=Zw gJ fU _ 2 _ 1 ex nN Bu;rw[vH] at aF;have i8:gJ.vs (J ⟨w.heap.size+1+1+1+1+1+1,0,Z⟩) 2 (J ⟨w.heap.size+1+1+1+1+1+1+1+1+1,0,Z⟩) 1=#[O U 1,O U 2,O U 2,I (J ⟨w.heap.size+1+1+1+1+1+1,0,Z⟩) 2 2,O U 1,I (J ⟨w.heap.size+1+1+1+1+1+1+1+1+1,0,Z⟩) 1 1,O U 0]:=rfl;rw[i8] at aF;have sJ:=zH aF;have d':=zH (fun (A SV AV AX AR:Bb) (kc ks kv kx cr:Nat) (X:Ba) h1 h2=>kd vI cz fU iI My lY lL [0,1] dcd_form0 A SV AV AX AR kc ks kv kx cr X h1 h2);have cI:=zH (fun (A SV AV AX AR:Bb) (kc ks kv kx cr:Nat) (X:Ba) h1 h2=>kd vI cz fU iI My lY lL [1,1] dcd_form1 A SV AV AX AR kc ks kv kx cr X h1 h2);rw[dcd_yes] at d';rw[dcd_no] at cI;obtain⟨x0,x1,x2,x3,_⟩:=Kb D7.out;obtain⟨y0,y1,_⟩:=Ka UI.out;clear nN Bu i8 aF D0 D1 D2 D3 D4 D5 D6 D7 D8 D9 UI HS cz fU iI lL My lY;go_wp2_with fail;refine sJ.out.mono ?_;rintro e w7 ⟨A2,dX,dz,dW,AV,kv,AX,kx,rfl,nM,-,-,cM⟩;have ec:=zH (Lc HB.out cM);have fd:=zH nM;clear cM nM sJ x0 x1 x2 x3 y0 y1 HB;dsimp only at fd ⊢;obtain⟨T,hT⟩:=Kh vI;rw[hT] at fd d' cI ⊢;clear hT;unfold Sy.vs_ at d' cI ⊢;go_upto_region 4 with fail
 obtain⟨w8,sS,d8,mA,dD⟩:=zh w7 #[O U T.p.t.n,O U T.p.t.ins,O U T.p.t.outs,I A2 T.p.t.cases.length dX,O U T.p.a.n,I dz T.p.a.sts.length dW,O U T.p.k,O U T.n,I AV T.vs.length kv,I AX T.xs.length kx] 39;rw[sS];have HB8:=zH (Lc ec.out dD);have BU:=zH (fd.out.up dD);obtain⟨w9,DM,d9,oC,dg⟩:=zh w8 #[O U 0,O U 1] 3;have FJ:=zH DM;have nT:=zH (d'.out A2 dz AV AX (J ⟨w8.heap.size,0,Z⟩) dX dW kv kx 2 w9 (BU.out.up dg) (kW (xs:=[0,1]) d9));have OG:=zH (Lc HB8.out dg);have Uw:=zH d8;have Uv:=zH (La dg d8);have lc:Ap (∀X,Am w9.heap.size w9 X->SyAt X X.heap.size A2 dz AV AX T/\X.heap[w7.heap.size]?=J (Ag #[O U T.p.t.n,O U T.p.t.ins,O U T.p.t.outs,I A2 T.p.t.cases.length dX,O U T.p.a.n,I dz T.p.a.sts.length dW,O U T.p.k,O U T.n,I AV T.vs.length kv,I AX T.xs.length kx] 39 (0,0))):=fun X hX=>⟨(BU.out.up dg).up hX,La hX Uv.out⟩
 obtain⟨p0,p1,p2,p3,p4,p5,p6,p7,p8,p9⟩:=zK (Uw.out);clear sS d8 mA dD DM d9 oC dg d' fd;go_wp2_with (first | rw[FJ.out] | fail);refine nT.out.mono ?_;rintro e cZ ⟨rfl,aX⟩;have CA:=zH (Lc OG.out aX);have BZ:=zH (lc.out cZ aX).1;have Gg:=zH (lc.out cZ aX).2;clear aX nT lc Uw Uv p0 p1 p2 p3 p4 p5 p6 p7 p8 p9 BU FJ;obtain⟨UK,DN,TG,y',Bn⟩:=zh cZ #[O U 1,O U 1] 3;have pg:=zH DN;have fI:=zH (cI.out A2 dz AV AX (J ⟨cZ.heap.size,0,Z⟩) dX dW kv kx 2 UK (BZ.out.up Bn) (kW (xs:=[1,1]) TG));have sL:=zH (Lc CA.out Bn);obtain⟨p0,p1,p2,p3,p4,p5,p6,p7,p8,p9⟩:=zK (Gg.out);clear DN TG y' Bn cI;go_wp2_with (first | rw[pg.out] | fail);refine fI.out.mono ?_;rintro e UJ ⟨rfl,E4⟩;have OH:=zH (Lc sL.out E4);clear E4 fI Gg p0 p1 p2 p3 p4 p5 p6 p7 p8 p9 pg;go_wp2_with fail;go_ret;exact⟨rfl,OH.out⟩
theorem uq(a b c:Int)(w:Ba):An Al 120 #[O U a,O U b,O U c] w fun e w'=>e=Ak (Ah (decide (b<=a/\a<=c)))/\w'=w:=by
 go_enter func120,ntmps120
 by_cases h1:b<=a
 . by_cases h2:a<=c
   . have e:decide (b<=a/\a<=c)=Ar:=by simp[h1,h2]
     rw[e];go_wp2_with fail;go_ret;exact⟨rfl,rfl⟩
   have e:decide (b<=a/\a<=c)=As:=by simp[h2]
   rw[e];go_wp2_with fail;go_ret;exact⟨rfl,rfl⟩
 have e:decide (b<=a/\a<=c)=As:=by simp[h1]
 rw[e];go_wp2_with fail;go_ret;exact⟨rfl,rfl⟩
theorem XD(n d:Nat)(w:Ba):An Al 121 #[O U (n:Int),O U (d:Int)] w fun e w'=>e=Ak (O U (uu (n,d)))/\w'=w:=by
 by_cases h1:128<n
 . have e:uu (n,d)=5:=Lo h1
   have e1:(128:Int)<(n:Int):=by omega
   rw[e];go_enter func121,ntmps121;go_wp2_with fail;go_ret;exact⟨rfl,rfl⟩
 by_cases h2:24<d
 . have e:uu (n,d)=12:=by unfold uu;rw[Li h1,Lo h2]
   have e1:¬(128:Int)<(n:Int):=by omega
   have e2:(24:Int)<(d:Int):=by omega
   rw[e];go_enter func121,ntmps121;go_wp2_with fail;go_ret;exact⟨rfl,rfl⟩
 have e:uu (n,d)=0:=by unfold uu;rw[Li h1,Li h2]
 have e1:¬(128:Int)<(n:Int):=by omega
 have e2:¬(24:Int)<(d:Int):=by omega
 rw[e];go_enter func121,ntmps121;go_wp2_with fail;go_ret;exact⟨rfl,rfl⟩
theorem wQ(f:Fm)(R:Fm->Nat×Nat)(A:Bb)(c:Nat)(w:Ba)(hl:f.args.length<=1000000)(hb:(yC R f.args).1<=1000000/\(yC R f.args).2<=1000000)
  (oF:RecAt w A f.args fun cs x X=>An Al 122 #[.agg cs] X fun e w'=>e=Ak (.tuple #[O U ((R x).1:Int),O U ((R x).2:Int)])/\Am X.heap.size X w') :
  An Al 122 #[.agg (f.vs A c)] w fun e w'=>e=Ak (.tuple #[O U ((yC R f.args).1:Int),O U (((yC R f.args).2+1:Nat):Int)])/\Am w.heap.size w w':=by
 obtain⟨w1,ac,d0,aA,hB⟩:=zh w (f.vs A c) 59;have ff:=zH oF;have fZ:=zH (fun k=>gU R f.args k);have TX:=zH (fun k (h:k<f.args.length)=>(by rw[Ls h,gV]:yC R (f.args.take (k+1))=((yC R (f.args.take k)).1+(R f.args[k]).1,max (yC R (f.args.take k)).2 (R f.args[k]).2)));have py:Ap (yC R (f.args.take f.args.length)=yC R f.args):=by rw[Ap,LC]
 have Hz:=zH hb;unfold Fm.vs at ac d0 ff ⊢;obtain⟨l,aD⟩:=Kh f.args;rw[aD] at ac d0 ff fZ TX py Hz hl ⊢;obtain⟨T,hT⟩:=Kh (yC R l);rw[hT] at fZ py Hz ⊢;obtain⟨n,hn⟩:=Kh l.length;have HN:=zH hn;rw[hn] at ac d0 py hl ⊢;have ah:=zH ac;have HB:=zH hB;clear ac d0 hB oF hb aD hT hn;go_enter func122,ntmps122;go_wp2_with fail;rw[ah.out];go_wp2_with fail
 go_loopw [4,5,13] (fun a b i wr=>∃k:Nat,k<=n/\i=O U (k:Int)/\a=O U ((yC R (l.take k)).1:Int)/\b=O U ((yC R (l.take k)).2:Int)/\Ap (Am w1.heap.size w1 wr)) (fun _ _ i _=>n-(Ao i).toNat)
 case atStart=>exact⟨0,by omega,rfl,rfl,rfl,Ll _ _⟩
 obtain⟨k,hk,rfl,rfl,rfl,aC⟩:=hrel;obtain⟨a,ha⟩:=Kh ((yC R (l.take k)).1);obtain⟨b,hb⟩:=Kh ((yC R (l.take k)).2)
 have Ma:a<=1000000/\b<=1000000:=by
  have h1:=fZ.out k;have h2:=Hz.out;omega
 by_cases aa:k<n
 . have aU:k<l.length:=by have:=HN.out;omega
   have nC:=TX.out k aU;have lL:=fZ.out (k+1);obtain⟨bb,o,A',c',eA,aM,ay,cj⟩:=ff.out k aU;subst eA;obtain⟨x,hx⟩:=Kh (l[k]);rw[hx] at ay cj nC;obtain⟨Rx,Bx⟩:=Kh (R x);dsimp only at cj;rw[Bx] at cj nC;rw[ha,hb] at nC;have Dd:(yC R (l.take (k+1))).1=a+Rx.1:=by rw[nC]
   have iP:(yC R (l.take (k+1))).2=max b Rx.2:=by rw[nC]
   have aq:=zH Dd;have ai:=zH iP
   have mB:a+Rx.1<=1000000/\max b Rx.2<=1000000:=by
    have h2:=Hz.out;omega
   obtain⟨xh,xl⟩:=x;obtain⟨h0,h1,h2,h3,h4⟩:=xh;have hc:∀j v,#[O U h0,O U h1,O U h2,O U h3,O U h4,I A' xl.length c'][j]?=J v->wr.cell? ⟨bb,o+k*6+j,Z⟩=J v:=ay wr (HB.out.trans (aC.out.mono (by have:=HB.out.size;omega)));have z0:wr.cell? ⟨bb,o+k*6,Z⟩=J (O U h0):=hc 0 _ rfl;have z1:wr.cell? ⟨bb,o+k*6+1,Z⟩=J (O U h1):=hc 1 _ rfl;have z2:wr.cell? ⟨bb,o+k*6+2,Z⟩=J (O U h2):=hc 2 _ rfl;have z3:wr.cell? ⟨bb,o+k*6+3,Z⟩=J (O U h3):=hc 3 _ rfl;have z4:wr.cell? ⟨bb,o+k*6+4,Z⟩=J (O U h4):=hc 4 _ rfl;have z5:wr.cell? ⟨bb,o+k*6+5,Z⟩=J (I A' xl.length c'):=hc 5 _ rfl;have cA:(0:Int)<=(k:Int):=by omega
   have bC:(k:Int)<(n:Int):=by omega
   have HC:=zH cj;have HHR:=zH aC.out;simp only[Fm.vs,Fm.args,Fm.h] at HC;go_upto_region 5 with fail
   obtain⟨W2,dT,d2,ef,af⟩:=zh wr #[O U h0,O U h1,O U h2,O U h3,O U h4,I A' xl.length c'] 59;rw[dT];have bh:=HB.out.size;have aP:=zH (Lc HHR.out af);have eF:=zH (HC.out W2 (HB.out.trans (aP.out.mono bh)));obtain⟨y0,y1,y2,y3,y4,y5,_⟩:=Kg d2;obtain⟨r1,r2⟩:=Rx;dsimp only at eF aq ai mB;go_wp2_with fail;refine eF.out.mono ?_;rintro e w3 ⟨rfl,am⟩;have bk:=zH (Lc aP.out am);have ac:IntKind.i64.wrap ((a:Int)+(r1:Int))=((a+r1:Nat):Int):=by rw[Lv];omega
   go_wp2_with fail
   go_roundw
   case rel=>exact⟨k+1,by omega,by go_num,by first | (rw[aq.out];done) | (rw[aq.out];go_num),by first | (rw[ai.out];done) | (rw[ai.out];go_num),bk⟩
   simp[Ao];omega
 obtain rfl:k=n:=by omega
 have h1:Ap (a=T.1):=by rw[Ap,<-ha,py.out]
 have h2:Ap (b=T.2):=by rw[Ap,<-hb,py.out]
 have re:=zH (HB.out.trans (aC.out.mono (by have:=HB.out.size;omega)));have ac:IntKind.i64.wrap ((b:Int)+1)=((b+1:Nat):Int):=by rw[Lv];omega
 go_wp2_with fail
 go_ret2
 refine⟨?_,re.out⟩;show Ak (.tuple #[O U ((yC R (l.take k)).1:Int),O U ((b:Int)+1)])=_;rw[<-h1.out,<-h2.out,ha];rfl
theorem Zm:∀(d:Nat) (f:Fm) (A:Bb) (c:Nat) (w:Ba),FsAt w w.heap.size d A f.args->(xG d f).1<=1000000 ->
  An Al 122 #[.agg (f.vs A c)] w fun e w'=>e=Ak (.tuple #[O U ((xG d f).1:Int),O U ((xG d f).2:Int)])/\Am w.heap.size w w'
 | 0,f,A,c,w,hA,hb=>by
  have h0:f.args=[]:=hA;exact wQ f (fun _=>(0,0)) A c w (by rw[h0];decide) (by rw[h0];decide) (RecAt.none hA)
 | d+1,f,A,c,w,hA,hb=>by
  have h1:(yC (xG d) f.args).1<=1000000:=hb;have h2:(yC (xG d) f.args).2+1<=(yC (xG d) f.args).1:=gY (d+1) f;have h3:=gW (xG d) (Yo d) f.args;refine wQ f (xG d) A c w (by omega) (by omega) (RecAt.of hA fun x A' c' X hx hX=>Zm d x A' c' X hX ?_);exact LE (Yn (xG d) hx) h1
def xq(op:Int):List Nat:=if op=1\/op=5 then [1,3] else if op=2 then [3] else if op=3 then [1,2] else if op=4\/op=10 then [1] else if op=6 then [3] else if op=11\/op=12\/op=13 then [4] else []
def Xa(n:Nat)(op:Int):List Int:=if op=1\/op=5 then [(n:Int)-1,7] else if op=2 then [7] else if op=3 then [(n:Int)-1,(n:Int)-1] else if op=4\/op=10 then [(n:Int)-1] else if op=6 then [6] else if op=11\/op=12\/op=13 then [(2:Int)^n-1] else []
def qp(os:List Nat)(ms:List Int)(b:Nat)(w:Ba)(e:Ending)(w':Ba):Prop:=
 ∃A1 A2,e=Ak (.tuple #[I A1 os.length os.length,I A2 os.length os.length])/\Am w.heap.size w w' /\
  ∀k (h:k<os.length),∃g1 g2,A1=J ⟨g1,0,Z⟩/\A2=J ⟨g2,0,Z⟩/\w.heap.size<=g1/\w.heap.size<=g2/\g1<w'.heap.size/\g2<w'.heap.size/\w'.cell? ⟨g1,k,Z⟩=J (Aj (J ⟨b,os[k],Z⟩))/\w'.cell? ⟨g2,k,Z⟩=J (O U (ms.getD k 0))
theorem kT{w w':Ba}{b:Nat}{o1 o2:Nat}{m1 m2:Int}{t1 t2:TypeId}{g1 g2:Nat}(hb:Am w.heap.size w w')(h1:w.heap.size<=g1)(h2:w.heap.size<=g2)
  (d1:w'.heap[g1]?=J (Ag #[Aj (J ⟨b,o1,Z⟩),Aj (J ⟨b,o2,Z⟩)] t1 (0,0))) (d2:w'.heap[g2]?=J (Ag #[O U m1,O U m2] t2 (0,0))) :
  qp [o1,o2] [m1,m2] b w (Ak (.tuple #[I (J ⟨g1,0,Z⟩) 2 2,I (J ⟨g2,0,Z⟩) 2 2])) w':=by
 refine⟨_,_,rfl,hb,fun k hk=>⟨g1,g2,rfl,rfl,h1,h2,zc d1,zc d2,?_⟩⟩;have eG:k<2:=hk;obtain rfl | rfl:k=0\/k=1:=by omega
 . exact⟨za d1 0 rfl,za d2 0 rfl⟩
 exact⟨za d1 1 rfl,za d2 1 rfl⟩
theorem xO{w w':Ba}{b:Nat}{o1:Nat}{m1:Int}{t1 t2:TypeId}{g1 g2:Nat}(hb:Am w.heap.size w w')(h1:w.heap.size<=g1)(h2:w.heap.size<=g2)
  (d1:w'.heap[g1]?=J (Ag #[Aj (J ⟨b,o1,Z⟩)] t1 (0,0))) (d2:w'.heap[g2]?=J (Ag #[O U m1] t2 (0,0))) :
  qp [o1] [m1] b w (Ak (.tuple #[I (J ⟨g1,0,Z⟩) 1 1,I (J ⟨g2,0,Z⟩) 1 1])) w':=by
 refine⟨_,_,rfl,hb,fun k hk=>⟨g1,g2,rfl,rfl,h1,h2,zc d1,zc d2,?_⟩⟩;have eG:k<1:=hk;obtain rfl:k=0:=by omega
 exact⟨za d1 0 rfl,za d2 0 rfl⟩
theorem kh(n:Nat)(hn:n<=5)(w:Ba):An Al 166 #[O U (n:Int)] w fun e w'=>e=Ak (O U ((2:Int)^n-1))/\w'=w:=by
 obtain rfl | rfl | rfl | rfl | rfl | rfl:n=0\/n=1\/n=2\/n=3\/n=4\/n=5:=by omega
 all_goals
  go_enter func166,ntmps166;go_wp2;go_ret;exact⟨rfl,rfl⟩
theorem yx(w:Ba)(c1 c2:Array Aq)(t1 t2:TypeId):(((w.alloc (Ag c1 t1)).alloc (Ag c2 t2)).heap[w.heap.size]?=J (Ag c1 t1 (0,0)))/\(((w.alloc (Ag c1 t1)).alloc (Ag c2 t2)).heap[w.heap.size+1]?=J (Ag c2 t2 (0,0)))/\Am w.heap.size w ((w.alloc (Ag c1 t1)).alloc (Ag c2 t2)):=by
 obtain⟨W,h,h1,h2,_,h3⟩:=yr w c1 c2 t1 t2;rw[h];exact⟨h1,h2,h3⟩
theorem fields_1(h:Fh)(A:Bb)(len c n:Nat)(hn:n<=5)(b:Nat)(w:Ba)(hb:w.heap[b]?=J (Ag #[O U h.op,O U h.p,O U h.o,O U h.v,O U h.g,I A len c] 59 (0,0)))(ho:h.op=1) :
  An Al 151 #[Aj (J ⟨b,0,Z⟩),O U (n:Int)] w (qp [1,3] [(n:Int)-1,7] b w):=by
 have p0:=za hb 0 rfl;rw[ho] at p0;have ac:IntKind.i64.wrap ((n:Int)-1)=(n:Int)-1:=by rw[Lv];omega
 go_enter NP,NJ;go_wp2_with fail
 go_region_held3 (fun _=>True) (exact trivial) (fail)
 all_goals
  go_wp2_with fail
  go_ret2
 all_goals
  first
  | (obtain ⟨H1, H2, H3⟩ := yx w #[Aj (J ⟨b, 1, Z⟩), Aj (J ⟨b, 3, Z⟩)] #[O U ((n : Int) - 1), O U (7)] 213 3
     exact kT H3.drew (by omega) (by omega) H1 H2)
  | (obtain ⟨H1, H2, H3⟩ := yx w #[O U ((n : Int) - 1), O U (7)] #[Aj (J ⟨b, 1, Z⟩), Aj (J ⟨b, 3, Z⟩)] 3 213
     exact kT H3.drew (by omega) (by omega) H2 H1)
theorem fields_5(h:Fh)(A:Bb)(len c n:Nat)(hn:n<=5)(b:Nat)(w:Ba)(hb:w.heap[b]?=J (Ag #[O U h.op,O U h.p,O U h.o,O U h.v,O U h.g,I A len c] 59 (0,0)))(ho:h.op=5) :
  An Al 151 #[Aj (J ⟨b,0,Z⟩),O U (n:Int)] w (qp [1,3] [(n:Int)-1,7] b w):=by
 have p0:=za hb 0 rfl;rw[ho] at p0;have ac:IntKind.i64.wrap ((n:Int)-1)=(n:Int)-1:=by rw[Lv];omega
 go_enter NP,NJ;go_wp2_with fail
 go_region_held3 (fun _=>True) (exact trivial) (fail)
 all_goals
  go_wp2_with fail
  go_ret2
 all_goals
  first
  | (obtain ⟨H1, H2, H3⟩ := yx w #[Aj (J ⟨b, 1, Z⟩), Aj (J ⟨b, 3, Z⟩)] #[O U ((n : Int) - 1), O U (7)] 213 3
     exact kT H3.drew (by omega) (by omega) H1 H2)
  | (obtain ⟨H1, H2, H3⟩ := yx w #[O U ((n : Int) - 1), O U (7)] #[Aj (J ⟨b, 1, Z⟩), Aj (J ⟨b, 3, Z⟩)] 3 213
     exact kT H3.drew (by omega) (by omega) H2 H1)
theorem fields_2(h:Fh)(A:Bb)(len c n:Nat)(_hn:n<=5)(b:Nat)(w:Ba)(hb:w.heap[b]?=J (Ag #[O U h.op,O U h.p,O U h.o,O U h.v,O U h.g,I A len c] 59 (0,0)))(ho:h.op=2) :
  An Al 151 #[Aj (J ⟨b,0,Z⟩),O U (n:Int)] w (qp [3] [7] b w):=by
 have p0:=za hb 0 rfl;rw[ho] at p0;go_enter NP,NJ;go_wp2_with fail
 go_ret2
 obtain⟨H1,H2,H3⟩:=yx w #[Aj (J ⟨b,3,Z⟩)] #[O U (7)] 213 3;exact xO H3 (by omega) (by omega) H1 H2
theorem fields_3(h:Fh)(A:Bb)(len c n:Nat)(hn:n<=5)(b:Nat)(w:Ba)(hb:w.heap[b]?=J (Ag #[O U h.op,O U h.p,O U h.o,O U h.v,O U h.g,I A len c] 59 (0,0)))(ho:h.op=3) :
  An Al 151 #[Aj (J ⟨b,0,Z⟩),O U (n:Int)] w (qp [1,2] [(n:Int)-1,(n:Int)-1] b w):=by
 have p0:=za hb 0 rfl;rw[ho] at p0;have ac:IntKind.i64.wrap ((n:Int)-1)=(n:Int)-1:=by rw[Lv];omega
 go_enter NP,NJ;go_wp2_with fail
 go_region_held3 (fun _=>True) (exact trivial) (fail)
 all_goals
  go_wp2_with fail
  go_ret2
 all_goals
  first
  | (obtain ⟨H1, H2, H3⟩ := yx w #[Aj (J ⟨b, 1, Z⟩), Aj (J ⟨b, 2, Z⟩)] #[O U ((n : Int) - 1), O U ((n : Int) - 1)] 213 3
     exact kT H3.drew (by omega) (by omega) H1 H2)
  | (obtain ⟨H1, H2, H3⟩ := yx w #[O U ((n : Int) - 1), O U ((n : Int) - 1)] #[Aj (J ⟨b, 1, Z⟩), Aj (J ⟨b, 2, Z⟩)] 3 213
     exact kT H3.drew (by omega) (by omega) H2 H1)
theorem fields_4(h:Fh)(A:Bb)(len c n:Nat)(hn:n<=5)(b:Nat)(w:Ba)(hb:w.heap[b]?=J (Ag #[O U h.op,O U h.p,O U h.o,O U h.v,O U h.g,I A len c] 59 (0,0)))(ho:h.op=4) :
  An Al 151 #[Aj (J ⟨b,0,Z⟩),O U (n:Int)] w (qp [1] [(n:Int)-1] b w):=by
 have p0:=za hb 0 rfl;rw[ho] at p0;have ac:IntKind.i64.wrap ((n:Int)-1)=(n:Int)-1:=by rw[Lv];omega
 go_enter NP,NJ;go_wp2_with fail
 go_ret2
 obtain⟨H1,H2,H3⟩:=yx w #[Aj (J ⟨b,1,Z⟩)] #[O U ((n:Int)-1)] 213 3;exact xO H3 (by omega) (by omega) H1 H2
theorem fields_10(h:Fh)(A:Bb)(len c n:Nat)(hn:n<=5)(b:Nat)(w:Ba)(hb:w.heap[b]?=J (Ag #[O U h.op,O U h.p,O U h.o,O U h.v,O U h.g,I A len c] 59 (0,0)))(ho:h.op=10) :
  An Al 151 #[Aj (J ⟨b,0,Z⟩),O U (n:Int)] w (qp [1] [(n:Int)-1] b w):=by
 have p0:=za hb 0 rfl;rw[ho] at p0;have ac:IntKind.i64.wrap ((n:Int)-1)=(n:Int)-1:=by rw[Lv];omega
 go_enter NP,NJ;go_wp2_with fail
 go_ret2
 obtain⟨H1,H2,H3⟩:=yx w #[Aj (J ⟨b,1,Z⟩)] #[O U ((n:Int)-1)] 213 3;exact xO H3 (by omega) (by omega) H1 H2
theorem fields_6(h:Fh)(A:Bb)(len c n:Nat)(_hn:n<=5)(b:Nat)(w:Ba)(hb:w.heap[b]?=J (Ag #[O U h.op,O U h.p,O U h.o,O U h.v,O U h.g,I A len c] 59 (0,0)))(ho:h.op=6) :
  An Al 151 #[Aj (J ⟨b,0,Z⟩),O U (n:Int)] w (qp [3] [6] b w):=by
 have p0:=za hb 0 rfl;rw[ho] at p0;go_enter NP,NJ;go_wp2_with fail
 go_ret2
 obtain⟨H1,H2,H3⟩:=yx w #[Aj (J ⟨b,3,Z⟩)] #[O U (6)] 213 3;exact xO H3 (by omega) (by omega) H1 H2
theorem fields_11(h:Fh)(A:Bb)(len c n:Nat)(hn:n<=5)(b:Nat)(w:Ba)(hb:w.heap[b]?=J (Ag #[O U h.op,O U h.p,O U h.o,O U h.v,O U h.g,I A len c] 59 (0,0)))(ho:h.op=11) :
  An Al 151 #[Aj (J ⟨b,0,Z⟩),O U (n:Int)] w (qp [4] [(2:Int)^n-1] b w):=by
 have p0:=za hb 0 rfl;rw[ho] at p0;have HE:=zH (fun W=>kh n hn W);go_enter NP,NJ;go_wp2_with fail
 go_region_held3 (fun _=>True) (exact trivial) ((go_at_call 166;refine(HE.out _).mono ?_;rintro e w2 ⟨rfl,rfl⟩))
 all_goals
  go_wp2_with fail
  go_ret2
 all_goals
  first
  | (obtain ⟨H1, H2, H3⟩ := yx w #[Aj (J ⟨b, 4, Z⟩)] #[O U ((2 : Int) ^ n - 1)] 213 3
     exact xO H3.drew (by omega) (by omega) H1 H2)
  | (obtain ⟨H1, H2, H3⟩ := yx w #[O U ((2 : Int) ^ n - 1)] #[Aj (J ⟨b, 4, Z⟩)] 3 213
     exact xO H3.drew (by omega) (by omega) H2 H1)
theorem fields_12(h:Fh)(A:Bb)(len c n:Nat)(hn:n<=5)(b:Nat)(w:Ba)(hb:w.heap[b]?=J (Ag #[O U h.op,O U h.p,O U h.o,O U h.v,O U h.g,I A len c] 59 (0,0)))(ho:h.op=12) :
  An Al 151 #[Aj (J ⟨b,0,Z⟩),O U (n:Int)] w (qp [4] [(2:Int)^n-1] b w):=by
 have p0:=za hb 0 rfl;rw[ho] at p0;have HE:=zH (fun W=>kh n hn W);go_enter NP,NJ;go_wp2_with fail
 go_region_held3 (fun _=>True) (exact trivial) ((go_at_call 166;refine(HE.out _).mono ?_;rintro e w2 ⟨rfl,rfl⟩))
 all_goals
  go_wp2_with fail
  go_ret2
 all_goals
  first
  | (obtain ⟨H1, H2, H3⟩ := yx w #[Aj (J ⟨b, 4, Z⟩)] #[O U ((2 : Int) ^ n - 1)] 213 3
     exact xO H3.drew (by omega) (by omega) H1 H2)
  | (obtain ⟨H1, H2, H3⟩ := yx w #[O U ((2 : Int) ^ n - 1)] #[Aj (J ⟨b, 4, Z⟩)] 3 213
     exact xO H3.drew (by omega) (by omega) H2 H1)
theorem fields_13(h:Fh)(A:Bb)(len c n:Nat)(hn:n<=5)(b:Nat)(w:Ba)(hb:w.heap[b]?=J (Ag #[O U h.op,O U h.p,O U h.o,O U h.v,O U h.g,I A len c] 59 (0,0)))(ho:h.op=13) :
  An Al 151 #[Aj (J ⟨b,0,Z⟩),O U (n:Int)] w (qp [4] [(2:Int)^n-1] b w):=by
 have p0:=za hb 0 rfl;rw[ho] at p0;have HE:=zH (fun W=>kh n hn W);go_enter NP,NJ;go_wp2_with fail
 go_region_held3 (fun _=>True) (exact trivial) ((go_at_call 166;refine(HE.out _).mono ?_;rintro e w2 ⟨rfl,rfl⟩))
 all_goals
  go_wp2_with fail
  go_ret2
 all_goals
  first
  | (obtain ⟨H1, H2, H3⟩ := yx w #[Aj (J ⟨b, 4, Z⟩)] #[O U ((2 : Int) ^ n - 1)] 213 3
     exact xO H3.drew (by omega) (by omega) H1 H2)
  | (obtain ⟨H1, H2, H3⟩ := yx w #[O U ((2 : Int) ^ n - 1)] #[Aj (J ⟨b, 4, Z⟩)] 3 213
     exact xO H3.drew (by omega) (by omega) H2 H1)
theorem fields_no(h:Fh)(A:Bb)(len c n:Nat)(b:Nat)(w:Ba)(hb:w.heap[b]?=J (Ag #[O U h.op,O U h.p,O U h.o,O U h.v,O U h.g,I A len c] 59 (0,0)))(ho:¬(h.op=1\/h.op=5\/h.op=2\/h.op=3\/h.op=4\/h.op=10\/h.op=6\/h.op=11\/h.op=12\/h.op=13)) :
  An Al 151 #[Aj (J ⟨b,0,Z⟩),O U (n:Int)] w (qp [] [] b w):=by
 have p0:=za hb 0 rfl;have n1:¬h.op=1:=by omega
 have n5:¬h.op=5:=by omega
 have n2:¬h.op=2:=by omega
 have n3:¬h.op=3:=by omega
 have n4:¬h.op=4:=by omega
 have UO:¬h.op=10:=by omega
 have n6:¬h.op=6:=by omega
 have n11:¬h.op=11:=by omega
 have n12:¬h.op=12:=by omega
 have n13:¬h.op=13:=by omega
 go_enter NP,NJ;go_wp2_with fail
 go_ret2
 exact⟨Z,Z,rfl,Ll _ _,fun k hk=>absurd hk (by simp)⟩
theorem Qs(h:Fh)(A:Bb)(len c n:Nat)(hn:n<=5)(b:Nat)(w:Ba)(hb:w.heap[b]?=J (Ag #[O U h.op,O U h.p,O U h.o,O U h.v,O U h.g,I A len c] 59 (0,0))) :
  An Al 151 #[Aj (J ⟨b,0,Z⟩),O U (n:Int)] w (qp (xq h.op) (Xa n h.op) b w):=by
 by_cases e1:h.op=1
 . have:=fields_1 h A len c n hn b w hb e1
   rw[e1];exact this
 by_cases e5:h.op=5
 . have:=fields_5 h A len c n hn b w hb e5
   rw[e5];exact this
 by_cases e2:h.op=2
 . have:=fields_2 h A len c n hn b w hb e2
   rw[e2];exact this
 by_cases e3:h.op=3
 . have:=fields_3 h A len c n hn b w hb e3
   rw[e3];exact this
 by_cases e4:h.op=4
 . have:=fields_4 h A len c n hn b w hb e4
   rw[e4];exact this
 by_cases sq:h.op=10
 . have:=fields_10 h A len c n hn b w hb sq
   rw[sq];exact this
 by_cases e6:h.op=6
 . have:=fields_6 h A len c n hn b w hb e6
   rw[e6];exact this
 by_cases Hd:h.op=11
 . have:=fields_11 h A len c n hn b w hb Hd
   rw[Hd];exact this
 by_cases Hc:h.op=12
 . have:=fields_12 h A len c n hn b w hb Hc
   rw[Hc];exact this
 by_cases Hb:h.op=13
 . have:=fields_13 h A len c n hn b w hb Hb
   rw[Hb];exact this
 have h1:xq h.op=[]:=by unfold xq;simp[e1,e5,e2,e3,e4,sq,e6,Hd,Hc,Hb]
 have h2:Xa n h.op=[]:=by unfold Xa;simp[e1,e5,e2,e3,e4,sq,e6,Hd,Hc,Hb]
 rw[h1,h2];exact fields_no h A len c n b w hb (by omega)
theorem gP{w w':Ba}{b B:Nat}(h:Wrote (fun z=>z=b) w w')(hb:B<=b)(hl:B<=w.heap.size):Am B w w':=⟨h.os,h.tape,h.output,h.size,fun k hk=>h.block k (by omega) (by show ¬k=b;omega)⟩
def Fh.at(h:Fh)(a:Nat):Int:=if a=1 then h.p else if a=2 then h.o else if a=3 then h.v else h.g
def Fh.zero(h:Fh)(a:Nat):Fh:=if a=1 then { h with p:=0 } else if a=2 then { h with o:=0 } else if a=3 then { h with v:=0 } else { h with g:=0 }
def zF(h:Fh)(os:List Nat):Nat->Fh
 | 0=>h
 | k+1=>(zF h os k).zero (os.getD k 0)
def fcs(h:Fh)(A:Bb)(len c:Nat):Array Aq:=#[O U h.op,O U h.p,O U h.o,O U h.v,O U h.g,I A len c]
theorem fcs_cell{w:Ba}{b:Nat}{h:Fh}{A:Bb}{len c:Nat}(hb:w.heap[b]?=J (Ag (fcs h A len c) 59 (0,0))){a:Nat}(h1:1<=a)(h4:a<=4):w.cell? ⟨b,a,Z⟩=J (O U (h.at a)):=by
 obtain rfl | rfl | rfl | rfl:a=1\/a=2\/a=3\/a=4:=by omega
 . exact za hb 1 rfl
 . exact za hb 2 rfl
 . exact za hb 3 rfl
 exact za hb 4 rfl
theorem fcs_set(h:Fh)(A:Bb)(len c:Nat){a:Nat}(h1:1<=a)(h4:a<=4):(fcs h A len c).set! a (O U 0)=fcs (h.zero a) A len c:=by
 obtain rfl | rfl | rfl | rfl:a=1\/a=2\/a=3\/a=4:=by omega
 all_goals rfl
theorem fld_ok(op:Int):(xq op).length<=2/\(∀k (h:k<(xq op).length),1<=(xq op)[k]/\(xq op)[k]<=4):=by
 have key:∀l:List Nat,l∈[[1,3],[3],[1,2],[1],[4],[]]->l.length<=2/\∀k (h:k<l.length),1<=l[k]/\l[k]<=4:=by
  intro l hl;simp only[List.mem_cons,List.not_mem_nil,or_false] at hl
  have h2:(∀a∈l,1<=a/\a<=4)/\l.length<=2:=by
   rcases hl with rfl | rfl | rfl | rfl | rfl | rfl<;>decide
  exact⟨h2.2,fun k hk=>h2.1 _ (Ld hk)⟩
 refine key _ ?_;unfold xq
 repeat' split
 all_goals simp
theorem nod_prog{n:Nat}{h:Fh}{m:Nat}(h0:0<=h.op)(Y':h.op<=17)(hm:(m:Int)=arN h.op) :
  (∀k (hk:k<(xq h.op).length),((zF h (xq h.op) k).at (xq h.op)[k]<0\/(Xa n h.op).getD k 0<(zF h (xq h.op) k).at (xq h.op)[k])->kF n h m=2) /\
  ((∀k (hk:k<(xq h.op).length),0<=(zF h (xq h.op) k).at (xq h.op)[k]/\(zF h (xq h.op) k).at (xq h.op)[k]<=(Xa n h.op).getD k 0) ->
   kF n h m=if (zF h (xq h.op) (xq h.op).length).p≠0\/(zF h (xq h.op) (xq h.op).length).o≠0\/(zF h (xq h.op) (xq h.op).length).v≠0\/(zF h (xq h.op) (xq h.op).length).g≠0 then 3 else 0):=by
 obtain⟨op,p,o,v,g⟩:=h;dsimp only at h0 Y' hm ⊢;have e1:¬(op<0\/17<op):=by omega
 have e2:¬((m:Int)≠arN op):=by simp[hm]
 unfold kF;dsimp only;rw[Li e1,Li e2];clear e1 e2 hm;have fC:=(fld_ok op).1;obtain rfl | rfl | rfl | rfl | rfl | rfl | rfl | rfl | rfl | rfl | rfl | rfl | rfl | rfl | rfl | rfl | rfl | rfl:op=0\/op=1\/op=2\/op=3\/op=4\/op=5\/op=6\/op=7\/op=8\/op=9\/op=10\/op=11\/op=12\/op=13\/op=14\/op=15\/op=16\/op=17:=by omega
 all_goals
  refine⟨fun k hk hh=>?_,fun hh=>?_⟩
  . have eG:k=0\/k=1:=by omega
    simp only[usP,usO,usV,usG,mxV];rcases eG with rfl | rfl
    all_goals
     simp[xq,Xa,zF,Fh.at,Fh.zero] at hk hh ⊢
     try omega
  . have h0:=hh 0
    have h1:=hh 1;simp only[usP,usO,usV,usG,mxV];clear hh;simp[xq,Xa,zF,Fh.at,Fh.zero] at h0 h1 ⊢
    try omega
theorem ui(n:Nat)(_hn1:1<=n)(hn:n<=5)(f:Fm)(R:Fm->Int)(A:Bb)(c:Nat)(w:Ba)(hl:f.args.length<=1000000)
  (oF:RecAt w A f.args fun cs x X=>An Al 123 #[.agg cs,O U (n:Int)] X fun e w'=>e=Ak (O U (R x))/\Am X.heap.size X w') :
  An Al 123 #[.agg (f.vs A c),O U (n:Int)] w fun e w'=>e=Ak (O U (XY n R f))/\Am w.heap.size w w':=by
 obtain⟨w1,ac,d0,aA,hB⟩:=zh w (f.vs A c) 59;have ff:=zH oF;have d':=zH aA;clear aA;have Cx:=zH (fun a b c W=>uq a b c W);obtain⟨⟨op,hp,ho,hv,hg⟩,l⟩:=f;obtain⟨E,hE⟩:=Kh (XY n R (.mk ⟨op,hp,ho,hv,hg⟩ l));have HE:Ap (E=if kF n ⟨op,hp,ho,hv,hg⟩ l.length≠0 then kF n ⟨op,hp,ho,hv,hg⟩ l.length else Xb (l.map R)):=hE.symm;rw[hE];simp only[Fm.vs,Fm.args,Fm.h] at ac d0 ff hl HE ⊢;obtain⟨m,hm⟩:=Kh l.length;have HM:=zH hm;rw[hm] at ac d0 hl HE ⊢;have ah:=zH ac;have HB:=zH hB;have bD:=zH d0;obtain⟨p0,p1,p2,p3,p4,p5,_⟩:=Kg d0;clear ac d0 hB oF hm hE;go_enter func123,ntmps123;go_wp2_with fail;rw[ah.out];go_wp2_with fail;refine(Cx.out _ _ _ _).mono ?_;rintro e w2 ⟨rfl,cd⟩;obtain rfl:=cd
 by_cases bW:0<=op/\op<=17
 case neg=>
  have e0:decide (0<=op/\op<=17)=As:=Ln bW
  have lz:Ap (E=1):=by
   have h1:kF n ⟨op,hp,ho,hv,hg⟩ m=1:=Lo (by show op<0\/17<op;omega);rw[Ap,HE.out,h1];rfl
  clear HE ff bW;go_wp2_with fail;go_ret;rw[lz.out];exact⟨rfl,HB.out⟩
 have e0:decide (0<=op/\op<=17)=Ar:=Lm bW
 go_upto_block 0 with fail
 go_cut [0,5] from 14 (fun s0 s5 wx=>s0=Ai #[O U op,O U hp,O U ho,O U hv,O U hg,I A m c]/\s5=O U (arN op)/\wx=w2)
 case first=>
  clear HE ff;obtain rfl | rfl | rfl | rfl | rfl | rfl | rfl | rfl | rfl | rfl | rfl | rfl | rfl | rfl | rfl | rfl | rfl | rfl:op=0\/op=1\/op=2\/op=3\/op=4\/op=5\/op=6\/op=7\/op=8\/op=9\/op=10\/op=11\/op=12\/op=13\/op=14\/op=15\/op=16\/op=17:=by omega
  all_goals
   go_wp2_with fail
   go_meet
   exact⟨rfl,rfl,rfl⟩
 obtain⟨rfl,rfl,rfl⟩:=hcut
 by_cases hm:(m:Int)=arN op
 case neg=>
  have lz:Ap (E=15):=by
   have h1:kF n ⟨op,hp,ho,hv,hg⟩ m=15:=by unfold kF;rw[Li (by show ¬(op<0\/17<op);omega),Lo hm]
   rw[Ap,HE.out,h1];rfl
  have e1:((m:Int) != arN op)=Ar:=by simpa using hm
  clear HE ff bW;go_wp2_with fail;go_ret;rw[lz.out];exact⟨rfl,HB.out⟩
 have e1:((m:Int) != arN op)=As:=by simpa using hm
 go_upto_region 20 with fail
 obtain⟨W2,dT,d2,ef,af⟩:=zh wc #[O U op,O U hp,O U ho,O U hv,O U hg,I A m c] 59;rw[dT];have MD:=HB.out.size;have cI:=zH ef;clear ef;have aP:=zH (HB.out.trans (af.mono MD));have HF:=zH (Qs ⟨op,hp,ho,hv,hg⟩ A m c n hn wc.heap.size W2 d2);obtain⟨oU,eS⟩:=fld_ok op;obtain⟨Fo,Fn⟩:=nod_prog (n:=n) (h:=⟨op,hp,ho,hv,hg⟩) (m:=m) bW.1 bW.2 hm;have bD:=zH (La af bD.out);have iF:=zH d2;dsimp only at HF Fo Fn oU eS
 revert HF Fo Fn oU eS
 generalize xq op=os
 generalize Xa n op=ms
 intro HF oU eS Fo Fn;have pm:=zH Fo;have Cl:=zH Fn;have H':=zH eS;unfold qp at HF;obtain⟨q,hq⟩:=Kh os.length;have HQ:=zH hq;rw[hq] at oU;simp only[hq] at HF;clear dT d2 af Fo Fn eS p0 p1 p2 p3 p4 p5 e0 e1 hm;go_wp2_with fail;refine HF.out.mono ?_;rintro e W3 ⟨A1,A2,rfl,am,dR⟩;have ij:=am.size;have bk:=zH (aP.out.trans (am.mono (by have:=cI.out;omega)));have du:=zH dR;have bD:=zH (La am bD.out);have Cv:Ap (W3.heap[wc.heap.size]?=J (Ag (fcs (zF ⟨op,hp,ho,hv,hg⟩ os 0) A m c) 59 (0,0))):=La am iF.out;have rj:Ap (∀X,Wrote (fun z=>z=wc.heap.size) W3 X->X.heap[w.heap.size]?=J (Ag #[O U op,O U hp,O U ho,O U hv,O U hg,I A m c] 59 (0,0))):=fun X hX=>(hX.block _ (zc bD.out) (by have:=d'.out;omega)).trans bD.out
 clear am dR HF iF bD;go_wp2_with fail
 go_loopw [45] (fun i wr=>∃k:Nat,k<=q/\i=O U (k:Int)/\Ap (∀j (hj:j<os.length),j<k->0<=(zF ⟨op,hp,ho,hv,hg⟩ os j).at os[j]/\(zF ⟨op,hp,ho,hv,hg⟩ os j).at os[j]<=ms.getD j 0)/\Ap (wr.heap[wc.heap.size]?=J (Ag (fcs (zF ⟨op,hp,ho,hv,hg⟩ os k) A m c) 59 (0,0)))/\Ap (Wrote (fun z=>z=wc.heap.size) W3 wr)) (fun i _=>q-(Ao i).toNat)
 case atStart=>exact⟨0,by omega,rfl,fun j _ h=>absurd h (by omega),Cv,Wrote.refl _ _⟩
 obtain⟨k,hk,rfl,mI,hZ,l'⟩:=hrel;clear Cv
 by_cases Vz:k<q
 . have EC:k<os.length:=by have:=HQ.out;omega
   obtain⟨g1,g2,rfl,rfl,pS,lq,iu,fC,c1,c2⟩:=du.out k (by have:=HQ.out;omega);obtain⟨dL,C3⟩:=H'.out k EC;have iP:=pm.out k EC;obtain⟨a,ha⟩:=Kh (os[k]);have EL:os.getD k 0=a:=by rw[zI EC];exact ha
   obtain⟨Ae,th⟩:=Kh (zF ⟨op,hp,ho,hv,hg⟩ os k);have SK:zF ⟨op,hp,ho,hv,hg⟩ os (k+1)=Ae.zero a:=by rw[zF,th,EL]
   obtain⟨mx,CR⟩:=Kh (ms.getD k 0)
   have H9:Ap (0<=Ae.at a/\Ae.at a<=mx->∀j (hj:j<os.length),j<k+1->0<=(zF ⟨op,hp,ho,hv,hg⟩ os j).at os[j]/\(zF ⟨op,hp,ho,hv,hg⟩ os j).at os[j]<=ms.getD j 0):=fun h j hj CU=>by
    by_cases e:j=k
    . subst e;rw[th,ha,CR];exact h
    . exact mI.out j hj (by omega)
   simp only[ha,th,CR] at iP c1 c2 dL C3;rw[th] at hZ;have u1:=(LR (a:=⟨g1,k,Z⟩) (l'.out.block g1 iu (by show ¬g1=wc.heap.size;have:=cI.out;omega))).trans c1;have u2:=(LR (a:=⟨g2,k,Z⟩) (l'.out.block g2 fC (by show ¬g2=wc.heap.size;have:=cI.out;omega))).trans c2;have z0:=fcs_cell hZ.out dL C3;have zf:=zb hZ.out a;have zl:=zc hZ.out;have dO:=set_arr hZ.out a (O U 0);rw[fcs_set Ae A m c dL C3,<-SK] at dO;have cN:=zH dO.1;obtain⟨y,hy⟩:=Kh (Ae.at a);rw[hy] at z0;simp only[hy] at H9 iP;have ai:=zH iP;have cA:(0:Int)<=(k:Int):=by omega
   have bC:(k:Int)<(q:Int):=by omega
   have GT:Ap (Wrote (fun z=>z=wc.heap.size) W3 (wr.setCell ⟨wc.heap.size,a,Z⟩ (O U 0)).drew):=(l'.out.trans (Wrote.of_grown (zR wr wc.heap.size a _) (fun z e _=>by cases e;rfl)) (fun _ _ h=>h)).trans (Wrote.of_below ((Ll _ _).drew)) (fun _ _ h=>h);have Gk:Ap (∃bt:Bool,(bt=Ar↔(0<=y/\y<=mx))/\∀W,An Al 120 #[O U y,O U 0,O U mx] W fun e w'=>e=Ak (Ah bt)/\w'=W):=⟨_,by simp,fun W=>Cx.out y 0 mx W⟩;obtain⟨bt,di,l6⟩:=Gk.out;have rC:=zH l6;have Cw:=zH di;clear Gk l6 di;clear c1 c2 hZ dO ha EL th SK CR mI hy iP;go_upto_region 24 with fail
   refine zk [(0,Ar),(1,Ar),(2,Ar),(3,Ar),(4,Ar),(5,Ar),(6,Ar),(7,As),(8,Ar)] (fun X=>X=wr.drew) (by kernel_rfl) (by kernel_rfl) rfl ?_
   repeat
    apply zy rfl
    . rintro K' ae X rfl
      go_simp;exact ae
   refine zt rfl ?_;intro K' ae;go_simp;refine(rC.out _).mono ?_;rintro e w5 ⟨rfl,rfl⟩;refine ae _ _ rfl ?_;clear ae K'
   repeat
    apply zy rfl
    . rintro K' ae X rfl
      go_simp;exact ae
   refine zE ?_;clear rC
   cases bt with
   | false=>
    have lz:Ap (E=2):=by
     have h1:=ai.out (by
      have:=Cw.out;simp at this
      omega)
     rw[Ap,HE.out,h1];rfl
    have re:Ap (Am w.heap.size w wr.drew):=(bk.out.trans (gP l'.out (by omega) (by have:=bk.out.size;omega))).drew;clear ai HE ff Cw H9 cN GT l';go_wp2_with fail;go_ret;rw[lz.out];exact⟨rfl,re.out⟩
   | true=>
   have sE:=zH (H9.out (Cw.out.1 rfl));have Ni:Ap ((wr.setCell ⟨wc.heap.size,a,Z⟩ (O U 0)).drew.heap[wc.heap.size]?=J (Ag (fcs (zF ⟨op,hp,ho,hv,hg⟩ os (k+1)) A m c) 59 (0,0))):=cN.out;clear ai Cw H9 cN l';go_wp2_with fail
   go_roundw
   case rel=>exact⟨k+1,by omega,by go_num,sE,Ni,GT⟩
   simp[Ao];omega
 obtain rfl:q=k:=by omega
 have Fl:=Cl.out fun j hj=>mI.out j hj (by have:=HQ.out;omega)
 rw[HQ.out] at Fl;obtain⟨⟨zo0,zp,zo,zv,zg⟩,th⟩:∃Ae,zF ⟨op,hp,ho,hv,hg⟩ os q=Ae:=⟨_,rfl⟩;rw[th] at Fl hZ;dsimp only at Fl;have z1:wr.cell? ⟨wc.heap.size,1,Z⟩=J (O U zp):=za hZ.out 1 rfl;have z2:wr.cell? ⟨wc.heap.size,2,Z⟩=J (O U zo):=za hZ.out 2 rfl;have z3:wr.cell? ⟨wc.heap.size,3,Z⟩=J (O U zv):=za hZ.out 3 rfl;have z4:wr.cell? ⟨wc.heap.size,4,Z⟩=J (O U zg):=za hZ.out 4 rfl;have pl:=zH Fl;have re:Ap (Am w.heap.size w wr):=bk.out.trans (gP l'.out (by omega) (by have:=bk.out.size;omega));have tM:=zH (rj.out wr l'.out);clear Fl th hZ mI pm Cl H' du rj l' Vz hk
 by_cases AG:zp≠0\/zo≠0\/zv≠0\/zg≠0
 case pos=>
  have lz:Ap (E=3):=by
   have h1:=pl.out;rw[Lo AG] at h1;rw[Ap,HE.out,h1];rfl
  clear HE ff pl
  by_cases i1:zp=0
  . by_cases i2:zo=0
    . by_cases i3:zv=0
      . have i4:¬zg=0:=by omega
        clear AG;go_wp2_with fail;go_ret;rw[lz.out];exact⟨rfl,re.out⟩
      clear AG;go_wp2_with fail;go_ret;rw[lz.out];exact⟨rfl,re.out⟩
    clear AG;go_wp2_with fail;go_ret;rw[lz.out];exact⟨rfl,re.out⟩
  clear AG;go_wp2_with fail;go_ret;rw[lz.out];exact⟨rfl,re.out⟩
 have Ib:Ap (E=Xb (l.map R)):=by
  have h1:=pl.out;rw[Li AG] at h1;rw[Ap,HE.out,h1];rfl
 obtain rfl:zp=0:=by omega
 obtain rfl:zo=0:=by omega
 obtain rfl:zv=0:=by omega
 obtain rfl:zg=0:=by omega
 have p5:=za tM.out 5 rfl;clear AG HE pl tM;go_wp2_with fail
 go_loopw [83] (fun i wx=>∃k:Nat,k<=m/\i=O U (k:Int)/\Ap (∀j (hj:j<l.length),j<k->R l[j]=0)/\Ap (Am w.heap.size w wx)) (fun i _=>m-(Ao i).toNat)
 case atStart=>exact⟨0,by omega,rfl,fun j _ h=>absurd h (by omega),re⟩
 obtain⟨k,hk,rfl,fM,aC⟩:=hrel;clear z1 z2 z3 z4 p5 re
 by_cases aa:k<m
 . have aU:k<l.length:=by have:=HM.out;omega
   obtain⟨bb,o,A',c',eA,aM,ay,cj⟩:=ff.out k aU;subst eA;obtain⟨x,hx⟩:=Kh (l[k]);have nC:Ap (R l[k]=R x):=by rw[Ap,hx]
   rw[hx] at ay cj;obtain⟨Rx,Bx⟩:=Kh (R x);dsimp only at cj;simp only[Bx] at cj nC;obtain⟨⟨h0,h1,h2,h3,h4⟩,xl⟩:=x;have hc:∀j v,#[O U h0,O U h1,O U h2,O U h3,O U h4,I A' xl.length c'][j]?=J v->wr.cell? ⟨bb,o+k*6+j,Z⟩=J v:=ay wr aC.out;have z0:wr.cell? ⟨bb,o+k*6,Z⟩=J (O U h0):=hc 0 _ rfl;have z1:wr.cell? ⟨bb,o+k*6+1,Z⟩=J (O U h1):=hc 1 _ rfl;have z2:wr.cell? ⟨bb,o+k*6+2,Z⟩=J (O U h2):=hc 2 _ rfl;have z3:wr.cell? ⟨bb,o+k*6+3,Z⟩=J (O U h3):=hc 3 _ rfl;have z4:wr.cell? ⟨bb,o+k*6+4,Z⟩=J (O U h4):=hc 4 _ rfl;have z5:wr.cell? ⟨bb,o+k*6+5,Z⟩=J (I A' xl.length c'):=hc 5 _ rfl;have cA:(0:Int)<=(k:Int):=by omega
   have bC:(k:Int)<(m:Int):=by omega
   have cB:bb<wr.heap.size:=by have:=aC.out.size;omega
   have HC:=zH cj;simp only[Fm.vs,Fm.args,Fm.h] at HC;clear ay cj hx Bx hc;go_upto_region 33 with fail
   obtain⟨W5,mM,d5,iV,ap⟩:=zh wr #[O U h0,O U h1,O U h2,O U h3,O U h4,I A' xl.length c'] 59;rw[mM];have bh:=aC.out.size;have aW:=zH (aC.out.trans (ap.mono bh));have eF:=zH (HC.out W5 aW.out);obtain⟨y0,y1,y2,y3,y4,y5,_⟩:=Kg d5;clear mM d5 ap z0 z1 z2 z3 z4 z5 HC iV;go_wp2_with fail;refine eF.out.mono ?_;rintro e w6 ⟨rfl,bz⟩;have dj:=zH (Lc aW.out bz);clear bz eF y0 y1 y2 y3 y4 y5
   by_cases hr:Rx=0
   · have cK : Ap (∀ j (hj : j < l.length), j < k + 1 → R l[j] = 0) := fun j hj CU => by
      by_cases e:j=k
      . subst e;rw[nC.out];exact hr
      . exact fM.out j hj (by omega)
     have er:(Rx != 0)=As:=by simpa using hr
     subst hr;clear nC fM;go_wp2_with fail
     go_roundw
     case rel=>exact⟨k+1,by omega,by go_num,cK,dj⟩
     simp[Ao];omega
   have lz : Ap (E = Rx) := by
    rw[Ap,Ib.out];refine(ffsE_at (l:=l.map R) (k:=k) (by simpa using aU) (fun j hj CU=>?_) ?_).trans ?_
    . rw[NT];exact fM.out j (by simpa using hj) CU
    . rw[NT,nC.out];exact hr
    rw[NT,nC.out]
   have er:(Rx != 0)=Ar:=by simpa using hr
   clear nC fM Ib;go_wp2_with fail;go_ret;rw[lz.out];exact⟨rfl,dj.out⟩
 obtain rfl:m=k:=by omega
 have lz:Ap (E=0):=by
  rw[Ap,Ib.out];refine ffsE_none fun e he=>?_
  obtain⟨x,hx,rfl⟩:=LO.1 he;obtain⟨j,hj,rfl⟩:=LG hx;exact fM.out j hj (by have:=HM.out;omega)
 clear Ib fM;go_wp2_with fail;go_ret;rw[lz.out];exact⟨rfl,aC.out⟩
theorem wS(n:Nat)(en:1<=n)(hn:n<=5):∀(d:Nat) (f:Fm) (A:Bb) (c:Nat) (w:Ba),FsAt w w.heap.size d A f.args->(xG d f).1<=1000000 ->
  An Al 123 #[.agg (f.vs A c),O U (n:Int)] w fun e w'=>e=Ak (O U (jZ n d f))/\Am w.heap.size w w'
 | 0,f,A,c,w,hA,_=>by
  have h0:f.args=[]:=hA;exact ui n en hn f (fun _=>0) A c w (by rw[h0];decide) (RecAt.none hA)
 | d+1,f,A,c,w,hA,hb=>by
  have h1:(yC (xG d) f.args).1<=1000000:=hb;have h3:=gW (xG d) (Yo d) f.args;exact ui n en hn f (jZ n d) A c w (by omega) (RecAt.of hA fun x A' c' X hx hX=>wS n en hn d x A' c' X hX (LE (Yn (xG d) hx) h1))
theorem Qz(n:Int)(d:Nat)(f:Fm)(A:Bb)(c:Nat)(w:Ba)(hA:FsAt w w.heap.size d A f.args)(hb:(xG d f).1<=1000000) :
  An Al 71 #[.agg (f.vs A c),O U n] w fun e w'=>e=Ak (O U (j8 n d f))/\Am w.heap.size w w':=by
 obtain⟨w1,ac,d0,aA,hB⟩:=zh w (f.vs A c) 59;have Cx:=zH (fun a b c W=>uq a b c W);have BS:=zH (fun a b W=>XD a b W);have HA:=zH hA;have Oy:=zH (fun (X:Ba) (hX:Am w.heap.size w X)=>Zm d f A c X ((hA.keep hX).more hX.size) hb);have px:=zH (fun (k:Nat) (h1:1<=k) (h5:k<=5) (X:Ba) (hX:Am w.heap.size w X)=>wS k h1 h5 d f A c X ((hA.keep hX).more hX.size) hb);have HE:Ap (j8 n d f=if n<1\/5<n then 2 else if uu (xG d f)≠0 then uu (xG d f) else jZ n.toNat d f):=rfl;obtain⟨E,hE⟩:=Kh (j8 n d f);rw[hE] at HE ⊢;obtain⟨⟨z1,z2⟩,hz⟩:∃z,xG d f=z:=⟨_,rfl⟩;rw[hz] at Oy HE;unfold Fm.vs at ac d0 Oy px ⊢;have ah:=zH ac;have HB:=zH hB;have bD:=zH d0;clear ac d0 hB hE hA hb hz aA;have Gk:Ap (∃bt:Bool,(bt=Ar↔(1<=n/\n<=5))/\∀W,An Al 120 #[O U n,O U 1,O U 5] W fun e w'=>e=Ak (Ah bt)/\w'=W):=⟨_,by simp,fun W=>Cx.out n 1 5 W⟩;obtain⟨bt,di,l6⟩:=Gk.out;have rC:=zH l6;have Cw:=zH di;clear Gk l6 di;go_enter func71,ntmps71;go_wp2_with fail;rw[ah.out];go_wp2_with fail;refine(rC.out _).mono ?_;rintro e w2 ⟨rfl,cd⟩;obtain rfl:=cd
 cases bt with
 | false=>
  have lz:Ap (E=2):=by
   have:=Cw.out;simp at this;rw[Ap,HE.out,Lo (by omega)]
  go_wp2_with fail;go_ret;rw[lz.out];exact⟨rfl,HB.out⟩
 | true=>
 have hn:=Cw.out.1 rfl;obtain⟨k,rfl⟩:=Lr (show 0<=n by omega);have ai:=zH (HE.out.trans (Li (by omega)));rw[Lj] at ai;have Oz:=zH (px.out k (by omega) (by omega));have HC:=zH (Oy.out w2 HB.out);obtain⟨p0,p1,p2,p3,p4,p5,_⟩:=Kg bD.out;go_wp2_with fail;refine HC.out.mono ?_;rintro e w3 ⟨rfl,am⟩;have bk:=zH (Lc HB.out am);have Cv:=zH (La am bD.out);have eF:=zH (BS.out z1 z2 w3);obtain⟨r,hr⟩:=Kh (uu (z1,z2));rw[hr] at eF ai;go_wp2_with fail;refine eF.out.mono ?_;rintro e w4 ⟨rfl,mw⟩;obtain rfl:=mw
 by_cases h0:r=0
 . subst h0
   have HC:=zH (Oz.out w4 bk.out);have au:Ap (E=jZ k d f):=ai.out.trans (Li (by simp));obtain⟨p0,p1,p2,p3,p4,p5,_⟩:=Kg Cv.out;go_wp2_with fail;refine HC.out.mono ?_;rintro e w5 ⟨rfl,ap⟩;have aW:=zH (Lc bk.out ap);go_wp2_with fail;go_ret;rw[au.out];exact⟨rfl,aW.out⟩
 have au:Ap (E=r):=ai.out.trans (Lo h0);have e0:(r != 0)=Ar:=by simpa using h0
 go_wp2_with fail;go_ret;rw[au.out];exact⟨rfl,bk.out⟩
theorem Qt(n:Int)(d:Nat)(f:Fm)(A:Bb)(c:Nat)(w:Ba)(hA:FsAt w w.heap.size d A f.args)(hb:(xG d f).1<=1000000) :
  An Al 28 #[.agg (f.vs A c),O U n] w fun e w'=>e=Ak (O U (j8 n d f))/\Am w.heap.size w w':=by
 obtain⟨w1,ac,d0,aA,hB⟩:=zh w (f.vs A c) 59;have HC:=zH (Qz n d f A c w1 ((hA.keep hB).more hB.size) hb);unfold Fm.vs at ac d0 HC ⊢;have ah:=zH ac;have HB:=zH hB;clear ac d0 hB hA hb aA;go_enter func28,ntmps28;go_wp2_with fail;rw[ah.out];go_wp2_with fail;refine HC.out.mono ?_;rintro e w2 ⟨rfl,af⟩;have aP:=zH (Lc HB.out af);go_wp2_with fail;go_ret;exact⟨rfl,aP.out⟩
end
section
open Go.RowKit Go.Shelf
attribute [local go_sem] Oper.semAt_some
structure AtW(s:Sy)(A SV AV AX:Bb)(kc ks kv kx:Nat)(h:Fh)(AF:Bb)(lf cf:Nat)(out:List Int)(AR:Bb)(cr bS bF bR bH bV bI gH:Nat)(W:Ba):Prop where
 xs:XAt W W.heap.size AX s.xs
 cs:CAt W W.heap.size A s.p.t.cases
 ro:IAt W W.heap.size AR out
 hS:W.heap[bS]?=J (Ag (s.vs_ A kc SV ks AV kv AX kx) 39 (0,0))
 hF:W.heap[bF]?=J (Ag (fcs h AF lf cf) 59 (0,0))
 hR:W.heap[bR]?=J (Ag #[I AR out.length cr] 32 (0,0))
 hH:W.heap[bH]?=J (Ag #[I (J ⟨gH,0,Z⟩) s.vs.length s.vs.length] 30 (0,0))
 hG:RowAt W gH (xU s.vs s.vs.length)
 hV:W.heap[bV]?=J (Ag #[.func (.func 30) #[] #[Aj (J ⟨bS,0,Z⟩),Aj (J ⟨bF,0,Z⟩)]] 93 (0,0))
 hI:W.heap[bI]?=J (Ag #[.func (.func 31) #[] #[Aj (J ⟨bS,0,Z⟩)]] 94 (0,0))
section
variable {s:Sy} {A SV AV AX:Bb} {kc ks kv kx:Nat} {h:Fh} {AF:Bb} {lf cf:Nat} {out:List Int} {AR:Bb} {cr bS bF bR bH bV bI gH:Nat} {W W':Ba}
theorem AtW.keep(H:AtW s A SV AV AX kc ks kv kx h AF lf cf out AR cr bS bF bR bH bV bI gH W)(hb:Am W.heap.size W W'):AtW s A SV AV AX kc ks kv kx h AF lf cf out AR cr bS bF bR bH bV bI gH W':=
 have k:∀ {b:Nat} {o:Obj},W.heap[b]?=J o->W'.heap[b]?=J o:=fun e=>(hb.block _ (Lq.1 e).1).trans e
 ⟨(H.xs.keep hb).more hb.size,(H.cs.keep hb).more hb.size,(H.ro.keep hb).more hb.size,k H.hS,k H.hF,k H.hR,k H.hH,k H.hG,k H.hV,k H.hI⟩
end
theorem Jc(s:Sy)(K N:Nat)(hF:Fine s K N)(h:Fh)(e k q:Nat)(he:e<s.xs.length)(hk:k<=K)(hq:q<N)(iw:h.p=(q:Int))(A SV AV AX AF AR:Bb)(kc ks kv kx lf cf:Nat)(out:List Int)(cr bS bF bR bH bV bI gH:Nat)(w:Ba)
  (hW:AtW s A SV AV AX kc ks kv kx h AF lf cf out AR cr bS bF bR bH bV bI gH w) :
  An Al 30 #[Ai #[O U (e:Int),O U (k:Int)],Aj (J ⟨bS,0,Z⟩),Aj (J ⟨bF,0,Z⟩)] w fun r w'=>r=Ak (O U (xw s.xs[e] k q))/\Am w.heap.size w w':=by
 have hX:=hW.xs;have hb:=hW.hS;have hp:=hW.hF;unfold fcs at hp;rw[iw] at hp;obtain⟨w1,ac,d0,aA,hB⟩:=zh w #[O U (e:Int),O U (k:Int)] 92;have ii:=Ld he;obtain⟨co,aN⟩:=hF.views _ ii;obtain⟨bx,ox,A1,c1,A2,c2,eX,aV,x0,x1,x2,de,eU⟩:=(hX.keep hB).row e he;subst eX;obtain⟨x,hx⟩:∃x,x=s.xs[e]:=⟨_,rfl⟩;rw[<-hx] at co aN x2 eU ⊢;obtain⟨bl,ol,A3,c3,eL,az,y1,hI⟩:=eU.at_ k (by omega);subst eL;obtain⟨hl,ip⟩:=aN _ (Ld (by omega:k<x.views.length));have DK:∀row,x.views[k]'(by omega)=row->xw x k q=row.getD q 0:=fun row hr=>by unfold xw;rw[zI (by omega:k<x.views.length),hr]
 obtain⟨row,oE⟩:=Kh (x.views[k]'(by omega));rw[DK row oE];rw[oE] at y1 hI hl;obtain⟨b4,o4,e4,bq,z4⟩:=hI.at_ q (by omega);subst e4;have iU:row[q]'(by omega)=row.getD q 0:=by rw[Le,Lf (by omega)];rfl
 rw[iU] at z4;obtain⟨u,hu⟩:=Kh (row.getD q 0);rw[hu] at z4 ⊢;obtain⟨nv,sY⟩:=Kh x.views.length;rw[sY] at x2 co;obtain⟨nr,Eo⟩:=Kh row.length;rw[Eo] at y1 hl;have ah:=zH ac;have HB:=zH hB;obtain⟨g0,g1,_⟩:=Ka d0;have p0:w1.cell? ⟨bF,1,Z⟩=J (O U (q:Int)):=za (La hB hp) 1 rfl;have p9:w1.cell? ⟨bS,9,Z⟩=J (I (J ⟨bx,ox,Z⟩) s.xs.length kx):=za (La hB hb) 9 rfl;have h1:(0:Int)<=(e:Int):=by omega
 have h2:(e:Int)<(s.xs.length:Int):=by omega
 have h3:(0:Int)<=(k:Int):=by omega
 have h4:(k:Int)<(nv:Int):=by omega
 have h5:(0:Int)<=(q:Int):=by omega
 have h6:(q:Int)<(nr:Int):=by omega
 clear ac d0 hB hX hb hp hF iU hu sY Eo hx de eU hI ip aN ii DK oE x0 x1 hl co iw;go_enter func30,ntmps30;go_wp2_with fail;rw[ah.out];go_quiet (fail);go_wp2_with fail;go_ret;exact⟨rfl,zO HB.out _⟩
theorem Jd(s:Sy)(h:Fh)(e k c:Nat)(he:e<s.xs.length)(hc:s.xs[e].c=(c:Int))(aw:c<s.p.t.cases.length)(A SV AV AX AF AR:Bb)(kc ks kv kx lf cf:Nat)(out:List Int)(cr bS bF bR bH bV bI gH:Nat)(w:Ba)
  (hW:AtW s A SV AV AX kc ks kv kx h AF lf cf out AR cr bS bF bR bH bV bI gH w) :
  An Al 31 #[Ai #[O U (e:Int),O U (k:Int)],Aj (J ⟨bS,0,Z⟩)] w fun r w'=>∃A' c',r=Ak (.slice A' (yc s.p c).length c')/\IAt w' w.heap.size A' (yc s.p c)/\Am w.heap.size w w':=by
 have hX:=hW.xs;have hC:=hW.cs;have hb:=hW.hS;obtain⟨w1,ac,d0,aA,hB⟩:=zh w #[O U (e:Int),O U (k:Int)] 92;obtain⟨bx,ox,A1,c1,A2,c2,eX,aV,x0,x1,x2,de,eU⟩:=(hX.keep hB).row e he;subst eX;rw[hc] at x0;obtain⟨bc,oc,A3,c3,A4,c4,A5,c5,eC,lw,y0,y1,y2,hI,_,_⟩:=(hC.keep hB).row c aw;subst eC;have dK:yc s.p c=s.p.t.cases[c].inp:=by unfold yc;rw[Le,Lf aw];rfl
 rw[<-dK] at y0 hI;obtain⟨L,hL⟩:=Kh (yc s.p c);rw[hL] at y0 hI ⊢;obtain⟨nl,eh⟩:=Kh L.length;rw[eh] at y0 ⊢;have HI:=zH hI;have ah:=zH ac;have HB:=zH hB;have g0:=za d0 0 rfl;have p3:w1.cell? ⟨bS,3,Z⟩=J (I (J ⟨bc,oc,Z⟩) s.p.t.cases.length kc):=za (La hB hb) 3 rfl;have p9:w1.cell? ⟨bS,9,Z⟩=J (I (J ⟨bx,ox,Z⟩) s.xs.length kx):=za (La hB hb) 9 rfl;have h1:(0:Int)<=(e:Int):=by omega
 have h2:(e:Int)<(s.xs.length:Int):=by omega
 have h3:(0:Int)<=(c:Int):=by omega
 have h4:(c:Int)<(s.p.t.cases.length:Int):=by omega
 clear ac d0 hB hX hC hb hc de eU hI dK hL eh x1 x2 y1 y2;go_enter func31,ntmps31;go_wp2_with fail;rw[ah.out];go_quiet (fail);go_wp2_with fail;go_ret;exact⟨_,_,rfl,IAt.keep HI.out (zO (Ll w.heap.size w1) _),zO HB.out _⟩
end
section
open Go.RowKit Go.Shelf
attribute [local go_sem] Oper.semAt_some
theorem at0_any(s:Sy)(h:Fh)(e k:Nat)(_he:e<s.xs.length)(bW:h.op=0)(A SV AV AX AF AR:Bb)(kc ks kv kx lf cf:Nat)(out:List Int)(cr bS bF bR bH bV bI gH:Nat)(w:Ba)
  (_hW:AtW s A SV AV AX kc ks kv kx h AF lf cf out AR cr bS bF bR bH bV bI gH w) :
  An Al 32 #[Ai #[O U (e:Int),O U (k:Int)]] w fun r w'=>r=Ak (Ah (yP s out h (e,k)))/\Am w.heap.size w w':=by
 obtain⟨w1,ac,d0,aA,hB⟩:=zh w #[O U (e:Int),O U (k:Int)] 92;have hE:yP s out h (e,k)=Ar:=by unfold yP;rw[Lo bW]
 rw[hE];have ah:=zH ac;have HB:=zH hB;clear ac d0 hB _hW hE bW _he aA;go_enter func32,ntmps32;go_wp2_with fail;rw[ah.out];go_wp2_with fail;go_ret;exact⟨rfl,HB.out⟩
theorem at1_any(s:Sy)(h:Fh)(e k:Nat)(he:e<s.xs.length)(c q:Nat)(hc:s.xs[e].c=(c:Int))(aw:c<s.p.t.cases.length)(hq:q<(yc s.p c).length)(iw:h.p=(q:Int))(bW:h.op=1)(A SV AV AX AF AR:Bb)(kc ks kv kx lf cf:Nat)(out:List Int)(cr bS bF bR bH bV bI gH:Nat)(w:Ba)
  (hW:AtW s A SV AV AX kc ks kv kx h AF lf cf out AR cr bS bF bR bH bV bI gH w) :
  An Al 33 #[Ai #[O U (e:Int),O U (k:Int)],Aj (J ⟨bI,0,Z⟩),Aj (J ⟨bF,0,Z⟩)] w fun r w'=>r=Ak (Ah (yP s out h (e,k)))/\Am w.heap.size w w':=by
 obtain⟨w1,ac,d0,aA,hB⟩:=zh w #[O U (e:Int),O U (k:Int)] 92
 have hE:yP s out h (e,k)=decide ((yc s.p c).getD q 0=h.v):=by
  unfold yP;rw[Li (by rw[bW];decide),Lo bW];dsimp only;rw[zI he,hc,iw,Lj,Lj]
 rw[hE];have HC:=zH (Jd s h e k c he hc aw A SV AV AX AF AR kc ks kv kx lf cf out cr bS bF bR bH bV bI gH w1.drew (hW.keep hB.drew));have hF:=hW.hF;unfold fcs at hF;rw[iw] at hF;obtain⟨vv,nG⟩:=Kh h.v;rw[nG] at hF ⊢;obtain⟨L,hL⟩:=Kh (yc s.p c);rw[hL] at HC hq ⊢;obtain⟨y,hy⟩:=Kh (L.getD q 0);have HY:Ap (L[q]=y):=by rw[Ap,<-hy,zI hq]
 rw[hy];have BD:=hW.hI;have lF:=zc hF;have lI:=zc BD
 have eK:Ap (∀X,Am w1.heap.size w1 X->X.heap[bF]?=J (Ag #[O U h.op,O U (q:Int),O U h.o,O U vv,O U h.g,I AF lf cf] 59 (0,0))/\X.heap[bI]?=J (Ag #[.func (.func 31) #[] #[Aj (J ⟨bS,0,Z⟩)]] 94 (0,0))/\X.heap[w.heap.size]?=J (Ag #[O U (e:Int),O U (k:Int)] 92 (0,0))):=
  fun X hX=>⟨Lb hX (by omega) (Lb hB lF hF),Lb hX (by omega) (Lb hB lI BD),Lb hX (by omega) d0⟩
 have ah:=zH ac;have HB:=zH hB;have d':=zH aA;obtain⟨n,hn⟩:=Kh L.length;have HN:=zH hn;have Av:q<n:=by omega
 rw[hn] at HC;have h5:(0:Int)<=(q:Int):=by omega
 have h6:(q:Int)<(n:Int):=by omega
 clear ac d0 hB hW hF BD hE hL nG bW iw hc aw he aA hy hn;go_enter func33,ntmps33;go_wp2_with fail;rw[ah.out];refine zk [(0,Ar),(1,Ar),(3,Ar),(4,Ar),(7,Ar),(8,Ar),(2,As),(5,As),(6,As),(9,As),(10,As)] (fun X=>X.heap[bF]?=J (Ag #[O U h.op,O U (q:Int),O U h.o,O U vv,O U h.g,I AF lf cf] 59 (0,0))/\X.heap[bI]?=J (Ag #[.func (.func 31) #[] #[Aj (J ⟨bS,0,Z⟩)]] 94 (0,0))/\X.heap[w.heap.size]?=J (Ag #[O U (e:Int),O U (k:Int)] 92 (0,0))) (by kernel_rfl) (by kernel_rfl) (eK.out _ (Ll _ _).drew) ?_
 repeat
  apply zy rfl
  . rintro K' ae X ⟨u1,u2,u3⟩
    have q1:=za u1 1 rfl;have q3:=za u1 3 rfl;have i0:=za u2 0 rfl;obtain⟨g0,g1,_⟩:=Ka u3;clear u1 u2 u3;go_simp;exact ae
 refine zt rfl ?_;intro K' ae;go_simp;refine HC.out.mono ?_;rintro r w5 ⟨A',c',rfl,sg,ap⟩;have ap:Am w1.heap.size w1 w5:=(Ll _ w1).drew.trans (ap.mono (Lh _));have aW:=zH (Lc HB.out ap);have f':=zH (eK.out w5 ap);obtain⟨b4,o4,rfl,bq,z4⟩:=sg.at_ q (by rw[HN.out];exact Av);rw[HY.out] at z4;have MT:=zH z4;refine ae _ _ f'.out ?_;have z4:=MT.out;refine zt rfl ?_;intro K' ae;go_simp;refine ae _ _ f'.out ?_;refine zt rfl ?_;intro K' ae;go_simp;refine ae _ _ f'.out ?_;refine zt rfl ?_;intro K' ae;go_simp;refine ae _ _ f'.out ?_;refine zt rfl ?_;intro K' ae;go_simp;refine ae _ _ f'.out ?_;refine zE ?_;go_wp2_with fail;go_ret;exact⟨ze (by first | rfl | simp),aW.out⟩
theorem at2_any(s:Sy)(h:Fh)(e k:Nat)(he:e<s.xs.length)(c:Nat)(hc:s.xs[e].c=(c:Int))(aw:c<s.p.t.cases.length)(BC:(yc s.p c).length<=5)(bW:h.op=2)(A SV AV AX AF AR:Bb)(kc ks kv kx lf cf:Nat)(out:List Int)(cr bS bF bR bH bV bI gH:Nat)(w:Ba)
  (hW:AtW s A SV AV AX kc ks kv kx h AF lf cf out AR cr bS bF bR bH bV bI gH w) :
  An Al 34 #[Ai #[O U (e:Int),O U (k:Int)],Aj (J ⟨bI,0,Z⟩),Aj (J ⟨bF,0,Z⟩)] w fun r w'=>r=Ak (Ah (yP s out h (e,k)))/\Am w.heap.size w w':=by
 obtain⟨w1,ac,d0,aA,hB⟩:=zh w #[O U (e:Int),O U (k:Int)] 92
 have hE:yP s out h (e,k)=decide (h.v∈yc s.p c):=by
  unfold yP;rw[Li (by rw[bW];decide),Li (by rw[bW];decide),Lo bW];dsimp only;rw[zI he,hc,Lj]
 rw[hE];have HC:=zH (Jd s h e k c he hc aw A SV AV AX AF AR kc ks kv kx lf cf out cr bS bF bR bH bV bI gH w1 (hW.keep hB));have hF:=hW.hF;unfold fcs at hF;obtain⟨vv,nG⟩:=Kh h.v;rw[nG] at hF ⊢;obtain⟨L,hL⟩:=Kh (yc s.p c);rw[hL] at HC BC ⊢;have BD:=hW.hI;have lF:=zc hF;have lI:=zc BD;have eK:Ap (∀X,Am w1.heap.size w1 X->X.cell? ⟨bF,3,Z⟩=J (O U vv)):=fun X hX=>za (Lb hX (by omega) (Lb hB lF hF)) 3 rfl
 have i0:=za (Lb hB lI BD) 0 rfl;obtain⟨g0,g1,_⟩:=Ka d0;have ah:=zH ac;have HB:=zH hB;obtain⟨n,hn⟩:=Kh L.length;have HN:=zH hn;rw[hn] at HC BC;clear ac d0 hB hW hF BD hE hL nG bW hc aw he aA hn;go_enter func34,ntmps34;go_upto_region 1 with fail
 rw[ah.out];go_wp2_with fail;refine HC.out.mono ?_;rintro r w5 ⟨A',c',rfl,sg,ap⟩;have ap:Am w1.heap.size w1 w5:=ap;have aW:=zH (Lc HB.out ap);have p3:=eK.out w5 ap;have nU:=zH sg;go_wp2_with fail
 go_loop [11] (fun i=>∃m:Nat,m<=n/\i=O U (m:Int)/\Ap (∀j (h:j<L.length),j<m->¬L[j]=vv)) (fun i=>n-(Ao i).toNat)
 case atStart=>exact⟨0,by omega,rfl,fun j _ h=>absurd h (by omega)⟩
 obtain⟨m,hm,rfl,cD⟩:=hrel
 by_cases aa:m<n
 . have iM:m<L.length:=by have:=HN.out;omega
   obtain⟨b,off,rfl,az,z0⟩:=nU.out.at_ m iM;obtain⟨x,hx⟩:=Kh (L[m]);have HX:=zH hx;rw[hx] at z0;have cA:(0:Int)<=(m:Int):=by omega
   have bC:(m:Int)<(n:Int):=by omega
   by_cases O8:x=vv
   . subst O8
     have dK:Ap (decide (x∈L)=Ar):=Lm (by rw[<-HX.out];exact Ld iM);go_wp2_with fail;go_ret;exact⟨ze dK.out.symm,aW.out⟩
   have Ki : Ap (∀ j (h : j < L.length), j < m + 1 -> ¬ L[j] = vv) := fun j h h2 => by
    by_cases e:j=m
    . subst e;rw[HX.out];exact O8
    . exact cD.out j h (by omega)
   go_wp2_with fail
   go_round
   case rel=>exact⟨m+1,by omega,by go_num,Ki⟩
   simp[Ao];omega
 obtain rfl:n=m:=by omega
 have Vh:Ap (decide (vv∈L)=As):=Ln fun h=>by
  obtain⟨j,hj,e⟩:=LG h;exact cD.out j hj (by have:=HN.out;omega) e
 go_wp2_with fail;go_ret;exact⟨ze Vh.out.symm,aW.out⟩
theorem at3_any(s:Sy)(h:Fh)(e k:Nat)(he:e<s.xs.length)(K N q o' S u:Nat)(rc:Fine s K N)(hk:k<=K)(hq:q<N)(iw:h.p=(q:Int))(ho:h.o=(o':Int))(mX:o'<5)(hu:xw s.xs[e] k q=(u:Int))(DR:u<s.vs.length)(hS:(xU s.vs s.vs.length).getD u 0=(S:Int))(Mh:S<32)(bW:h.op=3)(A SV AV AX AF AR:Bb)(kc ks kv kx lf cf:Nat)(out:List Int)(cr bS bF bR bH bV bI gH:Nat)(w:Ba)
  (hW:AtW s A SV AV AX kc ks kv kx h AF lf cf out AR cr bS bF bR bH bV bI gH w) :
  An Al 35 #[Ai #[O U (e:Int),O U (k:Int)],Aj (J ⟨bH,0,Z⟩),Aj (J ⟨bV,0,Z⟩),Aj (J ⟨bF,0,Z⟩)] w fun r w'=>r=Ak (Ah (yP s out h (e,k)))/\Am w.heap.size w w':=by
 obtain⟨w1,ac,d0,aA,hB⟩:=zh w #[O U (e:Int),O U (k:Int)] 92
 have hE:yP s out h (e,k)=S.testBit o':=by
  unfold yP;rw[Li (by rw[bW];decide),Li (by rw[bW];decide),Li (by rw[bW];decide),Lo bW];dsimp only;rw[zI he,iw,Lj,hu,Lj,hS,Lj,ho,Lj]
 rw[hE];have hC:=Jc s K N rc h e k q he hk hq iw A SV AV AX AF AR kc ks kv kx lf cf out cr bS bF bR bH bV bI gH w1.drew (hW.keep hB.drew);rw[hu] at hC;have HC:=zH hC;have hF:=hW.hF;unfold fcs at hF;rw[ho] at hF;have GY:=hW.hH;have tj:=hW.hV;have Mw:=hW.hG;have z0:=Mw.cell u (by rw[qS];exact DR);have e0:(xU s.vs s.vs.length)[u]'(by rw[qS];exact DR)=(S:Int):=by rw[<-hS,zI (by rw[qS];exact DR)]
 rw[e0] at z0;obtain⟨n,hn⟩:=Kh s.vs.length;rw[hn] at GY DR;have lF:=zc hF;have lH:=zc GY;have lV:=zc tj;have lG:=Mw.lt
 have eK:Ap (∀X,Am w1.heap.size w1 X->X.heap[bF]?=J (Ag #[O U h.op,O U h.p,O U (o':Int),O U h.v,O U h.g,I AF lf cf] 59 (0,0))/\X.heap[bH]?=J (Ag #[I (J ⟨gH,0,Z⟩) n n] 30 (0,0))/\X.heap[bV]?=J (Ag #[.func (.func 30) #[] #[Aj (J ⟨bS,0,Z⟩),Aj (J ⟨bF,0,Z⟩)]] 93 (0,0))/\X.heap[w.heap.size]?=J (Ag #[O U (e:Int),O U (k:Int)] 92 (0,0))):=
  fun X hX=>⟨Lb hX (by omega) (Lb hB lF hF),Lb hX (by omega) (Lb hB lH GY),Lb hX (by omega) (Lb hB lV tj),Lb hX (by omega) d0⟩
 have rg:Ap (∀X,Am w1.heap.size w1 X->X.cell? ⟨gH,u,Z⟩=J (O U (S:Int))):=fun X hX=>(hX.cell (p:=⟨gH,u,Z⟩) (by show gH<w1.heap.size;omega)).trans ((hB.cell (p:=⟨gH,u,Z⟩) lG).trans z0)
 have ah:=zH ac;have HB:=zH hB;have aH:=Zy Mh mX;have h5:(0:Int)<=(u:Int):=by omega
 have h6:(u:Int)<(n:Int):=by omega
 have Mx:(0:Int)<=(S:Int):=by omega
 have RT:min o' 64=o':=by omega
 obtain⟨bt,di⟩:=Kh (S.testBit o');rw[di] at aH ⊢;clear ac d0 hB hW hF GY tj Mw hE bW iw ho he aA hu hS z0 e0 rc hC hk hq di hn;go_enter func35,ntmps35;go_wp2_with fail;rw[ah.out];refine zk [(0,Ar),(1,Ar),(2,Ar),(6,Ar),(7,Ar),(3,As),(4,As),(5,As),(8,As),(9,As),(10,As),(11,As)] (fun X=>X.heap[bF]?=J (Ag #[O U h.op,O U h.p,O U (o':Int),O U h.v,O U h.g,I AF lf cf] 59 (0,0))/\X.heap[bH]?=J (Ag #[I (J ⟨gH,0,Z⟩) n n] 30 (0,0))/\X.heap[bV]?=J (Ag #[.func (.func 30) #[] #[Aj (J ⟨bS,0,Z⟩),Aj (J ⟨bF,0,Z⟩)]] 93 (0,0))/\X.heap[w.heap.size]?=J (Ag #[O U (e:Int),O U (k:Int)] 92 (0,0))) (by kernel_rfl) (by kernel_rfl) (eK.out _ (Ll _ _).drew) ?_
 repeat
  apply zy rfl
  . rintro K' ae X ⟨u1,u2,u3,u4⟩
    have q2:=za u1 2 rfl;have j0:=za u2 0 rfl;have i0:=za u3 0 rfl;obtain⟨g0,g1,_⟩:=Ka u4;clear u1 u2 u3 u4;go_simp;exact ae
 refine zt rfl ?_;intro K' ae;go_simp;refine HC.out.mono ?_;rintro r w5 ⟨rfl,ap⟩;have ap:Am w1.heap.size w1 w5:=(Ll _ w1).drew.trans (ap.mono (Lh _));have aW:=zH (Lc HB.out ap);have f':=zH (eK.out w5 ap);have z4:=rg.out w5 ap;refine ae _ _ f'.out ?_;refine zt rfl ?_;intro K' ae;go_simp;refine ae _ _ f'.out ?_;refine zt rfl ?_;intro K' ae;go_simp;refine ae _ _ f'.out ?_;refine zt rfl ?_;intro K' ae;go_simp;refine ae _ _ f'.out ?_;refine zt rfl ?_;intro K' ae;go_simp;refine ae _ _ f'.out ?_;refine zt rfl ?_;intro K' ae;go_simp;refine ae _ _ f'.out ?_;refine zt rfl ?_;intro K' ae;go_simp;refine ae _ _ f'.out ?_;refine zE ?_;go_wp2_with fail;go_ret;exact⟨rfl,aW.out⟩
theorem at4_any(s:Sy)(h:Fh)(e k:Nat)(he:e<s.xs.length)(K N q:Nat)(rc:Fine s K N)(hk:k<=K)(im:q<5)(iw:h.p=(q:Int))(oU:∀r∈s.xs[e].word,∃F:Nat,r.f=(F:Int)/\F<32)(bW:h.op=4)(A SV AV AX AF AR:Bb)(kc ks kv kx lf cf:Nat)(out:List Int)(cr bS bF bR bH bV bI gH:Nat)(w:Ba)
  (hW:AtW s A SV AV AX kc ks kv kx h AF lf cf out AR cr bS bF bR bH bV bI gH w) :
  An Al 36 #[Ai #[O U (e:Int),O U (k:Int)],Aj (J ⟨bS,0,Z⟩),Aj (J ⟨bF,0,Z⟩)] w fun r w'=>r=Ak (Ah (yP s out h (e,k)))/\Am w.heap.size w w':=by
 obtain⟨w1,ac,d0,aA,hB⟩:=zh w #[O U (e:Int),O U (k:Int)] 92
 have hE:yP s out h (e,k)=(decide (0<k)&&((s.xs[e].word.getD (k-1) default).f).toNat.testBit q):=by
  unfold yP;rw[Li (by rw[bW];decide),Li (by rw[bW];decide),Li (by rw[bW];decide),Li (by rw[bW];decide),Lo bW];dsimp only;rw[zI he,iw,Lj]
 rw[hE];have hF:=hW.hF;unfold fcs at hF;rw[iw] at hF;have Mg:=hW.hS;have lF:=zc hF;have lS:=zc Mg;have Tn:=Lb hB lF hF;have pY:=Lb hB lS Mg;obtain⟨g0,g1,_⟩:=Ka d0;have q1:=za Tn 1 rfl;obtain⟨bx,ox,A1,c1,A2,c2,eX,aV,x0,x1,x2,de,WG⟩:=(hW.xs.keep hB).row e he;subst eX;have p9:w1.cell? ⟨bS,9,Z⟩=J (I (J ⟨bx,ox,Z⟩) s.xs.length kx):=za pY 9 rfl;have h1:(0:Int)<=(e:Int):=by omega
 have h2:(e:Int)<(s.xs.length:Int):=by omega
 obtain⟨x,hx⟩:∃x,x=s.xs[e]:=⟨_,rfl⟩;have lk:=(rc.word _ (Ld he)).1;rw[<-hx] at oU lk x1 de ⊢;have ah:=zH ac;have HB:=zH hB;have U5:=aA;clear ac d0 hB hW hF Tn Mg pY hE bW iw x0 x2 hx WG
 by_cases RZ:0<k
 case neg=>
  have iP:(decide (0<k)&&((x.word.getD (k-1) default).f).toNat.testBit q)=As:=by rw[Ln RZ];rfl
  rw[iP];have bC:decide ((k:Int)>0)=As:=Ln (by omega);obtain⟨ki,CT⟩:∃ki:Int,(k:Int)=ki:=⟨_,rfl⟩;rw[CT] at bC ah g1 ⊢;clear oU de x1 iP RZ CT;go_enter func36,ntmps36;go_wp2_with fail;rw[ah.out];refine zk [(0,Ar),(1,Ar),(2,Ar),(3,Ar),(4,Ar),(5,Ar),(6,Ar),(7,Ar),(8,Ar),(9,Ar),(10,Ar),(11,Ar),(12,Ar),(13,Ar),(14,Ar),(15,Ar),(16,Ar),(17,Ar),(18,Ar),(19,Ar),(20,Ar),(21,Ar),(22,Ar),(23,Ar)] (fun X=>X=w1.drew) (by kernel_rfl) (by kernel_rfl) rfl ?_
  repeat
   apply zy rfl
   . rintro K' ae X rfl
     go_simp;exact ae
  refine zE ?_;go_wp2_with fail;go_ret;exact⟨rfl,HB.out.drew⟩
 obtain⟨k,rfl⟩:∃j,k=j+1:=⟨k-1,by omega⟩;obtain⟨bw,ow,eW,cB,y0,y1,y2,y3,y4,y5,y6⟩:=de.row k (by omega);subst eW;have oS:x.word.getD k default=x.word[k]'(by omega):=zI (by omega) default;obtain⟨F,Mz,MB⟩:=oU _ (Ld (by omega:k<x.word.length));rw[Mz] at y6
 have iP:(decide (0<k+1)&&((x.word.getD (k+1-1) default).f).toNat.testBit q)=F.testBit q:=by
  rw[Nu,oS,Mz,Lj];simp
 rw[iP];have aH:=Zy MB im;obtain⟨bt,di⟩:=Kh (F.testBit q);rw[di] at aH ⊢;obtain⟨nw,I'⟩:=Kh x.word.length;rw[I'] at x1 lk;have cA:decide (((k+1:Nat):Int)>0)=Ar:=Lm (by omega);have sT:IntKind.i64.wrap (((k+1:Nat):Int)-1)=(k:Int):=by have:=rc.k6;rw[Lv];omega
 have h3:(0:Int)<=(k:Int):=by omega
 have h4:(k:Int)<(nw:Int):=by omega
 have Vc:(0:Int)<=(q:Int):=by omega
 have Mx:(0:Int)<=(F:Int):=by omega
 have RT:min q 64=q:=by omega
 obtain⟨k1,bC⟩:∃k1:Int,((k+1:Nat):Int)=k1:=⟨_,rfl⟩;rw[bC] at cA sT g1 ah ⊢;clear oU de oS Mz iP di I' y0 y1 y2 y3 y4 y5 rc lk he bC hk;go_enter func36,ntmps36;go_wp2_with fail;rw[ah.out];refine zk [(0,Ar),(1,Ar),(2,Ar),(3,Ar),(4,Ar),(5,Ar),(6,Ar),(7,Ar),(8,Ar),(9,Ar),(10,Ar),(11,Ar),(12,Ar),(13,Ar),(14,Ar),(15,Ar),(16,Ar),(17,Ar),(18,Ar),(19,Ar),(20,Ar),(21,Ar),(22,Ar),(23,Ar)] (fun X=>X=w1.drew) (by kernel_rfl) (by kernel_rfl) rfl ?_
 repeat
  apply zy rfl
  . rintro K' ae X rfl
    go_simp;exact ae
 refine zE ?_;go_wp2_with fail;go_ret;exact⟨rfl,HB.out.drew⟩
theorem at5_any(s:Sy)(h:Fh)(e k:Nat)(he:e<s.xs.length)(K N q u:Nat)(rc:Fine s K N)(hk:k<=K)(hq:q<N)(iw:h.p=(q:Int))(hu:xw s.xs[e] k q=(u:Int))(DR:u<s.vs.length)(bW:h.op=5)(A SV AV AX AF AR:Bb)(kc ks kv kx lf cf:Nat)(out:List Int)(cr bS bF bR bH bV bI gH:Nat)(w:Ba)
  (hW:AtW s A SV AV AX kc ks kv kx h AF lf cf out AR cr bS bF bR bH bV bI gH w) (ir:0<out.length->out.length=s.vs.length) :
  An Al 37 #[Ai #[O U (e:Int),O U (k:Int)],Aj (J ⟨bR,0,Z⟩),Aj (J ⟨bV,0,Z⟩),Aj (J ⟨bF,0,Z⟩)] w fun r w'=>r=Ak (Ah (yP s out h (e,k)))/\Am w.heap.size w w':=by
 obtain⟨w1,ac,d0,aA,hB⟩:=zh w #[O U (e:Int),O U (k:Int)] 92
 have hE:yP s out h (e,k)=(decide (0<out.length)&&decide (out.getD u 0=h.v)):=by
  unfold yP;rw[Li (by rw[bW];decide),Li (by rw[bW];decide),Li (by rw[bW];decide),Li (by rw[bW];decide),Li (by rw[bW];decide),Lo bW];dsimp only;rw[zI he,iw,Lj,hu,Lj]
 rw[hE];have hC:=Jc s K N rc h e k q he hk hq iw A SV AV AX AF AR kc ks kv kx lf cf out cr bS bF bR bH bV bI gH w1.drew (hW.keep hB.drew);rw[hu] at hC;have HC:=zH hC;have hF:=hW.hF;unfold fcs at hF;obtain⟨vv,nG⟩:=Kh h.v;rw[nG] at hF ⊢;have de:=hW.hR;have tj:=hW.hV;have lF:=zc hF;have lR:=zc de;have lV:=zc tj;have IV:=hW.ro;have ah:=zH ac
 by_cases h0:out.length=0
 . have Tp:(decide (0<out.length)&&decide (out.getD u 0=vv))=As:=by rw[h0];simp
   rw[Tp];have r0:=za (Lb hB lR de) 0 rfl;rw[show(#[I AR out.length cr]:Array Aq)[0]=I AR 0 cr by rw[h0];rfl] at r0;have HB:=zH hB;clear ac d0 hB hW hF de tj hE bW iw he aA hu rc hC hk hq nG IV HC Tp ir h0;go_enter func37,ntmps37;go_wp2_with fail;rw[ah.out];go_quiet (fail);go_wp2_with fail;go_ret;exact⟨rfl,zO HB.out _⟩
 have En:=ir (by omega);obtain⟨b0,o0,eR,ly,z0⟩:=IV.at_ u (by omega);subst eR;obtain⟨y,hy⟩:=Kh (out[u]'(by omega));rw[hy] at z0;have Dd:(decide (0<out.length)&&decide (out.getD u 0=vv))=decide (y=vv):=by rw[Lm (by omega:0<out.length),Nl,zI (by omega:u<out.length),hy]
 rw[Dd];obtain⟨n,hn⟩:=Kh out.length;rw[hn] at de h0 En
 have eK:Ap (∀X,Am w1.heap.size w1 X->X.heap[bF]?=J (Ag #[O U h.op,O U h.p,O U h.o,O U vv,O U h.g,I AF lf cf] 59 (0,0))/\X.heap[bR]?=J (Ag #[I (J ⟨b0,o0,Z⟩) n cr] 32 (0,0))/\X.heap[bV]?=J (Ag #[.func (.func 30) #[] #[Aj (J ⟨bS,0,Z⟩),Aj (J ⟨bF,0,Z⟩)]] 93 (0,0))/\X.heap[w.heap.size]?=J (Ag #[O U (e:Int),O U (k:Int)] 92 (0,0))):=
  fun X hX=>⟨Lb hX (by omega) (Lb hB lF hF),Lb hX (by omega) (Lb hB lR de),Lb hX (by omega) (Lb hB lV tj),Lb hX (by omega) d0⟩
 have rg:Ap (∀X,Am w1.heap.size w1 X->X.cell? ⟨b0,o0+u,Z⟩=J (O U y)):=fun X hX=>(hX.cell (p:=⟨b0,o0+u,Z⟩) (by show b0<w1.heap.size;omega)).trans ((hB.cell (p:=⟨b0,o0+u,Z⟩) ly).trans z0)
 have HB:=zH hB;have h5:(0:Int)<=(u:Int):=by omega
 have h6:(u:Int)<(n:Int):=by omega
 have en:decide ((n:Int)>0)=Ar:=Lm (by omega);have sZ:(0:Int)<(n:Int):=by omega
 have CQ:0<n:=by omega
 clear ac d0 hB hW hF de tj hE bW iw he aA hu rc hC hk hq nG IV Dd ir En hy hn z0;go_enter func37,ntmps37;go_wp2_with fail;rw[ah.out];refine zk [(0,Ar),(1,Ar),(2,Ar),(3,Ar),(4,Ar),(5,Ar),(6,Ar),(7,Ar),(8,Ar),(12,Ar),(13,Ar),(9,As),(10,As),(11,As),(14,As),(15,As),(16,As)] (fun X=>X.heap[bF]?=J (Ag #[O U h.op,O U h.p,O U h.o,O U vv,O U h.g,I AF lf cf] 59 (0,0))/\X.heap[bR]?=J (Ag #[I (J ⟨b0,o0,Z⟩) n cr] 32 (0,0))/\X.heap[bV]?=J (Ag #[.func (.func 30) #[] #[Aj (J ⟨bS,0,Z⟩),Aj (J ⟨bF,0,Z⟩)]] 93 (0,0))/\X.heap[w.heap.size]?=J (Ag #[O U (e:Int),O U (k:Int)] 92 (0,0))) (by kernel_rfl) (by kernel_rfl) (eK.out _ (Ll _ _).drew) ?_
 repeat
  apply zy rfl
  . rintro K' ae X ⟨u1,u2,u3,u4⟩
    have q3:=za u1 3 rfl;have j0:=za u2 0 rfl;have i0:=za u3 0 rfl;obtain⟨g0,g1,_⟩:=Ka u4;clear u1 u2 u3 u4;go_simp;exact ae
 refine zt rfl ?_;intro K' ae;go_simp;refine HC.out.mono ?_;rintro r w5 ⟨rfl,ap⟩;have ap:Am w1.heap.size w1 w5:=(Ll _ w1).drew.trans (ap.mono (Lh _));have aW:=zH (Lc HB.out ap);have f':=zH (eK.out w5 ap);have z4:=rg.out w5 ap;refine ae _ _ f'.out ?_;refine zt rfl ?_;intro K' ae;go_simp;refine ae _ _ f'.out ?_;refine zt rfl ?_;intro K' ae;go_simp;refine ae _ _ f'.out ?_;refine zt rfl ?_;intro K' ae;go_simp;refine ae _ _ f'.out ?_;refine zt rfl ?_;intro K' ae;go_simp;refine ae _ _ f'.out ?_;refine zt rfl ?_;intro K' ae;go_simp;refine ae _ _ f'.out ?_;refine zE ?_;go_wp2_with fail;go_ret;exact⟨ze (by first | rfl | simp),aW.out⟩
theorem at6_any(s:Sy)(h:Fh)(e k:Nat)(_he:e<s.xs.length)(bW:h.op=6)(A SV AV AX AF AR:Bb)(kc ks kv kx lf cf:Nat)(out:List Int)(cr bS bF bR bH bV bI gH:Nat)(w:Ba)
  (hW:AtW s A SV AV AX kc ks kv kx h AF lf cf out AR cr bS bF bR bH bV bI gH w) :
  An Al 38 #[Ai #[O U (e:Int),O U (k:Int)],Aj (J ⟨bF,0,Z⟩)] w fun r w'=>r=Ak (Ah (yP s out h (e,k)))/\Am w.heap.size w w':=by
 obtain⟨w1,ac,d0,aA,hB⟩:=zh w #[O U (e:Int),O U (k:Int)] 92
 have hE:yP s out h (e,k)=decide ((k:Int)=h.v):=by
  unfold yP;rw[Li (by rw[bW];decide),Li (by rw[bW];decide),Li (by rw[bW];decide),Li (by rw[bW];decide),Li (by rw[bW];decide),Li (by rw[bW];decide)]
 rw[hE];have hF:=hW.hF;unfold fcs at hF;obtain⟨vv,nG⟩:=Kh h.v;rw[nG] at hF ⊢;have lF:=zc hF;have q3:=za (Lb hB lF hF) 3 rfl;have g1:=za d0 1 rfl;have ah:=zH ac;have HB:=zH hB;clear ac d0 hB hW hF hE bW nG _he;go_enter func38,ntmps38;go_upto_region 1 with fail
 rw[ah.out];go_wp2_with fail;go_ret;exact⟨ze (by first | rfl | simp),HB.out⟩
end
section
open Go.RowKit Go.Shelf
def atG(bS bF bR bH bV bI:Nat):Int->Option Aq:=
 qB (qB (qB (qB (qB (qB (qB (fun _=>Z) 0 (.func (.func 32) #[] #[])) 1 (.func (.func 33) #[] #[Aj (J ⟨bI,0,Z⟩),Aj (J ⟨bF,0,Z⟩)]))
  2 (.func (.func 34) #[] #[Aj (J ⟨bI,0,Z⟩),Aj (J ⟨bF,0,Z⟩)])) 3 (.func (.func 35) #[] #[Aj (J ⟨bH,0,Z⟩),Aj (J ⟨bV,0,Z⟩),Aj (J ⟨bF,0,Z⟩)]))
  4 (.func (.func 36) #[] #[Aj (J ⟨bS,0,Z⟩),Aj (J ⟨bF,0,Z⟩)])) 5 (.func (.func 37) #[] #[Aj (J ⟨bR,0,Z⟩),Aj (J ⟨bV,0,Z⟩),Aj (J ⟨bF,0,Z⟩)]))
  6 (.func (.func 38) #[] #[Aj (J ⟨bF,0,Z⟩)])
theorem fault_nat{r:Rd}{N:Nat}(h:zS r=0)(hn:r.n=(N:Int))(h5:N<=5):∃F:Nat,r.f=(F:Int)/\F<32:=by
 unfold zS at h
 split at h
 . rename_i aO;exact absurd h aO
 unfold yS at h
 split at h
 . cases h
 split at h
 . cases h
 rename_i h2;obtain⟨F,hF⟩:=Lr (show 0<=r.f by omega);refine⟨F,hF,?_⟩;have h4:((2^r.n.toNat:Nat):Int)=(2:Int)^r.n.toNat:=by push_cast;rfl
 have h3:r.f<((2^r.n.toNat:Nat):Int):=by first | omega | (rw[h4];omega)
 rw[hF,hn,Lj] at h3;have:=LZ (n:=2) (by omega) h5;omega
theorem atom_fn{s:Sy}{K N:Nat}(hF:Fine s K N)(hS:Sees s K N)(hl:LowV s.vs)(lL:∀c∈s.p.t.cases,c.inp.length=N){out:List Int}(ir:0<out.length->out.length=s.vs.length){h:Fh}(ok:AtmOk N h)
  (A SV AV AX AF AR:Bb) (kc ks kv kx lf cf cr bS bF bR bH bV bI gH:Nat) :
  ∃kf kb,atG bS bF bR bH bV bI h.op=J (.func (.func kf) #[] kb)/\Enters Al kf/\∀x∈zi (K+1) 0 s.xs.length,∀W,AtW s A SV AV AX kc ks kv kx h AF lf cf out AR cr bS bF bR bH bV bI gH W ->
   An Al kf (#[Ai #[O U x.1,O U x.2]]++kb) W fun r w'=>r=Ak (Ah (yP s out h x))/\Am W.heap.size W w':=by
 have h0:=ok.op0;have h6:=ok.op6;have pL:=hF.n5
 have hx:∀x∈zi (K+1) 0 s.xs.length,∃he:x.1<s.xs.length,x.2<=K/\∃c:Nat,s.xs[x.1].c=(c:Int)/\c<s.p.t.cases.length/\(yc s.p c).length=N:=fun x hx=>by
  obtain⟨_,h1,h2⟩:=xT _ _ x hx;have he:x.1<s.xs.length:=by omega
  obtain⟨c,hc,aw,_⟩:=hS.cs _ (Ld he);refine⟨he,by omega,c,hc,aw,?_⟩;unfold yc;rw[Le,Lf aw];exact lL _ (Ld aw)
 rcases(by omega:h.op=0\/h.op=1\/h.op=2\/h.op=3\/h.op=4\/h.op=5\/h.op=6) with e | e | e | e | e | e | e
 . refine⟨_,_,by rw[e];exact rfl,NV func32 (by kernel_rfl) rfl,fun x ii W hW=>?_⟩
   obtain⟨he,hk,c,hc,aw,ln⟩:=hx x ii;exact at0_any s h x.1 x.2 he e A SV AV AX AF AR kc ks kv kx lf cf out cr bS bF bR bH bV bI gH W hW
 . refine⟨_,_,by rw[e];exact rfl,NV func33 (by kernel_rfl) rfl,fun x ii W hW=>?_⟩
   obtain⟨he,hk,c,hc,aw,ln⟩:=hx x ii;obtain⟨iK,El⟩:=ok.p (.inl e);obtain⟨q,hq⟩:=Lr iK;exact at1_any s h x.1 x.2 he c q hc aw (by omega) hq e A SV AV AX AF AR kc ks kv kx lf cf out cr bS bF bR bH bV bI gH W hW
 . refine⟨_,_,by rw[e];exact rfl,NV func34 (by kernel_rfl) rfl,fun x ii W hW=>?_⟩
   obtain⟨he,hk,c,hc,aw,ln⟩:=hx x ii;exact at2_any s h x.1 x.2 he c hc aw (by omega) e A SV AV AX AF AR kc ks kv kx lf cf out cr bS bF bR bH bV bI gH W hW
 . refine⟨_,_,by rw[e];exact rfl,NV func35 (by kernel_rfl) rfl,fun x ii W hW=>?_⟩
   obtain⟨he,hk,c,hc,aw,ln⟩:=hx x ii;obtain⟨iK,El⟩:=ok.p (.inr (.inl e));obtain⟨q,hq⟩:=Lr iK;obtain⟨Ve,hoN⟩:=ok.o e;obtain⟨o,ho⟩:=Lr Ve;have rH:=Ld he;obtain⟨S,e1,e2,_⟩:=hrd_view hF hS hl rH x.2 hk q (by omega);obtain⟨v,hv,_⟩:=hS.pr rH hk (show q<N by omega);have aa:=hv.lt;obtain⟨u,hu⟩:=Lr aa.1;rw[hu,Lj] at e1;exact at3_any s h x.1 x.2 he K N q o S u hF hk (by omega) hq ho (by omega) hu (by omega) e1 e2 e A SV AV AX AF AR kc ks kv kx lf cf out cr bS bF bR bH bV bI gH W hW
 . refine⟨_,_,by rw[e];exact rfl,NV func36 (by kernel_rfl) rfl,fun x ii W hW=>?_⟩
   obtain⟨he,hk,c,hc,aw,ln⟩:=hx x ii;obtain⟨iK,El⟩:=ok.p (.inr (.inr (.inl e)));obtain⟨q,hq⟩:=Lr iK
   exact at4_any s h x.1 x.2 he K N q hF hk (by omega) hq (fun r hr=>by
    obtain⟨CN,iJ⟩:=(hF.word _ (Ld he)).2 r hr
    exact fault_nat CN iJ pL) e A SV AV AX AF AR kc ks kv kx lf cf out cr bS bF bR bH bV bI gH W hW
 . refine⟨_,_,by rw[e];exact rfl,NV func37 (by kernel_rfl) rfl,fun x ii W hW=>?_⟩
   obtain⟨he,hk,c,hc,aw,ln⟩:=hx x ii;obtain⟨iK,El⟩:=ok.p (.inr (.inr (.inr e)));obtain⟨q,hq⟩:=Lr iK;have rH:=Ld he;obtain⟨v,hv,_⟩:=hS.pr rH hk (show q<N by omega);have aa:=hv.lt;obtain⟨u,hu⟩:=Lr aa.1;exact at5_any s h x.1 x.2 he K N q u hF hk (by omega) hq hu (by omega) e A SV AV AX AF AR kc ks kv kx lf cf out cr bS bF bR bH bV bI gH W hW ir
 refine⟨_,_,by rw[e];exact rfl,NV func38 (by kernel_rfl) rfl,fun x ii W hW=>?_⟩;obtain⟨he,hk,c,hc,aw,ln⟩:=hx x ii;exact at6_any s h x.1 x.2 he e A SV AV AX AF AR kc ks kv kx lf cf out cr bS bF bR bH bV bI gH W hW
end
section
open Go.RowKit Go.Shelf
theorem vZ{K:Kd}{w:Ba}{base:Nat}{v:Aq}{n:Nat}{cs:List Aq}(h:OwnR K w base v n cs):∀r,v.ownBlock=J r->∀o,w.heap[r]?=J o->o.isCells=Ar:=by
 intro r hr o ho;rcases h.2 with ⟨rfl,_⟩ | ⟨g,cap,cur,rfl,_,hg,_⟩
 . cases hr
 have e:g=r:=by injection hr
 subst e;rw[hg] at ho
 cases ho
 rfl
structure AtIn(b:Nat)(bs:List Bool)(w0 W:Ba):Prop where
 wrote:Wrote (fun z=>z=b) w0 W
 box:∃P c,W.heap[b]?=J (Ag #[I P bs.length c] 45 (0,0))/\OwnR kBl W w0.heap.size (I P bs.length c) bs.length (bs.map .bool)
section
variable {b:Nat} {bs:List Bool} {w0 W W':Ba}
theorem AtIn.turn{row:Option Nat}(h:AtIn b bs w0 W)(hb:b<w0.heap.size)(hg:W.grownBy W' row)(hr:∀r,row=J r->w0.heap.size<=r/\∃o:Obj,W.heap[r]?=J o/\o.isCells=As):AtIn b bs w0 W':=by
 obtain⟨P,c,hx,ho⟩:=h.box;have hsz:=h.wrote.size;refine⟨h.wrote.trans (Wrote.of_grown (R:=fun k=>w0.heap.size<=k) hg (fun k e hk=>(hr k e).1)) (fun k h1 h2=>by omega),P,c,(hg.block b (by omega) (fun e=>by have:=(hr b e.symm).1;omega)).trans hx,ho.kept hg ?_⟩;rcases e:(I P bs.length c).ownBlock with _ | g
 . exact .inl rfl
 refine .inr fun e2=>?_
 obtain⟨o,h1,h2⟩:=(hr g e2.symm).2;have:=vZ ho g e o h1;rw[this] at h2;cases h2
theorem AtIn.call(h:AtIn b bs w0 W)(hb:b<w0.heap.size)(hw:Am W.heap.size W W'):AtIn b bs w0 W':=by
 obtain⟨P,c,hx,ho⟩:=h.box;have hsz:=h.wrote.size;exact⟨h.wrote.trans (Wrote.of_below hw) (fun _ _ h=>h),P,c,(hw.block b (by omega)).trans hx,ho.below hw (Lh _)⟩
theorem AtIn.push{P P2:Bb}{c c2:Nat}{v:Bool}{W1:Ba}(h:AtIn b bs w0 W)(hb:b<w0.heap.size)(hx:W.heap[b]?=J (Ag #[I P bs.length c] 45 (0,0)))(ho:OwnR kBl W w0.heap.size (I P bs.length c) bs.length (bs.map .bool))
  (pK:OwnR kBl W1 w0.heap.size (I P2 (bs.length+1) c2) (bs.length+1) (bs.map .bool++[Ah v])) (hg:W.grownBy W1 (I P bs.length c).ownBlock) :
  AtIn b (bs++[v]) w0 (W1.setCell ⟨b,0,Z⟩ (I P2 (bs.length+1) c2)):=by
 have hsz:=h.wrote.size;have cz:=ho.lt;have aH:=(hg.block b (by omega) (fun e=>by have:=(cz b e.symm).1;omega)).trans hx;obtain⟨x1,x2,x3⟩:=qD aH (I P2 (bs.length+1) c2);have a1:Wrote (fun k=>w0.heap.size<=k) W W1:=Wrote.of_grown hg (fun k e hk=>(cz k e).1);have a2:Wrote (fun k=>k=b) W1 (W1.setCell ⟨b,0,Z⟩ (I P2 (bs.length+1) c2)):=Wrote.of_grown (zR W1 _ 0 _) (fun k e hk=>by cases e;rfl);refine⟨(h.wrote.trans a1 (fun k h1 h2=>by omega)).trans a2 (fun _ _ h=>h),P2,c2,by rw[Lu];exact x1,?_⟩;rw[Lu,LF];refine OwnR.kept (row:=J b) pK (zR W1 b 0 _) ?_;rcases e:(I P2 (bs.length+1) c2).ownBlock with _ | g
 . exact .inl rfl
 exact .inr fun e2 => by
  have:=(pK.lt g e).1
  cases e2
  omega
theorem AtIn.keeps{P:Bb}{c bi:Nat}{W1:Ba}(h:AtIn b bs w0 W)(hb:b<w0.heap.size)(hi:bi<w0.heap.size)(aO:bi≠b)(hx:W.heap[b]?=J (Ag #[I P bs.length c] 45 (0,0)))(ho:OwnR kBl W w0.heap.size (I P bs.length c) bs.length (bs.map .bool))
  (hg:W.grownBy W1 (I P bs.length c).ownBlock) (v:Aq):KeepsFrom w0.heap.size W (W1.setCell ⟨b,0,Z⟩ v)/\KeepB (fun k=>k=bi) W (W1.setCell ⟨b,0,Z⟩ v):=by
 have cz:=ho.lt;have hsz:=h.wrote.size;have aA:=hg.size;have aH:=(hg.block b (by omega) (fun e=>by have:=(cz _ e.symm).1;omega)).trans hx;obtain⟨x1,x2,x3⟩:=qD aH v;refine⟨⟨by simp[World.setCell];omega,fun k o hk bC pK=>?_⟩,⟨by simp[World.setCell];omega,fun k hk hl=>?_⟩⟩
 . refine(x3 k (by omega)).trans ((hg.block k (zc bC) (fun e=>?_)).trans bC)
   have:=vZ ho k e.symm o bC;rw[this] at pK;cases pK
 subst hk;exact(x3 _ (by omega)).trans (hg.block _ (by omega) (fun e=>by have:=(cz _ e.symm).1;omega))
end
end
section
open Go.RowKit Go.Shelf
attribute [local go_sem] Oper.semAt_some
theorem Jb{w:Ba}{b:Nat}{o:Obj}(h:w.heap[b]?=J o):b<w.heap.size:=(Lq.1 h).1
def RetBN(xs:List Bool)(n:Int)(w:Ba)(e:Ending)(w':Ba):Prop:=∃A c,e=Ak (.tuple #[I A xs.length c,O U n])/\OwnR kBl w' w.heap.size (I A xs.length c) xs.length (xs.map .bool)/\Am w.heap.size w w'
theorem RetBN.lies{xs:List Bool}{n:Int}{w w':Ba}{e:Ending}(h:RetBN xs n w e w'):RetBA xs n w e w':=by
 obtain⟨A,c,e1,h1,h2⟩:=h;refine⟨A,c,e1,fun h0=>?_,h2⟩;obtain⟨A',c',e',_,_,h3⟩:=h1.form;simp only[Value.slice.injEq] at e';obtain⟨rfl,-,-⟩:=e';obtain⟨gg,rfl,_,dx,aw⟩:=h3 (by simpa using h0);exact⟨gg,0,rfl,dx,fun i hi=>by rw[LM];exact aw i _ (by rw[List.getElem?_map,Lf hi];rfl)⟩
theorem atomN_any(s:Sy)(hs:LowS s)(hf:xN s.p)(out:List Int)(d:Nat)(f:Fm)(hsz:(xG d f).1<=1000000)(A SV AV AX AF AR:Bb)(kc ks kv kx cf cr:Nat)(w:Ba)(hS:SyAt w w.heap.size A SV AV AX s)(hO:IAt w w.heap.size AR out)(hA:FsAt w w.heap.size d AF f.args) :
  An Al 11 #[.agg (s.vs_ A kc SV ks AV kv AX kx),Ai #[I AR out.length cr],.agg (f.vs AF cf)] w (RetBN (Xq s out d f).1 (Xq s out d f).2 w):=by
 obtain⟨wa,cm,da,cX,dl⟩:=zh w (s.vs_ A kc SV ks AV kv AX kx) 39;obtain⟨wb,fy,db,dB,cx⟩:=zh wa #[I AR out.length cr] 32;obtain⟨w1,ac,dc,u',mN⟩:=zh wb (f.vs AF cf) 59;have hB:Am w.heap.size w w1:=(dl.trans (cx.mono (by omega))).trans (mN.mono (by omega));have da:w1.heap[w.heap.size]?=J (Ag (s.vs_ A kc SV ks AV kv AX kx) 39 (0,0)):=Lb mN (by omega) (Lb cx (by omega) da);have db:w1.heap[w.heap.size+1]?=J (Ag #[I AR out.length cr] 32 (0,0)):=by rw[<-cX];exact Lb mN (by omega) db
 have dc:w1.heap[w.heap.size+1+1]?=J (Ag (f.vs AF cf) 59 (0,0)):=by rw[<-cX,<-dB];exact dc
 have bN:w1.heap.size=w.heap.size+3:=by omega
 have HV:=zH (uv s hs hf A SV AV AX kc ks kv kx w1 (hS.up hB));have HE:Ap (Xq s out d f=if yb s≠0 then ([],yb s) else if 0<out.length/\out.length≠s.vs.length then ([],15) else if j8 s.n d f≠0 then ([],j8 s.n d f) else if 0<f.args.length then ([],11) else (jL s out f.h,0)):=rfl;have nt:=zH (fun h=>xj hf h);have tC:=zH (fun (N:Nat) (hn:s.n=(N:Int)) (h:j8 s.n d f=0) (ha:f.args.length=0)=>atm_ok hn h ha);have ry:=zH (fun (X:Ba) (hX:Am w1.heap.size w1 X)=>Qt s.n d f AF cf X ((hA.keep (Lc hB hX)).more (Lc hB hX).size) hsz);have fd:Ap (∀X,Am w1.heap.size w1 X->SyAt X X.heap.size A SV AV AX s):=fun X hX=>(hS.up hB).up hX
 have Ce:Ap (∀X,Am w1.heap.size w1 X->IAt X X.heap.size AR out):=fun X hX=>(hO.keep (Lc hB hX)).more (Lc hB hX).size
 have Cp:Ap (∀c,yb s=0->c∈s.p.t.cases->(c.inp.length:Int)=s.p.t.n):=fun c h hc=>by
  obtain⟨ly,_⟩:=xj hf h
  have iK:zL s.p=0:=by
   by_cases h0:zL s.p=0
   . exact h0
   . unfold yb at h
     rw[yF h0] at h;simp[h0] at h
  exact uL (zM iK).1 c hc
 have Hw:=zH (fun (h:yb s=0)=>(by
  have h1:=(xj hf h).1
  rw[h1];exact built_asc _:LowV s.vs))
 have nu:=zH (fun (K N:Nat) (hF:Fine s K N) (h:yb s=0)=>(by
  have h1:=(xj hf h).1;have h2:=hF;rw[h1] at h2 ⊢
  exact ge h2:Sees s K N))
 have mr:=zH (fun (K:Nat) (h:s.p.k=(K:Int))=>(by unfold jL;rw[h];rfl:jL s out f.h=(zi (K+1) 0 s.xs.length).map (yP s out f.h)));obtain⟨E,hE⟩:=Kh (Xq s out d f);rw[hE] at HE ⊢;obtain⟨r,hr⟩:=Kh (yb s);rw[hr] at HV HE nt Hw nu Cp;unfold Sy.vs_ at cm da HV ⊢;unfold Fm.vs at ac dc ry ⊢;have ah:Ap (((w.alloc (Ag #[O U s.p.t.n,O U s.p.t.ins,O U s.p.t.outs,I A s.p.t.cases.length kc,O U s.p.a.n,I SV s.p.a.sts.length ks,O U s.p.k,O U s.n,I AV s.vs.length kv,I AX s.xs.length kx] 39)).alloc (Ag #[I AR out.length cr] 32)).alloc (Ag #[O U f.h.op,O U f.h.p,O U f.h.o,O U f.h.v,O U f.h.g,I AF f.args.length cf] 59)=w1):=by rw[Ap,cm,fy,ac]
 have HB:=zH hB
 have bj:Ap (∀X,Am w1.heap.size w1 X->X.heap[w.heap.size]?=J (Ag #[O U s.p.t.n,O U s.p.t.ins,O U s.p.t.outs,I A s.p.t.cases.length kc,O U s.p.a.n,I SV s.p.a.sts.length ks,O U s.p.k,O U s.n,I AV s.vs.length kv,I AX s.xs.length kx] 39 (0,0))/\X.heap[w.heap.size+1]?=J (Ag #[I AR out.length cr] 32 (0,0))/\X.heap[w.heap.size+1+1]?=J (Ag #[O U f.h.op,O U f.h.p,O U f.h.o,O U f.h.v,O U f.h.g,I AF f.args.length cf] 59 (0,0))):=
  fun X hX=>⟨Lb hX (by omega) da,Lb hX (by omega) db,Lb hX (by omega) dc⟩
 have Hi:=zH bN;have G1:Ap (Am w1.heap.size w1 w1):=Ll _ _;clear cm fy ac da db dc cX dB u' dl cx mN hB bN hS hO hA hsz hE hs;obtain⟨D0,D1,D2⟩:=bj.out _ G1.out;obtain⟨p0,p1,p2,p3,p4,p5,p6,p7,p8,p9⟩:=zK (D0);clear D0 D1 D2;refine yA func11 rfl ?_;simp only[ntmps11,List.size_toArray,List.length_cons,List.length_nil,Nat.reduceAdd,Nat.reduceSub,Array.replicate_succ,Array.replicate_zero,List.push_toArray,List.append_toArray,List.nil_append,List.cons_append];go_wp2_with fail;rw[ah.out];go_wp2_with fail;refine HV.out.mono ?_;rintro e w2 ⟨rfl,af⟩;have G2:=zH (Lc G1.out af)
 by_cases h0:r=0
 case neg=>
  have hR:Ap (E=([],r)):=HE.out.trans (Lo h0);have e0:(r != 0)=Ar:=by simpa using h0
  have ce:=zH (Lc HB.out G2.out);clear HE nt tC ry fd Ce Cp Hw nu mr bj;go_wp2_with fail;refine yR (Marks.nil w.heap.size _) (v:=.tuple #[I Z 0 0,O U r]) (fun W=>by kernel_rfl) ?_;intro X hX;rw[hR.out];exact⟨Z,0,rfl,OwnR.nil _ _ _,ce.out.trans hX.below⟩
 subst h0;have ai:=zH (HE.out.trans (Li (by simp)));obtain⟨dB,K,N,hF⟩:=nt.out rfl;clear dB;have Dh:=zH (nu.out K N hF rfl);have mq:=zH (Hw.out rfl);have fZ:Ap (∀c∈s.p.t.cases,c.inp.length=N):=fun c hc=>by have h1:=Cp.out c rfl hc;have:=hF.pn;omega
 have ny:=zH hF;have mp:=zH (tC.out N hF.n);have nx:=zH (mr.out K hF.k);have GC:=hF.lv;clear HE nt Hw nu Cp tC mr hF hr;obtain⟨D0,D1,D2⟩:=bj.out _ G2.out;have p8:=za D0 8 rfl;have r0:=za D1 0 rfl;clear D0 D1 D2;go_upto_region 4 with fail
 by_cases fF:0<out.length/\out.length≠s.vs.length
 case pos=>
  have hR:Ap (E=([],15)):=ai.out.trans (Lo fF);have e0:((out.length:Int) != 0)=Ar:=by simp;intro h;rw[h] at fF;simp at fF
  have e1:((out.length:Int) != (s.vs.length:Int))=Ar:=by simp;omega
  have e2:¬out=[]:=by rintro rfl;simp at fF
  have e3:¬(out.length:Int)=0:=by omega
  have e4:¬(out.length:Int)=(s.vs.length:Int):=by omega
  have e5:¬out.length=s.vs.length:=by omega
  have ce:=zH (Lc HB.out G2.out);clear ai ry fd Ce fZ ny mp nx Dh mq bj fF;go_wp2_with fail;refine yR (Marks.nil w.heap.size _) (v:=.tuple #[I Z 0 0,O U 15]) (fun W=>by kernel_rfl) ?_;intro X hX;rw[hR.out];exact⟨Z,0,rfl,OwnR.nil _ _ _,ce.out.trans hX.below⟩
 have au:=zH (ai.out.trans (Li fF));have Cf:Ap (0<out.length->out.length=s.vs.length):=fun h=>Decidable.byContradiction fun e=>fF ⟨h,e⟩
 go_cut [1,34] from 16 (fun s1 UL wx=>s1=Ai #[I AR out.length cr]/\UL=Ah As/\wx=w2)
 case first=>
  have af:out.length=0\/out.length=s.vs.length:=by omega
  by_cases h1:out.length=0
  . have e0:((out.length:Int) != 0)=As:=by simp[h1]
    clear fF af h1 Cf ry fd Ce fZ ny mp nx Dh mq bj au GC;go_wp2_with fail
    go_meet
    exact⟨rfl,rfl,rfl⟩
  have e0:((out.length:Int) != 0)=Ar:=by simp;intro h;rw[h] at h1;simp at h1
  have e1:((out.length:Int) != (s.vs.length:Int))=As:=by simp;omega
  clear fF af h1 Cf ry fd Ce fZ ny mp nx Dh mq bj au GC;go_wp2_with fail
  go_meet
  exact⟨rfl,rfl,rfl⟩
 case rest=>
 obtain⟨rfl,rfl,rfl⟩:=hcut;clear p8 r0 fF;have HC:=zH (ry.out _ G2.out);obtain⟨q,hq⟩:=Kh (j8 s.n d f);rw[hq] at HC au mp;obtain⟨D0,D1,D2⟩:=bj.out _ G2.out;have p7:=za D0 7 rfl;obtain⟨q0,q1,q2,q3,q4,q5,_⟩:=Kg (D2);clear D0 D1 D2 ry hq;go_wp2_with fail;refine HC.out.mono ?_;rintro e w3 ⟨rfl,am⟩;have G3:=zH (Lc G2.out am)
 by_cases h0:q=0
 case neg=>
  have hR:Ap (E=([],q)):=au.out.trans (Lo h0);have ce:=zH (Lc HB.out G3.out);go_wp2_with fail;refine yR (Marks.nil w.heap.size _) (v:=.tuple #[I Z 0 0,O U q]) (fun W=>by kernel_rfl) ?_;intro X hX;rw[hR.out];exact⟨Z,0,rfl,OwnR.nil _ _ _,ce.out.trans hX.below⟩
 subst h0;have cJ:=zH (au.out.trans (Li (by simp)));obtain⟨D0,D1,D2⟩:=bj.out _ G3.out;have q5:=za D2 5 rfl;clear D0 D1 D2 au
 by_cases pN:0<f.args.length
 case pos=>
  have hR:Ap (E=([],11)):=cJ.out.trans (Lo pN);have e0:((f.args.length:Int)>0)=True:=eq_true (by omega);have e1:(0:Int)<(f.args.length:Int):=by omega
  have ce:=zH (Lc HB.out G3.out);clear cJ fd Ce fZ ny mp nx Dh mq bj Cf;go_wp2_with fail;refine yR (Marks.nil w.heap.size _) (v:=.tuple #[I Z 0 0,O U 11]) (fun W=>by kernel_rfl) ?_;intro X hX;rw[hR.out];exact⟨Z,0,rfl,OwnR.nil _ _ _,ce.out.trans hX.below⟩
 have hR:Ap (E=(jL s out f.h,0)):=cJ.out.trans (Li pN);have HAO:=zH (mp.out rfl (by omega));have e1:¬(0:Int)<(f.args.length:Int):=by omega
 have NW:=zH (XS s ny.out.lv (fun v hv=>by
  obtain⟨⟨pq,h1,h2⟩,_⟩:=ny.out.vs v hv;refine⟨⟨pq,h1,by have:=ny.out.n5;omega⟩,fun j hj=>?_⟩;obtain⟨i,hi,rfl⟩:=LG hv;have:=mq.out i hi j hj
  omega) A SV AV AX kc ks kv kx w3 (fd.out _ G3.out).fv)
 unfold Sy.vs_ at NW;obtain⟨D0,D1,D2⟩:=bj.out _ G3.out;obtain⟨p0,p1,p2,p3,p4,p5,p6,p7,p8,p9⟩:=zK (D0);clear D0 D1 D2 cJ mp;go_wp2_with fail;refine NW.out.mono ?_;rintro e w4 ⟨gH,rfl,hgH,Mk,bq⟩;have G4:=zH (Lc G3.out bq);have oe:w1.heap.size<=w4.heap.size:=G4.out.size;have GD:=Mk.lt;clear bq NW p0 p1 p2 p3 p4 p5 p6 p7 p8 p9;go_upto_region 12 with fail
 obtain⟨w5,Gs,d5,iV,ap⟩:=zh w4 #[I (J ⟨gH,0,Z⟩) s.vs.length s.vs.length] 30;rw[Gs];go_upto_region 13 with fail
 obtain⟨w6,pH,d6,mB,bz⟩:=zh w5 #[.func (.func 30) #[] #[Aj (J ⟨w.heap.size,0,Z⟩),Aj (J ⟨w.heap.size+1+1,0,Z⟩)]] 93;rw[pH];go_upto_region 14 with fail
 obtain⟨w7,ou,d7,fP,cM⟩:=zh w6 #[.func (.func 31) #[] #[Aj (J ⟨w.heap.size,0,Z⟩)]] 94;rw[ou];have ht:Al.underlying 96=J (.map 3 95):=underlying96;have Ep:=@run_makeMap Al 96 w7;obtain⟨bH,K9⟩:=Kh w4.heap.size;have e5:w5.heap.size=bH+1:=by omega
 have e6:w6.heap.size=bH+1+1:=by omega
 have e7:w7.heap.size=bH+1+1+1:=by omega
 have m0:MapOf (O U) (w7.alloc (.map #[] 0)) (bH+1+1+1) 0 (fun _=>Z):=by rw[<-e7];exact MapOf.made w7
 obtain⟨v1,u1,m1,g1⟩:=m0.put yI ht 0 (.func (.func 32) #[] #[]);obtain⟨v2,u2,m2,g2⟩:=m1.put yI ht 1 (.func (.func 33) #[] #[Aj (J ⟨bH+1+1,0,Z⟩),Aj (J ⟨w.heap.size+1+1,0,Z⟩)]);obtain⟨v3,u3,m3,g3⟩:=m2.put yI ht 2 (.func (.func 34) #[] #[Aj (J ⟨bH+1+1,0,Z⟩),Aj (J ⟨w.heap.size+1+1,0,Z⟩)]);obtain⟨v4,u4,m4,g4⟩:=m3.put yI ht 3 (.func (.func 35) #[] #[Aj (J ⟨bH,0,Z⟩),Aj (J ⟨bH+1,0,Z⟩),Aj (J ⟨w.heap.size+1+1,0,Z⟩)]);obtain⟨v5,u5,m5,g5⟩:=m4.put yI ht 4 (.func (.func 36) #[] #[Aj (J ⟨w.heap.size,0,Z⟩),Aj (J ⟨w.heap.size+1+1,0,Z⟩)]);obtain⟨v6,u6,m6,g6⟩:=m5.put yI ht 5 (.func (.func 37) #[] #[Aj (J ⟨w.heap.size+1,0,Z⟩),Aj (J ⟨bH+1,0,Z⟩),Aj (J ⟨w.heap.size+1+1,0,Z⟩)]);obtain⟨v7,u7,m7,g7⟩:=m6.put yI ht 6 (.func (.func 38) #[] #[Aj (J ⟨w.heap.size+1+1,0,Z⟩)])
 have tI:Ap (Wrote (fun z=>z=bH+1+1+1) (w7.alloc (.map #[] 0)) v7):=by
  have t1:=Wrote.of_grown (R:=fun z=>z=bH+1+1+1) g1 (fun k e _=>by cases e;rfl);have t2:=t1.trans (Wrote.of_grown (R:=fun z=>z=bH+1+1+1) g2 (fun k e _=>by cases e;rfl)) (fun _ _ h=>h);have t3:=t2.trans (Wrote.of_grown (R:=fun z=>z=bH+1+1+1) g3 (fun k e _=>by cases e;rfl)) (fun _ _ h=>h);have t4:=t3.trans (Wrote.of_grown (R:=fun z=>z=bH+1+1+1) g4 (fun k e _=>by cases e;rfl)) (fun _ _ h=>h);have t5:=t4.trans (Wrote.of_grown (R:=fun z=>z=bH+1+1+1) g5 (fun k e _=>by cases e;rfl)) (fun _ _ h=>h);have t6:=t5.trans (Wrote.of_grown (R:=fun z=>z=bH+1+1+1) g6 (fun k e _=>by cases e;rfl)) (fun _ _ h=>h);exact t6.trans (Wrote.of_grown (R:=fun z=>z=bH+1+1+1) g7 (fun k e _=>by cases e;rfl)) (fun _ _ h=>h)
 have Uc:Ap (MapOf (O U) v7 (bH+1+1+1) 7 (atG w.heap.size (w.heap.size+1+1) (w.heap.size+1) bH (bH+1) (bH+1+1))):=m7;clear m0 m1 m2 m3 m4 m5 m6 m7 g1 g2 g3 g4 g5 g6 g7;have tM:=zH d5;have nW:=zH d6;have Ux:=zH d7;have T5:=zH Mk;have HS:=zH (And.intro iV (And.intro mB fP));have bE:=zH (And.intro ap (And.intro bz cM));have Dy:=zH (And.intro K9 (And.intro e5 (And.intro e6 e7)));have oe:=zH oe;have GD:=zH GD;clear d5 d6 d7 Mk iV mB fP ap bz cM Gs pH ou;simp only[K9];rw[e7] at Ep;clear K9 e5 e6 e7;go_upto_region 15 with fail
 obtain⟨w8,sS,d8,mA,dD⟩:=zh v7 #[.map (J (bH+1+1+1))] 96;rw[sS];obtain⟨He,Bm⟩:=Kh v7.heap.size;simp only[Bm];have BU:=zH mA;clear mA Ep u1 u2 u3 u4 u5 u6 u7 sS;go_upto_region 16 with fail
 obtain⟨w9,DM,d9,oC,dg⟩:=zh w8 #[I Z 0 0] 45;rw[DM];obtain⟨iQ,oZ⟩:=Kh w8.heap.size;simp only[oZ];have Iv:w7.heap.size+1<=v7.heap.size:=by have:=tI.out.size;simpa using this
 obtain⟨e4,e5,e6,e7⟩:=Dy.out;obtain⟨k5,k6,k7⟩:=bE.out;have B7:Am w7.heap.size w7 v7:=⟨tI.out.os,tI.out.tape,tI.out.output,by omega,fun k hk=>(tI.out.block k (by simp;omega) (by show ¬k=bH+1+1+1;omega)).trans ((zN w7 _).block k hk)⟩;have B8:Am w7.heap.size w7 w8:=B7.trans (dD.mono (by omega));have ON:Am w6.heap.size w6 w8:=k7.trans (B8.mono (by omega));have OO:Am w5.heap.size w5 w8:=k6.trans (ON.mono (by omega));have OP:Am w4.heap.size w4 w8:=k5.trans (OO.mono (by omega));have sR:=oe.out;have Ey:=GD.out;have G8:=zH (G4.out.trans (OP.mono sR));have IR:=BU.out
 have DA:Ap (AtW s A SV AV AX kc ks kv kx f.h AF f.args.length cf out AR cr w.heap.size (w.heap.size+1+1) (w.heap.size+1) bH (bH+1) (bH+1+1) gH w8):=by
  obtain⟨x1,x2,x3⟩:=bj.out _ G8.out;refine⟨(fd.out _ G8.out).fx,(fd.out _ G8.out).fc,Ce.out _ G8.out,x1,x3,x2,?_,?_,?_,?_⟩
  . have:=tM.out;rw[e4] at this;exact Lb OO (by omega) this
  . exact(OP.block gH Ey).trans T5.out
  . have:=nW.out;rw[e5] at this;exact Lb ON (by omega) this
  have:=Ux.out;rw[e6] at this;exact Lb B8 (by omega) this
 obtain⟨cZ,rJ,TH,lO,aX⟩:=zh w9 #[O U s.p.t.n,O U s.p.t.ins,O U s.p.t.outs,I A s.p.t.cases.length kc,O U s.p.a.n,I SV s.p.a.sts.length ks,O U s.p.k,O U s.n,I AV s.vs.length kv,I AX s.xs.length kx] 39;have oh:iQ+2=cZ.heap.size:=by omega
 have lC:Ap (∀X,Wrote (fun z=>z=iQ) cZ X->AtW s A SV AV AX kc ks kv kx f.h AF f.args.length cf out AR cr w.heap.size (w.heap.size+1+1) (w.heap.size+1) bH (bH+1) (bH+1+1) gH X):=fun X hX=>DA.out.keep ⟨hX.os.trans (aX.os.trans dg.os),hX.tape.trans (aX.tape.trans dg.tape),hX.output.trans (aX.output.trans dg.output),by have:=hX.size;omega,fun k hk=>(hX.block k (by omega) (by show ¬k=iQ;omega)).trans ((aX.block k (by omega)).trans (dg.block k (by omega)))⟩
 have HMP:Ap (∀X,Wrote (fun z=>z=iQ) cZ X->X.heap[He]?=J (Ag #[.map (J (bH+1+1+1))] 96 (0,0))/\X.heap[bH+1+1+1]?=v7.heap[bH+1+1+1]?/\X.heap[w.heap.size+1+1]?=J (Ag #[O U f.h.op,O U f.h.p,O U f.h.o,O U f.h.v,O U f.h.g,I AF f.args.length cf] 59 (0,0))):=fun X hX=>by
  have hk:∀k,k<iQ->X.heap[k]?=w8.heap[k]?:=fun k hk=>(hX.block k (by omega) (by show ¬k=iQ;omega)).trans ((aX.block k (by omega)).trans (dg.block k (by omega)))
  refine⟨(hk He (by omega)).trans ?_,(hk _ (by omega)).trans (dD.block _ (by omega)),?_⟩
  . rw[<-Bm];exact d8
  . have h1:=Hi.out
    exact(hk _ (by omega)).trans (bj.out _ G8.out).2.2
 have Tz:AtIn iQ [] cZ cZ:=⟨Wrote.refl _ _,Z,0,by rw[<-oZ];exact Lb aX (by omega) d9,OwnR.nil _ _ _⟩;have px:=zH (atom_fn ny.out Dh.out mq.out fZ.out Cf.out HAO.out A SV AV AX AF AR kc ks kv kx f.args.length cf cr w.heap.size (w.heap.size+1+1) (w.heap.size+1) bH (bH+1) (bH+1+1) gH);obtain⟨kf,kb,AT,ek,cj⟩:=px.out;have du:=zH cj;have HGO:=zH AT;have ic:=zH (fun (X:Ba)=>Jh s A SV AV AX kc ks kv kx X)
 have an:(zi (K+1) 0 s.xs.length).length<=20000:=by
  rw[uw (K+1) _ (by omega)];exact LE (L3 ny.out.lx (show K+1<=101 by have:=ny.out.k6;omega)) (by decide)
 have fJ:=zH (Zz (s.vs_ A kc SV ks AV kv AX kx) K s.xs.length (by have:=ny.out.k6;omega) (by have:=ny.out.lx;omega) AX kx ⟨by unfold Sy.vs_;rw[<-ny.out.k];rfl,by unfold Sy.vs_;rfl⟩ w9.heap.size cZ TH);obtain⟨L,hL⟩:=Kh (zi (K+1) 0 s.xs.length);rw[hL] at fJ du an nx;unfold Sy.vs_ at ic
 have CD:Ap (Am w.heap.size w cZ):=by
  have g9:=G8.out.trans (dg.mono (by have:=G8.out.size;omega));have g10:=g9.trans (aX.mono (by have:=g9.size;omega));exact Lc HB.out g10
 have FI:Ap (w.heap.size+3<=iQ):=by have:=G8.out.size;have:=Hi.out;rw[Ap];omega
 have MY:=zH rJ;have H0I:=zH Tz;have mi:=zH oh;have Hp:=zH oC;have D9:=zH ((dg.block w.heap.size (by have:=G8.out.size;have:=Hi.out;omega)).trans (bj.out _ G8.out).1);have sK:=zH oZ;clear DM d9 oC dg rJ TH lO aX oh Tz AT cj px Iv e4 e5 e6 e7 k5 k6 k7 B7 B8 ON OO OP sR Ey IR DA Bm oZ d8 dD tM nW Ux T5 HS bE Dy tI G4 G3 G2 G1 fd Ce fZ Cf Dh mq GD oe hL;have oe:Ap True:=trivial;obtain⟨p0,p1,p2,p3,p4,p5,p6,p7,p8,p9⟩:=zK (D9.out);go_wp2_with fail;refine(ic.out _).mono ?_;rintro e wx ⟨rfl,Pk⟩;rw[MY.out] at Pk;obtain rfl:=Pk;clear p0 p1 p2 p3 p4 p5 p6 p7 p8 p9;go_wp2_with fail
 refine kQ rfl (NV func72 (by kernel_rfl) rfl) fJ.out (by rintro x rfl;have:=mi.out;have:=Hp.out;have:=sK.out;omega) (fun _=>rfl)
  (fun (pre:List { x:Nat×Nat // x∈L }) (X:Ba)=>AtIn iQ (pre.map fun x=>yP s out f.h x.1) cZ X)
  (fun _ _ _=>False)
  ?hI (fun _ _ _ _ _ h _ _=>h)
  H0I.out (fun x=>#[O U x.1,O U x.2]) 92 ?a1 ?assign ?body ?done ?stop (fun _ _ h=>h.wrote.size)
 case hI=>
  intro pre X X' row hX hg hr;exact hX.turn (by have:=mi.out;omega) hg hr
 case assign=>
  intro l pre x X K' hI hK;obtain⟨g',lr⟩:∃g',g'=X.heap.size:=⟨_,rfl⟩;have HK:=zH (hK g' lr (hI.turn (by have:=mi.out;omega) (row:=Z) ⟨rfl,rfl,rfl,by simp,fun k hk _=>N1 X _ k hk⟩ (fun r e=>by cases e)));have HG:=zH lr;clear hK lr hI;gi_wp2;rw[<-HG.out];exact HK.out
 case body=>
  intro l pre x g W3 hg eQ hI aa;obtain⟨bs,bh⟩:∃bs,(pre.map fun x=>yP s out f.h x.1)=bs:=⟨_,rfl⟩;have az:bs.length<=20000:=by rw[<-bh,LJ];omega
  have EZ:Ap (((pre++[x]).map fun x=>yP s out f.h x.1)=bs++[yP s out f.h x.1]):=by rw[Ap,LF,bh];rfl
  rw[bh] at hI;obtain⟨P,c,aV,ho⟩:=hI.box;obtain⟨x1,x2,x3⟩:=HMP.out W3 hI.wrote;have HC:=zH (du.out x.1 x.2 W3.drew ((lC.out W3 hI.wrote).keep (Ll _ W3).drew));obtain⟨bv,Bd⟩:=Kh (yP s out f.h x.1);rw[Bd] at EZ HC;have UY:=hI.wrote.size;have oh:=mi.out
  have eK:Ap (∀X,Am W3.heap.size W3 X->X.heap[iQ]?=J (Ag #[I P bs.length c] 45 (0,0))/\X.heap[He]?=J (Ag #[.map (J (bH+1+1+1))] 96 (0,0))/\X.heap[bH+1+1+1]?=v7.heap[bH+1+1+1]?/\X.heap[w.heap.size+1+1]?=J (Ag #[O U f.h.op,O U f.h.p,O U f.h.o,O U f.h.v,O U f.h.g,I AF f.args.length cf] 59 (0,0))/\X.heap[g]?=J (Ag #[O U x.1.1,O U x.1.2] 92 (0,0))):=fun X hX=>
   ⟨Lb hX (by omega) aV,La hX x1,Lb hX (by
    obtain⟨_,_,h1,_⟩:=Uc.out;rw[h1] at x2
    exact Jb x2) x2,La hX x3,La hX eQ⟩
  have ru:=zH hI;have rp:=zH ho;have tw:=zH aV;have hgW:=zc eQ;clear hI ho aV x1 x2 x3 eQ bh Bd;gi_wp2_with fail;refine qM [(0,Ar),(1,Ar),(2,Ar),(3,Ar),(5,Ar),(4,Ar),(6,As),(7,As),(8,As),(9,As)] (fun X=>X.heap[iQ]?=J (Ag #[I P bs.length c] 45 (0,0))/\X.heap[He]?=J (Ag #[.map (J (bH+1+1+1))] 96 (0,0))/\X.heap[bH+1+1+1]?=v7.heap[bH+1+1+1]?/\X.heap[w.heap.size+1+1]?=J (Ag #[O U f.h.op,O U f.h.p,O U f.h.o,O U f.h.v,O U f.h.g,I AF f.args.length cf] 59 (0,0))/\X.heap[g]?=J (Ag #[O U x.1.1,O U x.1.2] 92 (0,0))) (by kernel_rfl) (by kernel_rfl) (by kernel_rfl) (by rintro⟨_,_,h⟩;exact h) (eK.out _ (Ll _ _).drew) ?_
  repeat
   apply zy rfl
   . rintro K' ae X ⟨u1,u2,u3,u4,u5⟩
     have ep:=(Uc.out.same u3).look yI ht (show(zeroValue 95).run Al X=.ok .nilFunc X by kernel_rfl) f.h.op;rw[HGO.out] at ep;simp only[Option.getD_some] at ep;have y0:=za u1 0 rfl;have y1:=za u2 0 rfl;have y2:=za u4 0 rfl;obtain⟨y3,y4,_⟩:=Ka u5;clear u1 u2 u3 u4 u5;go_simp;exact ae
  refine zt rfl ?_;intro K' ae;go_simp;rw[ek];refine Calls.mono HC.out ?_;rintro e W4 ⟨rfl,bq⟩;have bq:Am W3.heap.size W3 W4:=(Ll _ W3).drew.trans bq;have nz:=zH bq;have tG:=zH (ru.out.call (by omega) bq);have pi:Ap (OwnR kBl W4 cZ.heap.size (I P bs.length c) bs.length (bs.map .bool)):=rp.out.below bq (Lh _);refine ae _ _ (eK.out _ bq) ?_;clear ae K' bq HC;refine zt rfl ?_;intro K' ae;go_simp;obtain⟨W5,mM,d5,iV,ap⟩:=zh W4 #[Ah bv] 4;rw[mM];have nU:=zH (tG.out.call (by omega) ap);have Cg:Ap (OwnR kBl W5 cZ.heap.size (I P bs.length c) bs.length (bs.map .bool)):=pi.out.below ap (Lh _);have aW:Ap (Am W3.heap.size W3 W5):=Lc nz.out ap;have DS:cZ.heap.size<=W5.heap.size:=by have:=aW.out.size;omega
  refine ae _ _ (eK.out _ aW.out) ?_;clear ae K' mM tG pi;refine yN rfl (by kernel_rfl) ?_;intro K' ae;rw[Lo (by rfl)];refine jP kBl_ok (.tmp 62) (.tmp 69) (by rfl) cZ.heap.size (I P bs.length c) bs.length (bs.map .bool) (by rfl) Cg.out W4.heap.size #[Ah bv] (by rfl) d5 rfl (by simp[Value.oneCell']) (by omega) DS _ rfl ?_;intro g' cap' W6 U6 mJ Wr Vt;have oW:=(eK.out _ aW.out).1;have Du:Ap (AtIn iQ (bs++[bv]) cZ (W6.setCell ⟨iQ,0,Z⟩ (I (J ⟨g',0,Z⟩) (bs.length+1) cap'))):=nU.out.push (by omega) oW Cg.out U6 mJ;have pu:=zH (nU.out.keeps (bi:=w9.heap.size) (by omega) (by have:=Hp.out;have:=sK.out;omega) (by have:=Hp.out;have:=sK.out;omega) oW Cg.out mJ (I (J ⟨g',0,Z⟩) (bs.length+1) cap'));have bz:Am cZ.heap.size W5 W6:=(Ll _ _).grown mJ DS (fun k hk=>(Cg.out.lt k hk).1);have VR:=zb ((bz.block iQ (by omega)).trans oW) 0;have oQ:=zc ((bz.block iQ (by omega)).trans oW);have hc6:=za ((bz.block iQ (by omega)).trans oW) 0 rfl;have fI:Ap (∀k,k<cZ.heap.size->W6.heap[k]?=W5.heap[k]?):=fun k hk=>bz.block k hk
  refine ae (fun _=>True) _ _ trivial ?_;clear ae K';refine zt rfl ?_;intro K' ae;go_simp;refine ae _ _ trivial ?_;refine zE ?_;clear ae K';refine⟨?_,?_,?_⟩
  . refine KeepsFrom.trans ?_ pu.out.1
    exact⟨aW.out.size,fun k o hk bC _=>(aW.out.block k (Jb bC)).trans bC⟩
  . refine KeepB.trans ?_ pu.out.2
    exact⟨aW.out.size,fun k hk hl=>aW.out.block k hl⟩
  show AtIn iQ _ cZ _;rw[EZ.out];exact Du.out
 case done=>
  intro D ys W hD iS hI fG;have rT:ys.map (fun x=>yP s out f.h x.1)=L.map (yP s out f.h):=by rw[show ys.map (fun x=>yP s out f.h x.1)=(ys.map (·.1)).map (yP s out f.h) by rw[P6];rfl,iS]
  rw[rT] at hI;obtain⟨P,c,aV,ho⟩:=hI.box;have q4:=za aV 0 rfl;have HO:=zH ho;have HI9:=zH hI;have tL:=zH fG;clear hI ho aV fG iS rT;go_wp2_with fail;refine yR (B:=cZ.heap.size) (w:=W) (show Marks cZ.heap.size _ W from⟨[D],rfl,by simp,fun r hr=>by rw[Nb] at hr;subst hr;exact⟨hD,tL.out⟩⟩) (v:=.tuple #[I P L.length c,O U 0]) (fun W=>by kernel_rfl) ?_;intro X hS;rw[hR.out,nx.out];have l8:Am cZ.heap.size W X:=hS.below;have DL:=HI9.out.wrote;have oh:=mi.out;have oC:=Hp.out;have oZ:=sK.out;have hwz:=DL.size;have EM:=CD.out.size;have bN:=Hi.out;have fy:=FI.out;refine⟨P,c,by rw[LJ],?_,CD.out.trans ⟨l8.os.trans DL.os,l8.tape.trans DL.tape,l8.output.trans DL.output,by have:=l8.size;omega,fun k hk=>(l8.block k (by omega)).trans (DL.block k (by omega) (by show ¬k=iQ;omega))⟩⟩;have Mp:=hS.own HO.out;simp only[List.length_map] at Mp ⊢;refine⟨Mp.1,?_⟩;rcases Mp.2 with h0 | ⟨gg,cap,cur,e1,hb,rest⟩
  . exact .inl h0
  exact .inr ⟨gg,cap,cur,e1,by omega,rest⟩
 intro D c pre W _ _ h;exact h.elim
theorem atom_any(s:Sy)(hs:LowS s)(hf:xN s.p)(out:List Int)(d:Nat)(f:Fm)(hsz:(xG d f).1<=1000000)(A SV AV AX AF AR:Bb)(kc ks kv kx cf cr:Nat)(w:Ba)(hS:SyAt w w.heap.size A SV AV AX s)(hO:IAt w w.heap.size AR out)(hA:FsAt w w.heap.size d AF f.args) :
  An Al 11 #[.agg (s.vs_ A kc SV ks AV kv AX kx),Ai #[I AR out.length cr],.agg (f.vs AF cf)] w (RetBA (Xq s out d f).1 (Xq s out d f).2 w):=
 (atomN_any s hs hf out d f hsz A SV AV AX AF AR kc ks kv kx cf cr w hS hO hA).mono fun _ _ h=>h.lies
theorem Qe(s:Sy)(hs:LowS s)(hf:xN s.p)(q:Int)(set:List Bool)(A SV AV AX AB:Bb)(kc ks kv kx kb:Nat)(_hsl:set.length<=1000000)(w:Ba)(hS:SyAt w w.heap.size A SV AV AX s)(bX:BAt w w.heap.size AB set) :
  An Al 12 #[.agg (s.vs_ A kc SV ks AV kv AX kx),O U q,I AB set.length kb] w (RetKn (knwE s q set) w):=by
 obtain⟨w1,ac,d0,aA,hB⟩:=zh w (s.vs_ A kc SV ks AV kv AX kx) 39;have HO:=zH (ZU s hs hf A SV AV AX kc ks kv kx w1 (hS.up hB));have Dz:Ap (∀X,Am w1.heap.size w1 X->BAt X X.heap.size AB set):=fun X hX=>(((bX.keep hB).more hB.size).keep hX).more hX.size
 have nt:Ap (yb s=0->∃N:Nat,s.n=(N:Int)/\N<=5/\ptn s<=700):=fun h=>by
  obtain⟨_,K,N,hF⟩:=xj hf h;have hk:=hF.k;have rW:=hF.k6;have:=L3 hF.lx (show s.p.k.toNat+1<=7 by omega);exact⟨N,hF.n,hF.n5,by unfold ptn;omega⟩
 have HE:Ap (knwE s q set=if yb s≠0 then ([],yb s) else if q<0\/s.n<=q then ([],2) else if set.length≠ptn s then ([],15) else (je (ptn s) (qc s q.toNat) set,0)):=rfl;obtain⟨R,hR⟩:=Kh (knwE s q set);rw[hR] at HE ⊢;obtain⟨r,hr⟩:=Kh (yb s);unfold RetKw at HO;unfold RetKn;rw[hr] at HO nt HE;obtain⟨n,hn⟩:=Kh (ptn s);rw[hn] at HO nt HE;unfold Sy.vs_ at ac d0 HO ⊢;have ah:=zH ac;have HB:=zH hB;have HD:=zH d0;clear ac d0 hB bX hR hr hS hs hf hn;go_enter func12,ntmps12;go_wp2_with fail;rw[ah.out];go_wp2_with fail;refine HO.out.mono ?_;rintro e w2 ⟨af,ET⟩;have aP:=zH af;have ce:=zH (Lc HB.out af);have iF:=zH (La af HD.out);rcases ET with ⟨h0,rfl⟩ | ⟨rfl,bw,rfl,hK⟩
 . have e0:(r != 0)=Ar:=by simpa using h0
   have fX:Ap (R=([],r)):=HE.out.trans (Lo h0);go_wp2_with fail
   go_ret2
   rw[fX.out];exact⟨Z,0,rfl,fun h=>absurd h (by simp),ce.out⟩
 obtain⟨N,hN,GW,hn7⟩:=nt.out rfl;have HE:Ap (R=_):=HE.out.trans (Li (by simp));rw[hN] at HE;have q7:w2.cell? ⟨w.heap.size,7,Z⟩=J (O U (N:Int)):=by rw[<-hN];exact za iF.out 7 rfl
 have HK:=zH hK;have z10:=hK.size;have dU:=zH hN
 by_cases oG:q<0
 . have e0:decide (q<0)=Ar:=Lm oG
   have fX:Ap (R=([],2)):=HE.out.trans (Lo (.inl oG));go_wp2_with fail
   go_ret2
   rw[fX.out];exact⟨Z,0,rfl,fun h=>absurd h (by simp),ce.out⟩
 by_cases mW:(N:Int)<=q
 . have e1:decide (q>=(N:Int))=Ar:=Lm mW
   have fX:Ap (R=([],2)):=HE.out.trans (Lo (.inr mW));go_wp2_with fail
   go_ret2
   rw[fX.out];exact⟨Z,0,rfl,fun h=>absurd h (by simp),ce.out⟩
 have HE:Ap (R=_):=HE.out.trans (Li (by omega))
 by_cases hl:set.length=n
 case neg=>
  have e2:((set.length:Int) != (n:Int))=Ar:=by simpa using(by omega:¬(set.length:Int)=(n:Int))
  have fX:Ap (R=([],15)):=HE.out.trans (Lo hl);go_wp2_with fail
  go_ret2
  rw[fX.out];exact⟨Z,0,rfl,fun h=>absurd h (by simp),ce.out⟩
 have fX:Ap (R=(je n (qc s q.toNat) set,0)):=HE.out.trans (Li (by simpa using hl));obtain⟨k,rfl⟩:=Lr (show 0<=q by omega);rw[Lj] at fX;have Ic:=zH (Qb bw n s.n.toNat (qc s) (by omega) k (by rw[dU.out,Lj];omega) AB kb set hl w2 HK.out (Dz.out w2 aP.out));rw[hl];unfold RetB at Ic;go_wp2_with fail;refine Ic.out.mono ?_;rintro e w3 ⟨g3,rfl,hg3,Ee,am⟩;have rj:=zH Ee;have bk:=zH (Lc ce.out am);go_wp2_with fail
 go_ret2
 rw[fX.out];exact⟨J ⟨g3,0,Z⟩,_,rfl,rj.out.at_ rj.out.lt,bk.out⟩
theorem contI_any(A:Bb)(cap:Nat)(xs:List Int)(x:Int)(w:Ba)(B:Nat)(hA:IAt w B A xs)(hl:xs.length<=17592186044416) :
  An Al 10 #[I A xs.length cap,O U x] w fun e w'=>e=Ak (Ah (decide (x∈xs)))/\w'=w:=by
 by_cases h0:xs.length=0
 . have e1:xs=[]:=LA h0
   subst e1;exact(Tryz.slices_Contains_int_empty A cap x w).mono fun e w' h=>⟨by simpa using h.1,h.2⟩
 obtain⟨b,o,rfl,hb,hc⟩:=hA (by omega);refine(Tryz.slices_Contains_int b o xs.length cap xs x w (Lh _) (by omega) (fun j hj=>?_)).mono fun e w' h=>⟨?_,h.2⟩
 . rw[Le,Lf hj];exact hc j hj
 rw[h.1,LC];exact ze (by rw[NG];simp)
theorem jQ{ak:Array Oper}{rest:List Oper}{o:Oper}{a:Act}{Q:Exit->Act->Ba->Prop}{W:Ba}(ew:o.guard=Z)(s x:Operand)
  (bW:o.op=.call { callee:=.builtin .append,args:=#[s,x],argTypes:=#[45,45] }) (base:Nat) (v:Aq) (xs us:List Bool) (hs:a.eval s=v) (aJ:OwnR kBl W base v xs.length (xs.map Ah))
  (g n cap:Nat) (hn:us.length=n) (hx:a.eval x=I (J ⟨g,0,Z⟩) n cap) (hg:BRow W g us) (an:xs.length+n<=1000000) (hb:base<=W.heap.size)
  (h:∀v' w1,OwnR kBl w1 base v' (xs++us).length ((xs++us).map Ah)->W.grownBy w1 v.ownBlock->Am base W w1->wpList Al ak Q rest (a.put o.dst v') w1) :
  wpList Al ak Q (o::rest) a W:=by
 obtain⟨i0,hi,cU,bN,cK⟩:=yu kBl_ok;subst hn
 refine NX _ ew s x 45 bW base 4 i0 (Ah As) 1 1 N7 hi cU bN cK rfl (by decide) v xs.length _ hs aJ ⟨g,0,Z⟩ us.length cap (us.map Ah) hx (by simp)
  (fun j u hj=>?_) (fun u hu=>by obtain⟨b,_,rfl⟩:=LO.1 hu;rfl) (by unfold maxLen;omega) (by omega) hb ?_
 · have Sd : j < us.length := by
    have:=(Lp.1 hj).1;simpa using this
   have e:u=Ah us[j]:=by simpa[Sd] using hj.symm
   subst e;have LS:(⟨g,0,Z⟩:Addr).add j=⟨g,j,Z⟩:=by unfold Addr.add;split<;>simp_all
   rw[LS];exact za hg j (gj us j Sd)
 intro v' w1 bG aR _;refine h v' w1 ?_ aR ((Ll base W).grown aR hb fun k hk=>(aJ.lt k hk).1);unfold OwnR;rw[Lu,LF];exact bG
theorem own_bat{w:Ba}{base:Nat}{v:Aq}{bs:List Bool}(h:OwnR kBl w base v bs.length (bs.map Ah)):∃A c,v=I A bs.length c/\BAt w w.heap.size A bs:=by
 obtain⟨A,c,e,_,_,h3⟩:=h.form;refine⟨A,c,e,fun h0=>?_⟩;obtain⟨g,e2,_,hg,hc⟩:=h3 h0;exact⟨g,0,e2,hg,fun i hi=>by rw[LM];exact hc i _ (by simp[hi])⟩
theorem ZY(p:Pb)(hl:gu p)(out:List Int)(ir:out.length<=17592186044416)(A SV AR:Bb)(kc ks cr:Nat)(w:Ba)(hA:CAt w w.heap.size A p.t.cases)(hS:SAt w w.heap.size SV p.a.sts)(hR:IAt w w.heap.size AR out) :
  An Al 3 #[.agg (p.vs A kc SV ks),Ai #[I AR out.length cr]] w fun e w'=>e=Ak (Ah Ar)/\Am w.heap.size w w':=by
 obtain⟨wa,cm,da,cX,dl⟩:=zh w (p.vs A kc SV ks) 29;obtain⟨w1,ac,db,dB,cx⟩:=zh wa #[I AR out.length cr] 32;have hB:Am w.heap.size w w1:=dl.trans (cx.mono (by omega));have da:w1.heap[w.heap.size]?=J (Ag (p.vs A kc SV ks) 29 (0,0)):=Lb cx (by omega) da;rw[cX] at db;have TU:=zH (uJ w1);have lc:Ap (∀X,Am w1.heap.size w1 X->CAt X X.heap.size A p.t.cases/\SAt X X.heap.size SV p.a.sts/\IAt X X.heap.size AR out):=fun X hX=>⟨(hA.keep (Lc hB hX)).more (Lc hB hX).size,(hS.keep (Lc hB hX)).more (Lc hB hX).size,(hR.keep (Lc hB hX)).more (Lc hB hX).size⟩
 have M6:=zH (fun (X:Ba) (hX:Am w1.heap.size w1 X)=>uI p hl out ir A SV AR kc ks cr X (lc.out X hX).1 (lc.out X hX).2.1 (lc.out X hX).2.2);have bj:Ap (∀X,Am w1.heap.size w1 X->X.heap[w.heap.size]?=J (Ag #[O U p.t.n,O U p.t.ins,O U p.t.outs,I A p.t.cases.length kc,O U p.a.n,I SV p.a.sts.length ks,O U p.k] 29 (0,0))/\X.heap[w.heap.size+1]?=J (Ag #[I AR out.length cr] 32 (0,0))):=fun X hX=>⟨La hX da,La hX db⟩
 have sA:=zH hl;unfold Pb.vs at cm M6 ⊢;have fa:=zH cm;have ah:=zH ac;have HB:=zH hB;clear cm ac da db cX dB dl cx hB hA hS hR hl ir;go_enter func3,ntmps3;go_upto_region 1 with fail
 rw[fa.out,ah.out];go_wp2_with fail;refine TU.out.mono ?_;rintro e w2 ⟨rfl,af⟩;have G2:=zH af;obtain⟨D0,D1⟩:=bj.out w2 G2.out;obtain⟨p0,p1,p2,p3,p4,p5,p6,_⟩:=Kf (D0);have r0:=za D1 0 rfl;clear D0 D1 af TU;go_wp2_with fail;refine(M6.out w2 G2.out).mono ?_;rintro e w3 ⟨T,A2,dz,AV,AX,dX,dW,kv,kx,b,rfl,am,hT⟩;have G3:=zH (Lc G2.out am);have HT:=zH hT;clear am hT M6 G2 p0 p1 p2 p3 p4 p5 p6 r0;unfold Sy.vs_;go_upto_region 4 with fail
 obtain⟨w4,mw,d4,mC,bq⟩:=zh w3 #[O U T.p.t.n,O U T.p.t.ins,O U T.p.t.outs,I A2 T.p.t.cases.length dX,O U T.p.a.n,I dz T.p.a.sts.length dW,O U T.p.k,O U T.n,I AV T.vs.length kv,I AX T.xs.length kx] 39;rw[mw];have G4:=zH (Lc G3.out bq);have D4:=zH d4;have ld:Ap (∀X,Am w4.heap.size w4 X->Am w1.heap.size w1 X/\X.heap[w3.heap.size]?=J (Ag #[O U T.p.t.n,O U T.p.t.ins,O U T.p.t.outs,I A2 T.p.t.cases.length dX,O U T.p.a.n,I dz T.p.a.sts.length dW,O U T.p.k,O U T.n,I AV T.vs.length kv,I AX T.xs.length kx] 39 (0,0))/\(SyAt w3 w3.heap.size A2 dz AV AX T->SyAt X X.heap.size A2 dz AV AX T)):=fun X hX=>⟨Lc G4.out hX,La hX d4,fun h=>(h.up bq).up hX⟩
 clear mw d4 mC bq
 cases b with
 | false=>
  have ce:=zH (Lc HB.out G4.out);go_wp2_with fail;go_ret;exact⟨rfl,ce.out⟩
 | true=>
 obtain⟨DY,nK,nM,eS,K,N,hF,mc,GM⟩:=HT.out rfl;obtain⟨pV,iI,hf,h0,dt,CQ,-⟩:=qx DY;have cz:LowS (zz p):=by have:=qU sA.out hf;rw[pV] at this;exact this
 have fU:xN (zz p).p:=hf;have lL:=(zM h0).1;have oy:(zz p).p=p:=rfl;rw[nK] at hF mc eS GM;have lY:=Z5 lL hf.1.1 hF mc;obtain⟨fR,U9,DU,AH⟩:=dcd_all lL hF mc eS GM;rw[<-nK] at hF mc eS GM iI cz fU oy lY fR DU AH;have tV:zX T.p.t=0:=by rw[oy];exact lL
 have Ho:=zH (fun (X:Ba) (hX:Am w4.heap.size w4 X)=>kd T cz fU iI hF lY tV out eS A2 dz AV AX AR dX dW kv kx cr X ((ld.out X hX).2.2 nM) (lc.out X (ld.out X hX).1).2.2);rw[DU] at Ho;unfold Sy.vs_ at Ho;have sV:p.k=(K:Int):=by have:=hF.k;rw[oy] at this;exact this
 have oI:p.t.n=(N:Int):=by have:=hF.pn;rw[oy] at this;exact this
 have tl:=hF.n;have h1N:=hF.n1;have MF:=hF.n5;have rW:=hF.k6;have Ex:=hF.lx;obtain⟨M,hM⟩:=Kh (K+1);have Aw:ptn T=T.xs.length*M:=by unfold ptn;rw[oy,sV,Lj,hM]
 have U8:ptn T<=700:=by rw[Aw];have:=L3 Ex (show M<=7 by omega);omega
 obtain⟨Aa,hO,hO8⟩:∃Aa:Nat,p.t.outs=(Aa:Int)/\Aa<=8:=by
  have h:=lL;unfold zX at h
  split at h
  . cases h
  exact⟨p.t.outs.toNat,by omega,by omega⟩
 have lC:=zH (fun (q v:Nat) (hq:q<N) (hv:v<8) (X:Ba) (hX:Am w4.heap.size w4 X)=>atom_any T cz fU out 0 (.mk ⟨5,(q:Int),0,(v:Int),0⟩ []) (by show 1<=1000000;omega) A2 dz AV AX Z AR dX dW kv kx 0 cr X ((ld.out X hX).2.2 nM) (lc.out X (ld.out X hX).1).2.2 rfl);have OI:=zH (fun (q v:Nat) (hq:q<N) (hv:v<8)=>dec_atm (out:=out) iI tl MF hq hv fR.len);have Dt:=zH (fun (q:Nat) (set:List Bool) (AB:Bb) (kb:Nat) (mz:set.length<=1000000) (X:Ba) (hX:Am w4.heap.size w4 X) hB=>Qe T cz fU (q:Int) set A2 dz AV AX AB dX dW kv kx kb mz X ((ld.out X hX).2.2 nM) hB);have On:=zH (fun (q:Nat) (set:List Bool) (hq:q<N) (hs:set.length=ptn T)=>dec_knw iI tl hq hs);have nR:=zH (fun (q:Nat) (v:Int)=>wi T K q v T.xs);have Ok:=zH AH
 have HXS:Ap (∀k (hk:k<T.xs.length),∃(bx ox:Nat) (A5:Bb) (c5:Nat) (A6:Bb) (c6 cn f:Nat),AX=J ⟨bx,ox,Z⟩/\f<32/\cn<p.t.cases.length /\
   (∀X,Am w4.heap.size w4 X->X.cell? ⟨bx,ox+k*3,Z⟩=J (O U (cn:Int))/\X.cell? ⟨bx,ox+k*3+1,Z⟩=J (I A5 T.xs[k].word.length c5)/\X.cell? ⟨bx,ox+k*3+2,Z⟩=J (I A6 T.xs[k].views.length c6)) /\
   (∀X,Am w4.heap.size w4 X->An Al 7 #[Ai #[O U (cn:Int),I A5 T.xs[k].word.length c5,I A6 T.xs[k].views.length c6]] X fun e w'=>e=Ak (O U (f:Int))/\Am X.heap.size X w') /\
   (∀q,q<N->∀X,Am w4.heap.size w4 X->An Al 8 #[Ai #[O U p.t.n,O U p.t.ins,O U p.t.outs,I A p.t.cases.length kc],O U (cn:Int),O U (f:Int),O U (q:Int)] X fun e w'=>∃v L,e=Ak (.tuple #[v,O U 0])/\Own w' X.heap.size v L/\L.length<=100000/\(∀y:Int,gD T T.xs[k] q y=(f.testBit q||decide (y∈L)))/\Am X.heap.size X w')):=fun k hk=>by
  have bu:=Ld hk;obtain⟨⟨cn,fl,aw⟩,fB,pT⟩:=lY _ bu;obtain⟨f,KQ,dr⟩:=kM hF bu;obtain⟨lk,_⟩:=hF.word _ bu;have rX:T.p.t.cases.getD T.xs[k].c.toNat default=T.p.t.cases[cn]:=by rw[fl,Lj,Le,Lf aw];rfl
  rw[rX,KQ] at fB pT;have hSX:=fun X hX=>(ld.out X hX).2.2 nM
  obtain⟨bx,ox,A5,c5,A6,c6,eX,aV,x0,x1,x2,de,eU⟩:=((ld.out w4 (Ll _ _)).2.2 nM).fx.row k hk;refine⟨bx,ox,A5,c5,A6,c6,cn,f,eX,Lx dr (LZ (n:=2) (by omega) MF),by rw[<-oy];exact aw,fun X hX=>?_,fun X hX=>?_,fun q hq X hX=>?_⟩
  . rw[fl] at x0
    exact⟨(hX.cell (p:=⟨bx,_,Z⟩) aV).trans x0,(hX.cell (p:=⟨bx,_,Z⟩) aV).trans x1,(hX.cell (p:=⟨bx,_,Z⟩) aV).trans x2⟩
  . have h1:=gz T.xs[k] (by omega) A5 A6 c5 c6 X ((de.keep hX).more hX.size)
    rw[fl,KQ] at h1;exact h1
  . have h1:=tdom_any T.p.t (by rw[oy];exact hf.1.1) tV N hF.pn MF cn f q aw dr hq fB pT A kc X (by rw[oy];exact(lc.out X (ld.out X hX).1).1)
    simp only[oy] at h1;refine h1.mono ?_;rintro e w' ⟨v,L,he,GV,BC,WH,hb⟩;refine⟨v,L,he,GV,BC,fun y=>rgt_col fl aw KQ (fun y=>?_),hb⟩;rw[WH];simp only[oy]
 obtain⟨D0,D1⟩:=bj.out w4 G4.out;have r0:=za D1 0 rfl;obtain⟨q0,q1,q2,q3,q4,q5,q6,q7,q8,q9⟩:=zK (D4.out);have tT:IntKind.i64.wrap ((K:Int)+1)=(M:Int):=by rw[Lv];omega
 have Tc:1<=M/\M<=7:=by omega
 have HRT:Ap (∀(q:Nat) (v:Int) (k:Nat) (hk:k<T.xs.length),qg T K q v (T.xs.take (k+1))=qg T K q v (T.xs.take k)++List.replicate M (gD T T.xs[k] q v)):=fun q v k hk=>by rw[<-hM];exact JC hk
 have T1:Ap (∀(q:Nat) (v:Int) (k:Nat),k<=T.xs.length->(qg T K q v (T.xs.take k)).length=k*M):=fun q v k hk=>by rw[wi,NS,Pz hk,hM]
 have sw:=zH Aw;have Dm:=zH sV;have HTn:=zH tl;have HOO:=zH hO;clear sV tl hO oI Aw D0 D1 DY nK nM eS hF mc GM pV iI hf h0 dt CQ cz fU lL oy lY fR U9 DU AH tV HT sA hM nR;go_wp2_with fail;refine(Ho.out w4 (Ll _ _)).mono ?_;rintro e w5 ⟨rfl,ap⟩;have B5:=zH ap;obtain⟨D0,D1⟩:=bj.out w5 (ld.out w5 B5.out).1;obtain⟨p0,p1,p2,p3,p4,p5,p6,_⟩:=Kf (D0);obtain⟨q0,q1,q2,q3,q4,q5,q6,q7,q8,q9⟩:=zK ((ld.out w5 B5.out).2.1);rw[Dm.out] at p6;rw[HTn.out] at q7;clear ap Ho D0 D1 r0;go_wp2_with fail;clear p0 p1 p2 p3 p4 p5 p6 q0 q1 q2 q3 q4 q5 q6 q7 q8 q9
 go_loopw [53] (fun j wr=>∃q:Nat,q<=N/\j=O U (q:Int)/\Ap (Am w5.heap.size w5 wr)) (fun j _=>N-(Ao j).toNat)
 case atStart=>exact⟨0,by omega,rfl,Ll _ _⟩
 obtain⟨q,hq,rfl,aC⟩:=hrel;have BR:Ap (Am w4.heap.size w4 wr):=Lc B5.out aC.out
 by_cases rP:q<N
 case neg=>
  obtain rfl:q=N:=by omega
  have Av:¬(q:Int)<(q:Int):=by omega
  have ce:=zH (HB.out.trans ((ld.out _ BR.out).1.mono HB.out.size));go_wp2_with fail;go_ret;exact⟨rfl,ce.out⟩
 have Av:(q:Int)<(N:Int):=by omega
 have oG:(0:Int)<=(q:Int):=by omega
 have im:q<5:=by omega
 have GA:min q 64=q:=by omega
 obtain⟨D0,D1⟩:=bj.out wr (ld.out wr BR.out).1;have p2:=za D0 2 rfl;rw[HOO.out] at p2;clear D0 D1;go_wp2_with fail;clear p2
 go_loopw [59] (fun j wr=>∃v:Nat,v<=Aa/\j=O U (v:Int)/\Ap (Am w5.heap.size w5 wr)) (fun j _=>Aa-(Ao j).toNat)
 case atStart=>exact⟨0,by omega,rfl,aC⟩
 obtain⟨v,hv,rfl,Bd⟩:=hrel;have BV:Ap (Am w4.heap.size w4 wr):=Lc B5.out Bd.out
 by_cases hvO:v<Aa
 case neg=>
  obtain rfl:v=Aa:=by omega
  have IK:¬(v:Int)<(v:Int):=by omega
  go_wp2_with fail
  go_roundw
  case rel=>exact⟨q+1,by omega,by go_num,Bd⟩
  simp[Ao];omega
 have IK:(v:Int)<(Aa:Int):=by omega
 have Gt:v<8:=by omega
 have q9:=za (ld.out wr BV.out).2.1 9 rfl;go_wp2_with fail;clear q9
 go_loopw [13,65] (fun rt j wr=>∃k:Nat,k<=T.xs.length/\j=O U (k:Int)/\Ap (OwnR kBl wr w5.heap.size rt (qg T K q v (T.xs.take k)).length ((qg T K q v (T.xs.take k)).map Ah))/\Ap (Am w5.heap.size w5 wr)) (fun _ j _=>T.xs.length-(Ao j).toNat)
 case atStart=>exact⟨0,by omega,rfl,by rw[LI];exact OwnR.nil _ _ _,Bd⟩
 obtain⟨k,hk,rfl,HO,be⟩:=hrel;have BK:Ap (Am w4.heap.size w4 wr):=Lc B5.out be.out
 by_cases aU:k<T.xs.length
 case neg=>
  obtain rfl:k=T.xs.length:=by omega
  have dJ:¬(T.xs.length:Int)<(T.xs.length:Int):=by omega
  have Oi:=zH (T1.out q v _ (Lh T.xs.length));rw[LC] at HO Oi;have lg:Ap ((qg T K q v T.xs).length=ptn T):=Oi.out.trans sw.out.symm;obtain⟨AB,kb,rfl,Tt⟩:=own_bat HO.out;have Dz:=zH Tt;have mS:=zH (lC.out q v rP Gt wr BK.out);rw[OI.out q v rP Gt] at mS;have sC:=zH (fun (X:Ba) (hX:Am wr.heap.size wr X)=>Dt.out q (qg T K q v T.xs) AB kb (by rw[lg.out];omega) X (Lc BK.out hX) ((Dz.out.keep hX).more hX.size));rw[On.out q _ rP lg.out] at sC;have Oj:=zH (Ok.out q rP (v:Int) (by omega));have ic:Ap ((jL T out ⟨5,(q:Int),0,(v:Int),0⟩).length=ptn T):=Xp ..;have pw:Ap ((je (ptn T) (qc T q) (qg T K q v T.xs)).length=ptn T):=qR ..;obtain⟨aL,SD⟩:=Kh (jL T out ⟨5,(q:Int),0,(v:Int),0⟩);obtain⟨iL,Sg⟩:=Kh (je (ptn T) (qc T q) (qg T K q v T.xs));rw[SD] at mS Oj ic;rw[Sg] at sC Oj pw;obtain⟨RL,Bz⟩:=Kh ((qg T K q v T.xs).length);rw[Bz] at sC;unfold Sy.vs_ at mS sC;have mS:Ap (An _ _ #[Ai #[O U T.p.t.n,O U T.p.t.ins,O U T.p.t.outs,I A2 T.p.t.cases.length dX,O U T.p.a.n,I dz T.p.a.sts.length dW,O U T.p.k,O U T.n,I AV T.vs.length kv,I AX T.xs.length kx],Ai #[I AR out.length cr],Ai #[O U 5,O U (q:Int),O U 0,O U (v:Int),O U 0,I Z 0 0]] wr _):=mS;dsimp only at mS sC;have r0:=za (bj.out wr (ld.out wr BK.out).1).2 0 rfl
  obtain⟨q0,q1,q2,q3,q4,q5,q6,q7,q8,q9⟩:=zK ((ld.out wr BK.out).2.1);clear Tt SD Sg lg Oi HO;rw[Bz];clear Bz;go_wp2_with fail;refine mS.out.mono ?_;rintro e w6 ⟨A6,c6,rfl,nm,bz⟩;have G6:=zH (Lc BK.out bz);have dj:=zH nm;have Ui:=zH (sC.out w6 bz);have C6:=zH (Lc be.out bz);clear q0 q1 q2 q3 q4 q5 q6 q7 q8 q9 r0 nm bz mS sC;obtain⟨q0,q1,q2,q3,q4,q5,q6,q7,q8,q9⟩:=zK ((ld.out w6 G6.out).2.1);go_wp2_with fail;refine Ui.out.mono ?_;rintro e w7 ⟨A7,c7,rfl,tt,cM⟩;have C7:=zH (Lc C6.out cM);have ec:=zH tt;have Ig:=zH ((dj.out.keep cM).more cM.size);rw[ic.out,pw.out];clear q0 q1 q2 q3 q4 q5 q6 q7 q8 q9 tt cM Ui dj;go_wp2_with fail
  go_loopw [128] (fun j wr=>∃i:Nat,i<=ptn T/\j=O U (i:Int)/\Ap (Am w7.heap.size w7 wr)) (fun j _=>ptn T-(Ao j).toNat)
  case atStart=>exact⟨0,by omega,rfl,Ll _ _⟩
  obtain⟨i,hi,rfl,C1⟩:=hrel
  by_cases ln:i<ptn T
  case neg=>
   obtain rfl:i=ptn T:=by omega
   have dK:¬((ptn T:Nat):Int)<((ptn T:Nat):Int):=by omega
   have Dy:=zH (Lc C7.out C1.out);go_wp2_with fail
   go_roundw
   case rel=>exact⟨v+1,by omega,by go_num,Dy⟩
   simp[Ao];omega
  have dK:(i:Int)<((ptn T:Nat):Int):=by omega
  have ta:(0:Int)<=(i:Int):=by omega
  have Bf:i<aL.length:=by rw[ic.out];exact ln
  have AS:i<iL.length:=by rw[pw.out];exact ln
  obtain⟨b6,o6,e6,bz,y6⟩:=(Ig.out.keep C1.out).at_ i Bf;obtain⟨b7,o7,e7,cM,y7⟩:=(ec.out.keep C1.out).at_ i AS;subst e6;subst e7;have HQ:=zH (Oj.out i ln);rw[Le,Lf Bf,Le,Lf AS,Np,Np] at HQ;obtain⟨x6,tS⟩:=Kh (aL[i]);obtain⟨x7,O9⟩:=Kh (iL[i]);rw[tS] at y6 HQ;rw[O9] at y7 HQ;clear tS O9 bz cM Bf AS
  cases x6 with
  | false=>
   go_wp2_with fail
   go_roundw
   case rel=>exact⟨i+1,by omega,by go_num,C1⟩
   case measure=>simp[Ao];omega
  | true=>
   obtain rfl:x7=Ar:=HQ.out rfl;go_wp2_with fail
   go_roundw
   case rel=>exact⟨i+1,by omega,by go_num,C1⟩
   case measure=>simp[Ao];omega
 have dJ:(k:Int)<(T.xs.length:Int):=by omega
 have cA:(0:Int)<=(k:Int):=by omega
 obtain⟨bx,ox,A5,c5,A6,c6,cn,f,eX,KR,aw,Sr,fU,Sm⟩:=HXS.out k aU;subst eX;have iG:=zH Sr;have ia:=zH fU;have OB:=zH (Sm q rP);have fH:=zH (HRT.out q v k aU);have B6:=zH (T1.out q v k (by omega));have dG:k*M<=500:=by have:=L3 (show k<=60 by omega) Tc.2;omega
 obtain⟨x,hx⟩:=Kh (T.xs[k]);rw[hx] at iG ia OB fH;obtain⟨x0,x1,x2⟩:=iG.out wr BK.out;obtain⟨w6,pH,d6,mB,bz⟩:=zh wr #[O U (cn:Int),I A5 x.word.length c5,I A6 x.views.length c6] 49;have rh:=zH pH;have D6:=zH d6;have C6:=zH (Lc be.out bz);have G6:=zH (Lc B5.out C6.out);have mQ:=zH (show OwnR kBl w6 w5.heap.size _ _ _ from by rw[<-pH];exact HO.out.alloc _);clear Sr fU Sm hx pH d6 mB bz HO;go_upto_region 20 with fail
 rw[rh.out];clear x0 x1 x2;obtain⟨e0,e1,e2,_⟩:=Kc D6.out;go_wp2_with fail;refine(ia.out w6 G6.out).mono ?_;rintro e w7 ⟨rfl,cM⟩;have C7:=zH (Lc C6.out cM);have G7:=zH (Lc B5.out C7.out);have rn:=zH (mQ.out.below cM (Lh _));have D7:=zH (La cM D6.out);clear e0 e1 e2 cM mQ ia;have e0:=za D7.out 0 rfl;obtain⟨D0,D1⟩:=bj.out w7 (ld.out w7 G7.out).1;obtain⟨p0,p1,p2,p3,_⟩:=Kb D0;clear D0 D1;go_wp2_with fail;refine(OB.out w7 G7.out).mono ?_;rintro e w8 ⟨vL,L,rfl,S7,BC,Ea,dD⟩;have C8:=zH (Lc C7.out dD);have N':=zH (rn.out.below dD (Lh _));have Dj:=zH (Ea (v:Int));obtain⟨AL,cL,rfl,-,-,Tl⟩:=S7.form;have Gh:=zH (contI_any AL cL L (v:Int) w8 w8.heap.size Tl (by omega));rw[Dj.out] at fH;have eD:=zH BC;obtain⟨cb,l6⟩:=Kh (decide ((v:Int)∈L));rw[l6] at fH Gh;have aH:=ru_bit1 KR im;have EQ:(0:Int)<=(f:Int):=by omega
 obtain⟨LL,Mr⟩:=Kh L.length;rw[Mr] at Gh;clear e0 p0 p1 p2 p3 S7 Ea dD Tl l6 rn OB Dj BC;rw[Mr];clear Mr eD;obtain⟨rl,lP⟩:=Kh (qg T K q v (T.xs.take k));rw[lP] at N' fH B6;have T3:=zH (fun (bv:Bool) (X:Ba) (b:Nat) (hb:X.heap[b]?=J (Ag #[Ah bv] 4 (0,0)))=>YA M b Tc.1 (by omega) bv X hb);clear lP
 cases di:f.testBit q with
 | true=>
  rw[di] at aH fH;rw[Bool.true_or] at fH;go_wp2_with fail;refine(T3.out Ar _ w8.heap.size (zj _ _)).mono ?_;rintro e w9 ⟨g9,rfl,KN,Ed,dg⟩;have N4:=zH ((N'.out.alloc _).below dg (Lh _));have C9:Ap (Am w5.heap.size w5 w9):=C8.out.trans (((zN w8 _).trans (dg.mono (by simp))).mono C8.out.size);have NF:=zH Ed;clear KN Ed dg di;go_wp2_with (at_builtin;go_must (refine jQ rfl _ _ rfl w5.heap.size u13 rl (List.replicate M Ar) rfl N4.out g9 M M (by simp) rfl NF.out (by rw[B6.out];omega) C9.out.size ?_);intro v' cZ lT EM aX)
  go_roundw
  case rel=>exact⟨k+1,by omega,by go_num,by rw[fH.out];exact lT,C9.out.trans aX⟩
  case measure=>simp[Ao];omega
 | false=>
  rw[di] at aH fH;rw[Rk] at fH;go_wp2_with fail;refine Gh.out.mono ?_;rintro e OT ⟨rfl,rfl⟩;go_wp2_with fail;refine(T3.out cb _ OT.heap.size (zj _ _)).mono ?_;rintro e w9 ⟨g9,rfl,KN,Ed,dg⟩;have N4:=zH ((N'.out.alloc _).below dg (Lh _));have C9:Ap (Am w5.heap.size w5 w9):=C8.out.trans (((zN OT _).trans (dg.mono (by simp))).mono C8.out.size);have NF:=zH Ed;clear KN Ed dg di;go_wp2_with (at_builtin;go_must (refine jQ rfl _ _ rfl w5.heap.size u13 rl (List.replicate M cb) rfl N4.out g9 M M (by simp) rfl NF.out (by rw[B6.out];omega) C9.out.size ?_);intro v' cZ lT EM aX)
  go_roundw
  case rel=>exact⟨k+1,by omega,by go_num,by rw[fH.out];exact lT,C9.out.trans aX⟩
  case measure=>simp[Ao];omega
end
end Go.Proofs.YtjjcgpfljidbhaaGreat
