/- Merged. -/
import Derived.Test.YtkmbdfdaffmhjaaGreatTh
import Derived.Laws.ResultCell
open Go.Proofs.Tryz
open Go.Value renaming int->O,slice->I,bool->Ah,agg->Ai,pointer->Aj
open Go.IntKind renaming i64->U
open Option renaming none->Z,some->J
open Go.Obj renaming cells->Ag
open Go.Ending renaming returned->Ak
open Go.Proofs.Tryz renaming prog->Al,underlying39->N7
open Go.RowKit renaming Below->Am,intOf->Ap,Hid->Aq
open Go renaming Calls->An,Value->Ar
open Bool renaming true->Au,false->Aw
namespace Go.Proofs.YtkmbdfdaffmhjaaGreat
set_option maxRecDepth 100000
set_option maxHeartbeats 4000000
section
open Go.RowKit Go.Shelf
attribute [local go_sem] Oper.semAt_some
theorem Xs{n:Int}{d:Nat}{f:Fm}(h:qw n d f=0):yJ n.toNat d f=0:=by
 unfold qw at h
 split at h
 . cases h
 split at h
 . rename_i h2;exact absurd h h2
 exact h
theorem Y7(s:Sy)(hs:LowS s)(hf:xu s.p)(out:List Int)(d:Nat)(f:Fm)(bL:(zL d f).1<=1000000)(A SV AV AX AF AR:Bb)(kc ks kv kx cf cr:Nat)(w:Ba)(hS:SyAt w w.heap.size A SV AV AX s)(hO:IAt w w.heap.size AR out)(hA:FsAt w w.heap.size d AF f.args) :
  An Al 24 #[.agg (s.vs_ A kc SV ks AV kv AX kx),Ai #[I AR out.length cr],.agg (f.vs AF cf)] w (wi (ws s out d f) w):=by
 obtain⟨wa,ec,da,ie,mc⟩:=zm w (s.vs_ A kc SV ks AV kv AX kx) 39;obtain⟨wb,fj,db,fM,iH⟩:=zm wa #[I AR out.length cr] 52;obtain⟨w1,ae,dc,oA,fz⟩:=zm wb (f.vs AF cf) 32;have hB:Am w.heap.size w w1:=(mc.trans (iH.mono (by omega))).trans (fz.mono (by omega));have da:w1.heap[w.heap.size]?=J (Ag (s.vs_ A kc SV ks AV kv AX kx) 39 (0,0)):=Lb fz (by omega) (Lb iH (by omega) da);have db:w1.heap[w.heap.size+1]?=J (Ag #[I AR out.length cr] 52 (0,0)):=by rw[<-ie];exact Lb fz (by omega) db
 have dc:w1.heap[w.heap.size+1+1]?=J (Ag (f.vs AF cf) 32 (0,0)):=by rw[<-ie,<-fM];exact dc
 have cY:w1.heap.size=w.heap.size+3:=by omega
 have HV:=zH (uv s hs hf A SV AV AX kc ks kv kx w1 (hS.up hB));have HE:Aq (ws s out d f=if zZ s≠0 then ([],zZ s) else if 0<out.length/\out.length≠s.vs.length then ([],15) else if qw s.p.t.n d f≠0 then ([],qw s.p.t.n d f) else (xn s out d f,0)):=rfl;have O6:Aq (∀X,Am w1.heap.size w1 X->FsAt X X.heap.size d AF f.args):=fun X hX=>(((hA.keep hB).more hB.size).keep hX).more hX.size
 have pG:=zH (fun (X:Ba) (hX:Am w1.heap.size w1 X)=>ui s.p.t.n d f AF cf X (O6.out X hX) bL)
 have eD:=zH (fun (h:zZ s=0) (lm:¬(0<out.length/\out.length≠s.vs.length)) (hE:qw s.p.t.n d f=0)=>(by
  obtain⟨_,K,N,hF⟩:=yG hf h;have hp:=hF.n1;have hn:=hF.n
  obtain⟨f1,f2,_⟩:=wC (s:=s) (g:=0) hf (by
   unfold yd;rw[Lg (by rw[h];simp),Lg];have:(0:Int)<2^s.n.toNat:=Int.pow_pos (by decide)
   omega)
  have hN:s.p.t.n.toNat=N:=by have:=hF.pn;omega
  have dp:yJ N d f=0:=by rw[<-hN];exact Xs hE
  exact fun X hX=>ZK s hs hf h K N hF f1 f2 out lm cr AR A SV AV AX kc ks kv kx d f AF cf X dp (O6.out X hX) ((hS.up hB).up hX) ((((hO.keep hB).more hB.size).keep hX).more hX.size):∀(X:Ba),Am w1.heap.size w1 X ->
   An Al 38 #[.agg (s.vs_ A kc SV ks AV kv AX kx),Ai #[I AR out.length cr],.agg (f.vs AF cf)] X (vc (ptn s) (xn s out d f) X)))
 have HNS:Aq ((xn s out d f).length=ptn s):=jM s out d f;obtain⟨E,hE⟩:=Kk (ws s out d f);unfold wi;unfold vc at eD;rw[hE] at HE ⊢;obtain⟨r,hr⟩:=Kk (zZ s);rw[hr] at HV HE eD;unfold Sy.vs_ at ec da HV eD ⊢;unfold Fm.vs at ae dc pG eD ⊢;have o8:=zH ec;have o7:=zH fj;have o5:=zH ae;have HB:=zH hB
 have aY:Aq (∀X,Am w1.heap.size w1 X->X.heap[w.heap.size]?=J (Ag #[O U s.p.t.n,O U s.p.t.ins,O U s.p.t.outs,I A s.p.t.cases.length kc,O U s.p.a.n,I SV s.p.a.sts.length ks,O U s.p.k,O U s.n,I AV s.vs.length kv,I AX s.xs.length kx] 39 (0,0))/\X.heap[w.heap.size+1]?=J (Ag #[I AR out.length cr] 52 (0,0))/\X.heap[w.heap.size+1+1]?=J (Ag #[O U f.h.op,O U f.h.p,O U f.h.o,O U f.h.v,O U f.h.g,I AF f.args.length cf] 32 (0,0))):=
  fun X hX=>⟨Lb hX (by omega) da,Lb hX (by omega) db,Lb hX (by omega) dc⟩
 obtain⟨p0,p1,p2,p3,p4,p5,p6,p7,p8,p9⟩:=zK (da);clear ec fj ae da db dc ie fM oA mc iH fz hB hS hO hA bL hE hr hs hf;go_enter func24,ntmps24;go_upto_region 1 with fail
 rw[o8.out,o7.out,o5.out];go_wp2_with fail;refine HV.out.mono ?_;rintro e w2 ⟨rfl,ah⟩;have G2:=zH ah
 by_cases h0:r=0
 case neg=>
  have e0:(r != 0)=Au:=by simpa using h0
  have hR:Aq (E=([],r)):=HE.out.trans (Lj h0);have cF:=zH (Lc HB.out G2.out);go_wp2_with fail
  go_ret2
  rw[hR.out];exact⟨Z,0,rfl,fun h=>absurd h (by simp),fun _ e=>(by cases e),cF.out⟩
 subst h0;have am:=zH (HE.out.trans (Lg (by simp)));have OX:=zH (eD.out rfl);obtain⟨D0,D1,D2⟩:=aY.out _ G2.out;have p8:=zh D0 8 rfl;have r0:=zh D1 0 rfl;go_upto_region 5 with fail
 by_cases dI:0<out.length/\out.length≠s.vs.length
 case pos=>
  have e0:((out.length:Int) != 0)=Au:=by simp;intro h;rw[h] at dI;simp at dI
  have e1:((out.length:Int) != (s.vs.length:Int))=Au:=by simp;omega
  have e3:¬(out.length:Int)=0:=by omega
  have e4:¬(out.length:Int)=(s.vs.length:Int):=by omega
  have e2:¬out=[]:=by rintro rfl;simp at dI
  have e5:¬out.length=s.vs.length:=by omega
  have hR:Aq (E=([],15)):=am.out.trans (Lj dI);have cF:=zH (Lc HB.out G2.out);clear dI;go_wp2_with fail
  go_ret2
  rw[hR.out];exact⟨Z,0,rfl,fun h=>absurd h (by simp),fun _ e=>(by cases e),cF.out⟩
 have aM:=zH (am.out.trans (Lg dI));have Bf:=zH (OX.out dI)
 go_cut [28] from 19 (fun s28 wx=>s28=Ah Aw/\wx=w2)
 case first=>
  have ah:out.length=0\/out.length=s.vs.length:=by omega
  by_cases h1:out.length=0
  . have e0:((out.length:Int) != 0)=Aw:=by simp[h1]
    clear dI ah h1 pG O6 HNS aY aM Bf;go_wp2_with fail
    go_meet
    exact⟨rfl,rfl⟩
  have e0:((out.length:Int) != 0)=Au:=by simp;intro h;rw[h] at h1;simp at h1
  have e1:((out.length:Int) != (s.vs.length:Int))=Aw:=by simp;omega
  clear dI ah h1 pG O6 HNS aY aM Bf;go_wp2_with fail
  go_meet
  exact⟨rfl,rfl⟩
 case rest=>
 obtain⟨rfl,rfl⟩:=hcut;have HC:=zH (pG.out _ G2.out);obtain⟨q,hq⟩:=Kk (qw s.p.t.n d f);rw[hq] at HC aM Bf;obtain⟨D0,D1,D2⟩:=aY.out _ G2.out;have p0:=zh D0 0 rfl;obtain⟨q0,q1,q2,q3,q4,q5,_⟩:=Ki (D2);go_wp2_with fail;refine HC.out.mono ?_;rintro e w3 ⟨rfl,al⟩;have G3:=zH (Lc G2.out al);clear al HC p0 q0 q1 q2 q3 q4 q5 p8 r0 D0 D1 D2
 by_cases h0:q=0
 case neg=>
  have e0:(q != 0)=Au:=by simpa using h0
  have hR:Aq (E=([],q)):=aM.out.trans (Lj h0);have cF:=zH (Lc HB.out G3.out);go_wp2_with fail
  go_ret2
  rw[hR.out];exact⟨Z,0,rfl,fun h=>absurd h (by simp),fun _ e=>(by cases e),cF.out⟩
 subst h0;have dR:=zH (aM.out.trans (Lg (by simp)));have HC:=zH (Bf.out rfl _ G3.out);obtain⟨D0,D1,D2⟩:=aY.out _ G3.out;obtain⟨p0,p1,p2,p3,p4,p5,p6,p7,p8,p9⟩:=zK (D0);have r0:=zh D1 0 rfl;obtain⟨q0,q1,q2,q3,q4,q5,_⟩:=Ki (D2);clear D0 D1 D2 pG O6 aY aM Bf OX am eD HE;go_wp2_with fail;refine HC.out.mono ?_;rintro e w4 ⟨A4,c4,rfl,sV,Gf,aP⟩;have rW:=zH sV;have sb:=zH Gf;have rn:Aq (w.heap.size<=w3.heap.size):=Lr HB.out.size G3.out.size;have cF:=zH (HB.out.trans ((Lc G3.out aP).mono HB.out.size));clear sV Gf aP HC;go_wp2_with fail
 go_ret2
 rw[dR.out];refine⟨A4,c4,?_,rW.out,fun a e=>Lr rn.out (sb.out a e),cF.out⟩;dsimp only;rw[HNS.out]
 rfl
def RetIw(r:Bool)(w:Ba)(e:Ending)(w':Ba):Prop:=∃i:Int,e=Ak (O U i)/\((r=Au/\0<=i)\/(r=Aw/\i=-1))/\Am w.heap.size w w'
theorem Jz(A:Bb)(bs:List Bool)(c:Nat)(hl:bs.length<=100000)(w:Ba)(hA:BAt w w.heap.size A bs) :
  An Al 36 #[I A bs.length c,Ah Aw] w (RetIw (bs.any fun b=>!b) w):=by
 have HA:=zH hA;obtain⟨r,hr⟩:∃r,(bs.any fun b=>!b)=r:=⟨_,rfl⟩;rw[hr];have HR:Aq (r=(bs.drop 0).any fun b=>!b):=by rw[Ni];exact hr.symm
 clear hA hr;go_enter func36,ntmps36;go_wp2_with fail
 go_loopw [8] (fun i wr=>∃k:Nat,k<=bs.length/\i=O U (k:Int)/\Aq (r=(bs.drop k).any fun b=>!b)/\Aq (Am w.heap.size w wr)) (fun i _=>bs.length-(Ap i).toNat)
 case atStart=>exact⟨0,by omega,rfl,HR,by first | exact Li _ _ | exact(Li _ _).drew⟩
 obtain⟨k,hk,rfl,av,aO⟩:=hrel;clear HR
 by_cases ac:k<bs.length
 . obtain⟨b1,o1,rfl,aQ,c1⟩:=(HA.out.keep aO.out).at_ k ac
   have hs:=va (p:=fun b:Bool=>!b) ac;obtain⟨x,hx⟩:=Kk (bs[k]);rw[hx] at c1 hs;have HS:=zH hs;have dS:(0:Int)<=(k:Int):=by omega
   have aW:(k:Int)<(bs.length:Int):=by omega
   clear hs hx
   cases x with
   | false=>
    have hR:r=Au:=by rw[av.out,HS.out];rfl
    subst hR;go_wp2_with fail;go_ret;exact⟨(k:Int),rfl,.inl ⟨rfl,by omega⟩,by first | exact aO.out | exact aO.out.drew⟩
   | true=>
    have dH:Aq (r=(bs.drop (k+1)).any fun b=>!b):=by rw[av.out,HS.out];rfl
    have aT:Aq (Am w.heap.size w wr.drew):=aO.out.drew;clear HS;go_wp2_with fail
    go_roundw
    case rel=>exact⟨k+1,by omega,by go_num,dH,by first | exact aO | exact aT⟩
    case measure=>simp[Ap];omega
 obtain rfl:k=bs.length:=by omega
 have hR:r=Aw:=av.out.trans (we rfl);subst hR;go_wp2_with fail;go_ret;exact⟨-1,rfl,.inr ⟨rfl,rfl⟩,by first | exact aO.out | exact aO.out.drew⟩
end
section
open Go.RowKit Go.Shelf
attribute [local go_sem] Oper.semAt_some
theorem ZE(f:Fm)(R:Fm->Nat×Nat)(A:Bb)(c:Nat)(w:Ba)(hl:f.args.length<=1000000)(hb:(zN R f.args).1<=1000000/\(zN R f.args).2<=1000000)
  (dX:RecAt w A f.args fun cs x X=>An Al 35 #[.agg cs] X fun e w'=>e=Ak (.tuple #[O U ((R x).1:Int),O U ((R x).2:Int)])/\Am X.heap.size X w') :
  An Al 35 #[.agg (f.vs A c)] w fun e w'=>e=Ak (.tuple #[O U ((zN R f.args).1:Int),O U (((zN R f.args).2+1:Nat):Int)])/\Am w.heap.size w w':=by
 obtain⟨w1,ae,d0,aw,hB⟩:=zm w (f.vs A c) 32;have aX:=zH dX;have mH:=zH (fun k=>qU R f.args k);have rT:=zH (fun k (h:k<f.args.length)=>(by rw[Lq h,qV]:zN R (f.args.take (k+1))=((zN R (f.args.take k)).1+(R f.args[k]).1,max (zN R (f.args.take k)).2 (R f.args[k]).2)));have eM:Aq (zN R (f.args.take f.args.length)=zN R f.args):=by rw[Aq,LS]
 have rz:=zH hb;unfold Fm.vs at ae d0 aX ⊢;obtain⟨l,aN⟩:=Kk f.args;rw[aN] at ae d0 aX mH rT eM rz hl ⊢;obtain⟨T,hT⟩:=Kk (zN R l);rw[hT] at mH eM rz ⊢;obtain⟨n,hn⟩:=Kk l.length;have HN:=zH hn;rw[hn] at ae d0 eM hl ⊢;have ak:=zH ae;have HB:=zH hB;clear ae d0 hB dX hb aN hT hn;go_enter func35,ntmps35;go_wp2_with fail;rw[ak.out];go_wp2_with fail
 go_loopw [4,5,13] (fun a b i wr=>∃k:Nat,k<=n/\i=O U (k:Int)/\a=O U ((zN R (l.take k)).1:Int)/\b=O U ((zN R (l.take k)).2:Int)/\Aq (Am w1.heap.size w1 wr)) (fun _ _ i _=>n-(Ap i).toNat)
 case atStart=>exact⟨0,by omega,rfl,rfl,rfl,Li _ _⟩
 obtain⟨k,hk,rfl,rfl,rfl,bD⟩:=hrel;obtain⟨a,ha⟩:=Kk ((zN R (l.take k)).1);obtain⟨b,hb⟩:=Kk ((zN R (l.take k)).2)
 have SS:a<=1000000/\b<=1000000:=by
  have h1:=mH.out k;have h2:=rz.out;omega
 by_cases ac:k<n
 . have dy:k<l.length:=by have:=HN.out;omega
   have fl:=rT.out k dy;have Bu:=mH.out (k+1);obtain⟨bb,o,A',c',eA,cj,ap,aJ⟩:=aX.out k dy;subst eA;obtain⟨x,hx⟩:=Kk (l[k]);rw[hx] at ap aJ fl;obtain⟨Rx,CM⟩:=Kk (R x);dsimp only at aJ;rw[CM] at aJ fl;rw[ha,hb] at fl;have lz:(zN R (l.take (k+1))).1=a+Rx.1:=by rw[fl]
   have oE:(zN R (l.take (k+1))).2=max b Rx.2:=by rw[fl]
   have aq:=zH lz;have am:=zH oE
   have fU:a+Rx.1<=1000000/\max b Rx.2<=1000000:=by
    have h2:=rz.out;omega
   obtain⟨xh,xl⟩:=x;obtain⟨h0,h1,h2,h3,h4⟩:=xh;have hc:∀j v,#[O U h0,O U h1,O U h2,O U h3,O U h4,I A' xl.length c'][j]?=J v->wr.cell? ⟨bb,o+k*6+j,Z⟩=J v:=ap wr (HB.out.trans (bD.out.mono (by have:=HB.out.size;omega)));have z0:wr.cell? ⟨bb,o+k*6,Z⟩=J (O U h0):=hc 0 _ rfl;have z1:wr.cell? ⟨bb,o+k*6+1,Z⟩=J (O U h1):=hc 1 _ rfl;have z2:wr.cell? ⟨bb,o+k*6+2,Z⟩=J (O U h2):=hc 2 _ rfl;have z3:wr.cell? ⟨bb,o+k*6+3,Z⟩=J (O U h3):=hc 3 _ rfl;have z4:wr.cell? ⟨bb,o+k*6+4,Z⟩=J (O U h4):=hc 4 _ rfl;have z5:wr.cell? ⟨bb,o+k*6+5,Z⟩=J (I A' xl.length c'):=hc 5 _ rfl;have dS:(0:Int)<=(k:Int):=by omega
   have aW:(k:Int)<(n:Int):=by omega
   have HC:=zH aJ;have Dd:=zH bD.out;simp only[Fm.vs,Fm.args,Fm.h] at HC;go_upto_region 5 with fail
   obtain⟨W2,ij,d2,bQ,ah⟩:=zm wr #[O U h0,O U h1,O U h2,O U h3,O U h4,I A' xl.length c'] 32;rw[ij];have bN:=HB.out.size;have aT:=zH (Lc Dd.out ah);have dV:=zH (HC.out W2 (HB.out.trans (aT.out.mono bN)));obtain⟨y0,y1,y2,y3,y4,y5,_⟩:=Ki d2;obtain⟨r1,r2⟩:=Rx;dsimp only at dV aq am fU;go_wp2_with fail;refine dV.out.mono ?_;rintro e w3 ⟨rfl,al⟩;have bK:=zH (Lc aT.out al);have ae:IntKind.i64.wrap ((a:Int)+(r1:Int))=((a+r1:Nat):Int):=by rw[Ll];omega
   go_wp2_with fail
   go_roundw
   case rel=>exact⟨k+1,by omega,by go_num,by first | (rw[aq.out];done) | (rw[aq.out];go_num),by first | (rw[am.out];done) | (rw[am.out];go_num),bK⟩
   simp[Ap];omega
 obtain rfl:k=n:=by omega
 have h1:Aq (a=T.1):=by rw[Aq,<-ha,eM.out]
 have h2:Aq (b=T.2):=by rw[Aq,<-hb,eM.out]
 have mO:=zH (HB.out.trans (bD.out.mono (by have:=HB.out.size;omega)));have ae:IntKind.i64.wrap ((b:Int)+1)=((b+1:Nat):Int):=by rw[Ll];omega
 go_wp2_with fail
 go_ret2
 refine⟨?_,mO.out⟩;show Ak (.tuple #[O U ((zN R (l.take k)).1:Int),O U ((b:Int)+1)])=_;rw[<-h1.out,<-h2.out,ha];rfl
theorem YY:∀(d:Nat) (f:Fm) (A:Bb) (c:Nat) (w:Ba),FsAt w w.heap.size d A f.args->(zL d f).1<=1000000 ->
  An Al 35 #[.agg (f.vs A c)] w fun e w'=>e=Ak (.tuple #[O U ((zL d f).1:Int),O U ((zL d f).2:Int)])/\Am w.heap.size w w'
 | 0,f,A,c,w,hA,hb=>by
  have h0:f.args=[]:=hA;exact ZE f (fun _=>(0,0)) A c w (by rw[h0];decide) (by rw[h0];decide) (RecAt.none hA)
 | d+1,f,A,c,w,hA,hb=>by
  have h1:(zN (zL d) f.args).1<=1000000:=hb;have h2:(zN (zL d) f.args).2+1<=(zN (zL d) f.args).1:=kY (d+1) f;have h3:=qW (zL d) (ka d) f.args;refine ZE f (zL d) A c w (by omega) (by omega) (RecAt.of hA fun x A' c' X hx hX=>YY d x A' c' X hX ?_);exact Lr (uB (zL d) hx) h1
theorem few38_any(d:Nat)(f:Fm)(A:Bb)(c:Nat)(w:Ba)(hA:FsAt w w.heap.size d A f.args) :
  An Al 33 #[.agg (f.vs A c)] w fun e w'=>∃b,e=Ak (Ah b)/\(b=Au->(zL d f).1<140)/\Am w.heap.size w w':=by
 obtain⟨w1,ae,d0,aw,hB⟩:=zm w (f.vs A c) 32;have H1:=zH (QD d f A c w1 ((hA.keep hB).more hB.size));have H2:=zH (fun (hz:(zL d f).1<140) (X:Ba) (hX:Am w1.heap.size w1 X)=>light_any d f A c X ((((hA.keep hB).more hB.size).keep hX).more hX.size) (by omega));unfold wh at H2;unfold Fm.vs at ae d0 H1 H2 ⊢;obtain⟨z,hz⟩:=Kk ((zL d f).1);rw[hz] at H1 H2 ⊢;have ak:=zH ae;have HB:=zH hB;have HD:=zH d0;obtain⟨q0,q1,q2,q3,q4,q5,_⟩:=Ki (d0);clear ae d0 hB hA hz;go_enter func33,ntmps33;go_upto_region 1 with fail
 rw[ak.out];go_wp2_with fail;refine H1.out.mono ?_;rintro e w2 ⟨rfl,ah⟩;have aT:=zH (Lc HB.out ah);have mi:=La ah HD.out;obtain⟨q0,q1,q2,q3,q4,q5,_⟩:=Ki (mi)
 by_cases Hz:z<140
 . have HC:=zH (H2.out Hz w2 ah)
   rw[Lw Hz];clear ah mi;go_wp2_with fail;refine HC.out.mono ?_;rintro e w3 ⟨b3,rfl,al⟩;have bK:=zH (Lc aT.out al);clear al HC;go_wp2_with fail;go_ret;exact⟨b3,rfl,fun _=>Hz,bK.out⟩
 rw[Lu Hz];clear ah mi;go_wp2_with fail;go_ret;exact⟨Aw,rfl,fun h=>(by cases h),aT.out⟩
theorem ZR(s:Sy)(hs:LowS s)(hf:xu s.p)(out:List Int)(d:Nat)(f:Fm)(bL:(zL d f).1<=1000000)(h0:(ws s out d f).2=0)(aL:(ws s out d f).1.length<=100000)(A SV AV AX AF AR:Bb)(kc ks kv kx cf cr:Nat)(w:Ba)(hS:SyAt w w.heap.size A SV AV AX s)(hO:IAt w w.heap.size AR out)(hA:FsAt w w.heap.size d AF f.args) :
  An Al 18 #[.agg (s.vs_ A kc SV ks AV kv AX kx),Ai #[I AR out.length cr],.agg (f.vs AF cf)] w fun e w'=>∃i:Int,e=Ak (.tuple #[Ah (!((ws s out d f).1.any fun b=>!b)),O U i,O U 0])/\Am w.heap.size w w':=by
 obtain⟨wa,ec,da,ie,mc⟩:=zm w (s.vs_ A kc SV ks AV kv AX kx) 39;obtain⟨wb,fj,db,fM,iH⟩:=zm wa #[I AR out.length cr] 52;obtain⟨w1,ae,dc,oA,fz⟩:=zm wb (f.vs AF cf) 32;have hB:Am w.heap.size w w1:=(mc.trans (iH.mono (by omega))).trans (fz.mono (by omega));have da:w1.heap[w.heap.size]?=J (Ag (s.vs_ A kc SV ks AV kv AX kx) 39 (0,0)):=Lb fz (by omega) (Lb iH (by omega) da);have db:w1.heap[w.heap.size+1]?=J (Ag #[I AR out.length cr] 52 (0,0)):=by rw[<-ie];exact Lb fz (by omega) db
 have dc:w1.heap[w.heap.size+1+1]?=J (Ag (f.vs AF cf) 32 (0,0)):=by rw[<-ie,<-fM];exact dc
 have HC:=zH (Y7 s hs hf out d f bL A SV AV AX AF AR kc ks kv kx cf cr w1 (hS.up hB) ((hO.keep hB).more hB.size) ((hA.keep hB).more hB.size));obtain⟨E,hE⟩:=Kk (ws s out d f);rw[hE] at h0 aL HC ⊢;obtain⟨R,r⟩:=E;dsimp only at h0 aL ⊢;subst h0;have Bd:=zH (fun (A:Bb) (c:Nat) (X:Ba) (hX:BAt X X.heap.size A R)=>Jz A R c aL X hX);obtain⟨q,hq⟩:∃q,(R.any fun b=>!b)=q:=⟨_,rfl⟩;rw[hq] at Bd ⊢;unfold wi at HC;unfold RetIw at Bd;unfold Sy.vs_ at ec da HC ⊢;unfold Fm.vs at ae dc HC ⊢;have o8:=zH ec;have o7:=zH fj;have o5:=zH ae;have HB:=zH hB;obtain⟨p0,p1,p2,p3,p4,p5,p6,p7,p8,p9⟩:=zK (da);have r0:=zh db 0 rfl;obtain⟨q0,q1,q2,q3,q4,q5,_⟩:=Ki (dc);clear ec fj ae da db dc ie fM oA mc iH fz hB hS hO hA bL hE hs hf hq;go_enter func18,ntmps18;go_upto_region 1 with fail
 rw[o8.out,o7.out,o5.out];go_wp2_with fail;refine HC.out.mono ?_;rintro e w2 ⟨A2,c2,rfl,iC,_,ah⟩;have dV:=zH (Bd.out A2 c2 w2 iC);have aT:=zH (Lc HB.out ah);clear iC ah HC Bd;dsimp only;go_wp2_with fail;refine dV.out.mono ?_;rintro e w3 ⟨i,rfl,hi,al⟩;have bK:=zH (Lc aT.out al);clear al dV p0 p1 p2 p3 p4 p5 p6 p7 p8 p9 r0 q0 q1 q2 q3 q4 q5;rcases hi with ⟨rfl,hi⟩ | ⟨rfl,rfl⟩
 . go_wp2_with fail
   go_ret3
   exact⟨_,rfl,bK.out⟩
 go_wp2_with fail
 go_ret3
 exact⟨_,rfl,bK.out⟩
section
variable {P:Program}
theorem ya{fn:Func}{p u:Tmp}{ty:TypeId}(h:fn.results=#[.cell p ty,.tmp u])(tmps:Array Ar)(w:Ba)(g:Nat)(t:TypeId)(cs:Array Ar)(fr:Nat×Nat)(d:TypeDesc)
  (hp:tmps.getD p undef=Aj (J ⟨g,0,Z⟩)) (hg:w.heap[g]?=J (Ag cs t fr))
  (hu:P.underlying ty=J d) (hd:(match d with | .struct _ | .array _ _=>Au | _=>Aw)=Au) (hi:(P.info? ty).map (·.size)=J cs.size) (x:Ar) (hx:tmps.getD u undef=x) :
  (results fn tmps).run P w=.ok (.tuple #[.agg cs,x]) w:=by
 rw[results_cell_tmp h,hp,hx];simp[asAddr,Result.andThen,run_loadVar_row w g t ty cs fr d hg hu hd hi]
end
end
section
open Go.RowKit Go.Shelf
attribute [local go_sem] Oper.semAt_some
theorem vV{w:Ba}{g:Nat}{a0 a1 a2 a3 a4 a5 a6 a7 a8 a9:Ar}{t:TypeId}(h:w.heap[g]?=J (Ag #[a0,a1,a2,a3,a4,a5,a6,a7,a8,a9] t (0,0)))(v0 v1 v2 v3 v4 v5 v6 v7 v8 v9:Ar) :
  ∃W,((((((((((w.setCell ⟨g,0,Z⟩ v0).setCell ⟨g,1,Z⟩ v1).setCell ⟨g,2,Z⟩ v2).setCell ⟨g,3,Z⟩ v3).setCell ⟨g,4,Z⟩ v4).setCell ⟨g,5,Z⟩ v5).setCell ⟨g,6,Z⟩ v6).setCell ⟨g,7,Z⟩ v7).setCell ⟨g,8,Z⟩ v8).setCell ⟨g,9,Z⟩ v9)=W/\W.heap[g]?=J (Ag #[v0,v1,v2,v3,v4,v5,v6,v7,v8,v9] t (0,0))/\(∀k,k≠g->W.heap[k]?=w.heap[k]?)/\(∀B,B<=g->Am B w W)/\W.heap.size=w.heap.size:=by
 refine⟨_,rfl,?_,fun k hk=>?_,fun B hB=>?_,by simp[World.setCell]⟩
 . skip
   have k0:(w.setCell ⟨g,0,Z⟩ v0).heap[g]?=J (Ag #[v0,a1,a2,a3,a4,a5,a6,a7,a8,a9] t (0,0)):=Lk _ g 0 _ _ v0 h;have k1:((w.setCell ⟨g,0,Z⟩ v0).setCell ⟨g,1,Z⟩ v1).heap[g]?=J (Ag #[v0,v1,a2,a3,a4,a5,a6,a7,a8,a9] t (0,0)):=Lk _ g 1 _ _ v1 k0;have k2:(((w.setCell ⟨g,0,Z⟩ v0).setCell ⟨g,1,Z⟩ v1).setCell ⟨g,2,Z⟩ v2).heap[g]?=J (Ag #[v0,v1,v2,a3,a4,a5,a6,a7,a8,a9] t (0,0)):=Lk _ g 2 _ _ v2 k1;have k3:((((w.setCell ⟨g,0,Z⟩ v0).setCell ⟨g,1,Z⟩ v1).setCell ⟨g,2,Z⟩ v2).setCell ⟨g,3,Z⟩ v3).heap[g]?=J (Ag #[v0,v1,v2,v3,a4,a5,a6,a7,a8,a9] t (0,0)):=Lk _ g 3 _ _ v3 k2;have k4:(((((w.setCell ⟨g,0,Z⟩ v0).setCell ⟨g,1,Z⟩ v1).setCell ⟨g,2,Z⟩ v2).setCell ⟨g,3,Z⟩ v3).setCell ⟨g,4,Z⟩ v4).heap[g]?=J (Ag #[v0,v1,v2,v3,v4,a5,a6,a7,a8,a9] t (0,0)):=Lk _ g 4 _ _ v4 k3;have k5:((((((w.setCell ⟨g,0,Z⟩ v0).setCell ⟨g,1,Z⟩ v1).setCell ⟨g,2,Z⟩ v2).setCell ⟨g,3,Z⟩ v3).setCell ⟨g,4,Z⟩ v4).setCell ⟨g,5,Z⟩ v5).heap[g]?=J (Ag #[v0,v1,v2,v3,v4,v5,a6,a7,a8,a9] t (0,0)):=Lk _ g 5 _ _ v5 k4;have k6:(((((((w.setCell ⟨g,0,Z⟩ v0).setCell ⟨g,1,Z⟩ v1).setCell ⟨g,2,Z⟩ v2).setCell ⟨g,3,Z⟩ v3).setCell ⟨g,4,Z⟩ v4).setCell ⟨g,5,Z⟩ v5).setCell ⟨g,6,Z⟩ v6).heap[g]?=J (Ag #[v0,v1,v2,v3,v4,v5,v6,a7,a8,a9] t (0,0)):=Lk _ g 6 _ _ v6 k5
   have k7:((((((((w.setCell ⟨g,0,Z⟩ v0).setCell ⟨g,1,Z⟩ v1).setCell ⟨g,2,Z⟩ v2).setCell ⟨g,3,Z⟩ v3).setCell ⟨g,4,Z⟩ v4).setCell ⟨g,5,Z⟩ v5).setCell ⟨g,6,Z⟩ v6).setCell ⟨g,7,Z⟩ v7).heap[g]?=J (Ag #[v0,v1,v2,v3,v4,v5,v6,v7,a8,a9] t (0,0)):=Lk _ g 7 _ _ v7 k6;have k8:(((((((((w.setCell ⟨g,0,Z⟩ v0).setCell ⟨g,1,Z⟩ v1).setCell ⟨g,2,Z⟩ v2).setCell ⟨g,3,Z⟩ v3).setCell ⟨g,4,Z⟩ v4).setCell ⟨g,5,Z⟩ v5).setCell ⟨g,6,Z⟩ v6).setCell ⟨g,7,Z⟩ v7).setCell ⟨g,8,Z⟩ v8).heap[g]?=J (Ag #[v0,v1,v2,v3,v4,v5,v6,v7,v8,a9] t (0,0)):=Lk _ g 8 _ _ v8 k7;have k9:((((((((((w.setCell ⟨g,0,Z⟩ v0).setCell ⟨g,1,Z⟩ v1).setCell ⟨g,2,Z⟩ v2).setCell ⟨g,3,Z⟩ v3).setCell ⟨g,4,Z⟩ v4).setCell ⟨g,5,Z⟩ v5).setCell ⟨g,6,Z⟩ v6).setCell ⟨g,7,Z⟩ v7).setCell ⟨g,8,Z⟩ v8).setCell ⟨g,9,Z⟩ v9).heap[g]?=J (Ag #[v0,v1,v2,v3,v4,v5,v6,v7,v8,v9] t (0,0)):=Lk _ g 9 _ _ v9 k8;exact k9
 . exact(Lf _ ⟨g,9,Z⟩ v9 k hk).trans ((Lf _ ⟨g,8,Z⟩ v8 k hk).trans ((Lf _ ⟨g,7,Z⟩ v7 k hk).trans ((Lf _ ⟨g,6,Z⟩ v6 k hk).trans ((Lf _ ⟨g,5,Z⟩ v5 k hk).trans ((Lf _ ⟨g,4,Z⟩ v4 k hk).trans ((Lf _ ⟨g,3,Z⟩ v3 k hk).trans ((Lf _ ⟨g,2,Z⟩ v2 k hk).trans ((Lf _ ⟨g,1,Z⟩ v1 k hk).trans (Lf _ ⟨g,0,Z⟩ v0 k hk)))))))))
 have b0:=(Li B w).setCell (p:=⟨g,0,Z⟩) hB v0;have b1:=b0.setCell (p:=⟨g,1,Z⟩) hB v1;have b2:=b1.setCell (p:=⟨g,2,Z⟩) hB v2;have b3:=b2.setCell (p:=⟨g,3,Z⟩) hB v3;have b4:=b3.setCell (p:=⟨g,4,Z⟩) hB v4;have b5:=b4.setCell (p:=⟨g,5,Z⟩) hB v5;have b6:=b5.setCell (p:=⟨g,6,Z⟩) hB v6;have b7:=b6.setCell (p:=⟨g,7,Z⟩) hB v7;have b8:=b7.setCell (p:=⟨g,8,Z⟩) hB v8;have b9:=b8.setCell (p:=⟨g,9,Z⟩) hB v9;exact b9
def okTry(n:Int)(d:Nat)(f:Fm):Prop:=inD d f/\qw n d f=0/\(zL d f).1<=12/\(zL d f).2<=6
def RetTry(p:Pb)(l:List Fm)(d:Nat)(w:Ba)(e:Ending)(w':Ba):Prop:=∃(T:Sy) (AC SV AV AX:Bb) (kc ks kv kx:Nat) (b:Bool),e=Ak (.tuple #[.agg (T.vs_ AC kc SV ks AV kv AX kx),Ah b])/\Am w.heap.size w w' /\
 (b=Au->qd p=Au/\T=(zT p).1/\SyAt w' w'.heap.size AC SV AV AX T/\∀f∈l,okTry p.t.n d f)
theorem RetTry.zero{p:Pb}{l:List Fm}{d:Nat}{w w':Ba}(h:Am w.heap.size w w'):RetTry p l d w (Ak (.tuple #[Ai #[O U 0,O U 0,O U 0,I Z 0 0,O U 0,I Z 0 0,O U 0,O U 0,I Z 0 0,I Z 0 0],Ah Aw])) w':=⟨qo,Z,Z,Z,Z,0,0,0,0,Aw,rfl,h,fun h=>(by cases h)⟩
theorem kI(p:Pb)(hl:Zq p)(A SV AL:Bb)(kc ks cl d:Nat)(l:List Fm)(aN:l.length<=1000)(w:Ba)(hA:CAt w w.heap.size A p.t.cases)(hS:SAt w w.heap.size SV p.a.sts)(hL:FsAt w w.heap.size (d+1) AL l) :
  An Al 8 #[.agg (p.vs A kc SV ks),I AL l.length cl] w (RetTry p l d w):=by
 obtain⟨wa,ec,da,ie,mc⟩:=zm w (p.vs A kc SV ks) 29;obtain⟨w1,ae,db,fM,iH⟩:=zm wa #[O U 0,O U 0,O U 0,I Z 0 0,O U 0,I Z 0 0,O U 0,O U 0,I Z 0 0,I Z 0 0] 39;have hB:Am w.heap.size w w1:=mc.trans (iH.mono (by omega));have da:w1.heap[w.heap.size]?=J (Ag (p.vs A kc SV ks) 29 (0,0)):=Lb iH (by omega) da;rw[ie] at db;have cY:w1.heap.size=w.heap.size+2:=by omega
 have EU:Aq (∀X,Am w1.heap.size w1 X->CAt X w.heap.size A p.t.cases/\SAt X w.heap.size SV p.a.sts):=fun X hX=>⟨hA.keep (Lc hB hX),hS.keep (Lc hB hX)⟩
 have Tv:=zH (right_any p hl A kc SV ks w1 ((hA.keep hB).more hB.size) ((hS.keep hB).more hB.size));have Df:Aq (∀X,Am w1.heap.size w1 X->FsAt X X.heap.size (d+1) AL l):=fun X hX=>(((hL.keep hB).more hB.size).keep hX).more hX.size
 have mg:Aq (∀f∈l,inD d f):=Yn (f:=Fm.mk ⟨0,0,0,0,0⟩ l) hL;have Dk:=zH (fun (h:qd p=Au) (X:Ba) (hX:Am w1.heap.size w1 X)=>YK p (few_x (by unfold qd at h;rw[LB] at h;exact h.1)).1 A kc SV ks X w.heap.size (by have:=hX.size;omega) (EU.out X hX).1 (EU.out X hX).2)
 have tk:Aq (qd p=Au->(zT p).2=0/\(zT p).1.n=p.t.n):=fun h=>by
  unfold qd at h;rw[LB,Pt] at h;refine⟨h.2,?_⟩
  by_cases h0:zV p=0
  case neg=>rw[xm h0] at h;exact absurd h.2 h0
  case pos=>
   by_cases h1:4096<yh p
   . rw[xA h0 h1] at h;cases h.2
   . rw[qy h0 (by omega)];rfl
 have aY:Aq (∀X,Am w1.heap.size w1 X->X.heap[w.heap.size]?=J (Ag #[O U p.t.n,O U p.t.ins,O U p.t.outs,I A p.t.cases.length kc,O U p.a.n,I SV p.a.sts.length ks,O U p.k] 29 (0,0))/\X.heap[w.heap.size+1]?=J (Ag #[O U 0,O U 0,O U 0,I Z 0 0,O U 0,I Z 0 0,O U 0,O U 0,I Z 0 0,I Z 0 0] 39 (0,0))):=fun X hX=>⟨Lb hX (by omega) da,Lb hX (by omega) db⟩
 unfold Pb.vs at ec Tv Dk ⊢;have o8:=zH ec;have ak:=zH ae;have HB:=zH hB;have HZ:=zH cY;obtain⟨rb,UT⟩:=Kk (qd p);have rp:=zH UT;rw[UT] at Tv Dk tk;obtain⟨D0,D1⟩:=aY.out w1 (Li _ _);obtain⟨p0,p1,p2,p3,p4,p5,p6,_⟩:=Kg (D0);clear ec ae da db ie fM mc iH hB hA hS hL hl UT D0 D1;go_enter func8,ntmps8;go_upto_region 1 with fail
 rw[o8.out,ak.out];go_wp2_with fail;refine Tv.out.mono ?_;rintro e w2 ⟨rfl,ah⟩;have G2:=zH ah;obtain⟨D0,D1⟩:=aY.out _ G2.out;clear ah Tv p0 p1 p2 p3 p4 p5 p6
 cases rb with
 | false=>
  have E1:=zH D1;obtain⟨r0,r1,r2,r3,r4,r5,r6,r7,r8,r9⟩:=zK (D1);have g0:=zi (D1) 0;have g1:=zi (D1) 1;have g2:=zi (D1) 2;have g3:=zi (D1) 3;have g4:=zi (D1) 4;have g5:=zi (D1) 5;have g6:=zi (D1) 6;have g7:=zi (D1) 7;have g8:=zi (D1) 8;have g9:=zi (D1) 9;have cF:=zH (Lc HB.out G2.out);clear D0 D1 Dk tk rp aY Df mg EU;go_wp2_with fail;obtain⟨WF,cM,f1,f2,f3,f4⟩:=vV E1.out (O U 0) (O U 0) (O U 0) (I Z 0 0) (O U 0) (I Z 0 0) (O U 0) (O U 0) (I Z 0 0) (I Z 0 0);rw[cM]
  (try simp only[Exit.inBlock,Exit.then])
  refine LI (ya (P:=Al) rfl _ _ (w.heap.size+1) 39 _ (0,0) _ rfl f1 N7 rfl (by kernel_rfl) _ rfl) rfl ?_;exact RetTry.zero (cF.out.trans (f3 _ (by omega)))
 | true=>
 clear D0 D1;go_wp2_with fail
 go_loopw [18] (fun i wr=>∃k:Nat,k<=l.length/\i=O U (k:Int)/\Aq (∀j (hj:j<l.length),j<k->okTry p.t.n d l[j])/\Aq (Am w1.heap.size w1 wr)) (fun i _=>l.length-(Ap i).toNat)
 case atStart=>exact⟨0,by omega,rfl,fun j _ hj=>absurd hj (by omega),G2⟩
 obtain⟨k,hk,rfl,dp,aO⟩:=hrel;have pm:IntKind.i64.wrap ((k:Int)+1)=((k+1:Nat):Int):=by rw[Ll];omega
 by_cases ac:k<l.length
 . obtain⟨bf,of,eA,DZ,oM⟩:=Df.out wr aO.out (by omega)
   obtain⟨A',c',oD,DU⟩:=oM k ac;obtain⟨x,hx⟩:=Kk (l[k]);have dD:inD d x:=by rw[<-hx];exact mg.out _ (Le ac)
   rw[hx] at oD DU
   have Hb:Aq (qw p.t.n d x=0->(zL d x).1<=12->(zL d x).2<=6->∀j (hj:j<l.length),j<k+1->okTry p.t.n d l[j]):=fun h1 h2 h3 j hj F8=>by
    by_cases e:j=k
    . subst e;rw[hx];exact⟨dD,h1,h2,h3⟩
    . exact dp.out j hj (by omega)
   have pF:=zH (fun (X:Ba) (hX:Am wr.heap.size wr X)=>few38_any d x A' c' X ((DU.keep hX).more hX.size));have O0:=zH (fun (hz:(zL d x).1<140) (X:Ba) (hX:Am wr.heap.size wr X)=>ui p.t.n d x A' c' X ((DU.keep hX).more hX.size) (by omega));have pb:=zH (fun (hz:(zL d x).1<140) (X:Ba) (hX:Am wr.heap.size wr X)=>YY d x A' c' X ((DU.keep hX).more hX.size) (by omega));obtain⟨M,hM⟩:=Kk (qw p.t.n d x);obtain⟨Ae,hZ⟩:=Kk (zL d x);rw[hM,hZ] at Hb;rw[hM,hZ] at O0;rw[hZ] at pF pb;obtain⟨Z1,Z2⟩:=Ae;have hZ2:Z2<=Z1:=by have:=kY d x;rw[hZ] at this;exact this
   dsimp only at Hb O0 pF pb;obtain⟨⟨h0,h1,h2,h3,h4⟩,xl⟩:=x;have hc:∀j' v,#[O U h0,O U h1,O U h2,O U h3,O U h4,I A' xl.length c'][j']?=J v->wr.cell? ⟨bf,of+k*6+j',Z⟩=J v:=oD;have z0:wr.cell? ⟨bf,of+k*6,Z⟩=J (O U h0):=hc 0 _ rfl;have z1:wr.cell? ⟨bf,of+k*6+1,Z⟩=J (O U h1):=hc 1 _ rfl;have z2:wr.cell? ⟨bf,of+k*6+2,Z⟩=J (O U h2):=hc 2 _ rfl;have z3:wr.cell? ⟨bf,of+k*6+3,Z⟩=J (O U h3):=hc 3 _ rfl;have z4:wr.cell? ⟨bf,of+k*6+4,Z⟩=J (O U h4):=hc 4 _ rfl;have z5:wr.cell? ⟨bf,of+k*6+5,Z⟩=J (I A' xl.length c'):=hc 5 _ rfl;have dS:(0:Int)<=(k:Int):=by omega
   have aW:(k:Int)<(l.length:Int):=by omega
   have oz:w1.heap.size<=wr.heap.size:=aO.out.size;simp only[Fm.vs,Fm.args,Fm.h] at pF O0 pb;clear oD DU oM hc dD hM hZ hx dp;subst eA;go_upto_region 6 with fail
   obtain⟨W5,iG,d5,cZ,aj⟩:=zm wr #[O U h0,O U h1,O U h2,O U h3,O U h4,I A' xl.length c'] 32;rw[iG];have B5:=zH aj;have G5:=zH (aO.out.trans (aj.mono oz));have HC:=zH (pF.out W5 aj);have HFB:Aq (∀X,Am W5.heap.size W5 X->X.heap[wr.heap.size]?=J (Ag #[O U h0,O U h1,O U h2,O U h3,O U h4,I A' xl.length c'] 32 (0,0))):=fun X hX=>Lb hX (by omega) d5
   have q0:=zh (aY.out _ G5.out).1 0 rfl;obtain⟨y0,y1,y2,y3,y4,y5,_⟩:=Ki (d5);clear iG d5 aj z0 z1 z2 z3 z4 z5 pF cZ;have VR:=B5.out.size;go_wp2_with fail;refine HC.out.mono ?_;rintro e w6 ⟨b6,rfl,hz6,dj⟩;have G6:=zH (Lc G5.out dj);have B6:=zH (B5.out.trans (dj.mono VR));have F6:=zH dj;clear HC dj q0 y0 y1 y2 y3 y4 y5
   cases b6 with
   | false=>
    have dp:Aq True:=trivial;have E1:=zH (aY.out _ G6.out).2;obtain⟨r0,r1,r2,r3,r4,r5,r6,r7,r8,r9⟩:=zK (E1.out);have g0:=zi (E1.out) 0;have g1:=zi (E1.out) 1;have g2:=zi (E1.out) 2;have g3:=zi (E1.out) 3;have g4:=zi (E1.out) 4;have g5:=zi (E1.out) 5;have g6:=zi (E1.out) 6;have g7:=zi (E1.out) 7;have g8:=zi (E1.out) 8;have g9:=zi (E1.out) 9;have cF:=zH (Lc HB.out G6.out);clear Dk tk rp aY Df mg EU dp;go_wp2_with fail;obtain⟨WF,cM,f1,f2,f3,f4⟩:=vV E1.out (O U 0) (O U 0) (O U 0) (I Z 0 0) (O U 0) (I Z 0 0) (O U 0) (O U 0) (I Z 0 0) (I Z 0 0);rw[cM]
    (try simp only[Exit.inBlock,Exit.then])
    refine LI (ya (P:=Al) rfl _ _ (w.heap.size+1) 39 _ (0,0) _ rfl f1 N7 rfl (by kernel_rfl) _ rfl) rfl ?_;exact RetTry.zero (cF.out.trans (f3 _ (by omega)))
   | true=>
   have Ds:=hz6 rfl;have HC:=zH (O0.out Ds w6 B6.out);have q0:=zh (aY.out _ G6.out).1 0 rfl;have Mk:=HFB.out _ F6.out;obtain⟨y0,y1,y2,y3,y4,y5,_⟩:=Ki (Mk);clear O0 Mk;go_wp2_with fail;refine HC.out.mono ?_;rintro e w7 ⟨rfl,dk⟩;have G7:=zH (Lc G6.out dk);have B7:=zH (Lc B6.out dk);have F7:=zH (Lc F6.out dk);clear HC dk q0 y0 y1 y2 y3 y4 y5
   by_cases hM:M=0
   case neg=>
    have e0:(M != 0)=Au:=by simpa using hM
    have dp:Aq True:=trivial;have E1:=zH (aY.out _ G7.out).2;obtain⟨r0,r1,r2,r3,r4,r5,r6,r7,r8,r9⟩:=zK (E1.out);have g0:=zi (E1.out) 0;have g1:=zi (E1.out) 1;have g2:=zi (E1.out) 2;have g3:=zi (E1.out) 3;have g4:=zi (E1.out) 4;have g5:=zi (E1.out) 5;have g6:=zi (E1.out) 6;have g7:=zi (E1.out) 7;have g8:=zi (E1.out) 8;have g9:=zi (E1.out) 9;have cF:=zH (Lc HB.out G7.out);clear Dk tk rp aY Df mg EU dp;go_wp2_with fail;obtain⟨WF,cM,f1,f2,f3,f4⟩:=vV E1.out (O U 0) (O U 0) (O U 0) (I Z 0 0) (O U 0) (I Z 0 0) (O U 0) (O U 0) (I Z 0 0) (I Z 0 0);rw[cM]
    (try simp only[Exit.inBlock,Exit.then])
    refine LI (ya (P:=Al) rfl _ _ (w.heap.size+1) 39 _ (0,0) _ rfl f1 N7 rfl (by kernel_rfl) _ rfl) rfl ?_;exact RetTry.zero (cF.out.trans (f3 _ (by omega)))
   subst hM;have HC:=zH (pb.out Ds w7 B7.out);have Mk:=HFB.out _ F7.out;obtain⟨y0,y1,y2,y3,y4,y5,_⟩:=Ki (Mk);clear pb Mk;go_wp2_with fail;refine HC.out.mono ?_;rintro e w8 ⟨rfl,du⟩;have G8:=zH (Lc G7.out du);clear HC du y0 y1 y2 y3 y4 y5
   by_cases h12:12<Z1
   . have BE:(12:Int)<(Z1:Int):=by omega
     have dp:Aq True:=trivial;have E1:=zH (aY.out _ G8.out).2;obtain⟨r0,r1,r2,r3,r4,r5,r6,r7,r8,r9⟩:=zK (E1.out);have g0:=zi (E1.out) 0;have g1:=zi (E1.out) 1;have g2:=zi (E1.out) 2;have g3:=zi (E1.out) 3;have g4:=zi (E1.out) 4;have g5:=zi (E1.out) 5;have g6:=zi (E1.out) 6;have g7:=zi (E1.out) 7;have g8:=zi (E1.out) 8;have g9:=zi (E1.out) 9;have cF:=zH (Lc HB.out G8.out);clear Dk tk rp aY Df mg EU dp;go_wp2_with fail;obtain⟨WF,cM,f1,f2,f3,f4⟩:=vV E1.out (O U 0) (O U 0) (O U 0) (I Z 0 0) (O U 0) (I Z 0 0) (O U 0) (O U 0) (I Z 0 0) (I Z 0 0);rw[cM]
     (try simp only[Exit.inBlock,Exit.then])
     refine LI (ya (P:=Al) rfl _ _ (w.heap.size+1) 39 _ (0,0) _ rfl f1 N7 rfl (by kernel_rfl) _ rfl) rfl ?_;exact RetTry.zero (cF.out.trans (f3 _ (by omega)))
   have BE:¬(12:Int)<(Z1:Int):=by omega
   by_cases h6:6<Z2
   . have e6:(6:Int)<(Z2:Int):=by omega
     have dp:Aq True:=trivial;have E1:=zH (aY.out _ G8.out).2;obtain⟨r0,r1,r2,r3,r4,r5,r6,r7,r8,r9⟩:=zK (E1.out);have g0:=zi (E1.out) 0;have g1:=zi (E1.out) 1;have g2:=zi (E1.out) 2;have g3:=zi (E1.out) 3;have g4:=zi (E1.out) 4;have g5:=zi (E1.out) 5;have g6:=zi (E1.out) 6;have g7:=zi (E1.out) 7;have g8:=zi (E1.out) 8;have g9:=zi (E1.out) 9;have cF:=zH (Lc HB.out G8.out);clear Dk tk rp aY Df mg EU dp;go_wp2_with fail;obtain⟨WF,cM,f1,f2,f3,f4⟩:=vV E1.out (O U 0) (O U 0) (O U 0) (I Z 0 0) (O U 0) (I Z 0 0) (O U 0) (O U 0) (I Z 0 0) (I Z 0 0);rw[cM]
     (try simp only[Exit.inBlock,Exit.then])
     refine LI (ya (P:=Al) rfl _ _ (w.heap.size+1) 39 _ (0,0) _ rfl f1 N7 rfl (by kernel_rfl) _ rfl) rfl ?_;exact RetTry.zero (cF.out.trans (f3 _ (by omega)))
   have e6:¬(6:Int)<(Z2:Int):=by omega
   have nZ:=zH (Hb.out (by simp) (by omega) (by omega));go_wp2_with fail
   go_roundw
   case rel=>exact⟨k+1,by omega,by go_num,nZ,G8⟩
   simp[Ap];omega
 obtain rfl:l.length=k:=by omega
 have aW:¬(l.length:Int)<(l.length:Int):=by omega
 have HC:=zH (Dk.out (by simp) wr aO.out);obtain⟨Cq,St⟩:=tk.out (by simp);obtain⟨RB,Wn⟩:=Kk (zT p);rw[Wn] at HC Cq St;have f':Aq (RB.1=(zT p).1):=by rw[Aq,Wn]
 obtain⟨T,r⟩:=RB;dsimp only at Cq St HC f';subst Cq;have AN:=zH St;obtain⟨D0,D1⟩:=aY.out _ aO.out;obtain⟨p0,p1,p2,p3,p4,p5,p6,_⟩:=Kg (D0);clear D0 D1 Wn Dk tk Df mg EU St;go_wp2_with fail;refine HC.out.mono ?_;rintro e w7 ⟨A2,dn,dw,dm,AV,kv,AX,kx,rfl,re,_,_,dk⟩;have G7:=zH (Lc aO.out dk);have ia:=zH re;have EG:Aq (w1.heap.size<=wr.heap.size):=aO.out.size;unfold Sy.vs_;clear dk re HC p0 p1 p2 p3 p4 p5 p6;dsimp only;go_upto_region 13 with fail
 obtain⟨w8,Dw,d8,nc,du⟩:=zm w7 #[O U T.p.t.n,O U T.p.t.ins,O U T.p.t.outs,I A2 T.p.t.cases.length dn,O U T.p.a.n,I dw T.p.a.sts.length dm,O U T.p.k,O U T.n,I AV T.vs.length kv,I AX T.xs.length kx] 39;rw[Dw];have hd8:Am w8.heap.size w8 w8.drew:=(Li _ w8).drew;have WS:Am w7.heap.size w7 w8.drew:=du.trans (hd8.mono (by omega));have G8:=zH (Lc G7.out WS);have Tt:Aq (w1.heap.size<=w7.heap.size/\w8.heap.size=w7.heap.size+1):=⟨G7.out.size,nc⟩;have HSM:Aq (∀k,k<w7.heap.size->w8.heap[k]?=w7.heap[k]?):=fun k hk=>WS.block k hk
 have ai:Aq (w8.drew.heap[w7.heap.size]?=J (Ag #[O U T.p.t.n,O U T.p.t.ins,O U T.p.t.outs,I A2 T.p.t.cases.length dn,O U T.p.a.n,I dw T.p.a.sts.length dm,O U T.p.k,O U T.n,I AV T.vs.length kv,I AX T.xs.length kx] 39 (0,0))/\w8.drew.heap[w.heap.size]?=J (Ag #[O U p.t.n,O U p.t.ins,O U p.t.outs,I A p.t.cases.length kc,O U p.a.n,I SV p.a.sts.length ks,O U p.k] 29 (0,0))):=⟨d8,(aY.out _ G8.out).1⟩;have E1:Aq (w8.heap[w.heap.size+1]?=J (Ag #[O U 0,O U 0,O U 0,I Z 0 0,O U 0,I Z 0 0,O U 0,O U 0,I Z 0 0,I Z 0 0] 39 (0,0))):=(aY.out _ G8.out).2;have cF:Aq (Am w.heap.size w w8):=HB.out.trans ((Lc G7.out du).mono HB.out.size);obtain⟨r0,r1,r2,r3,r4,r5,r6,r7,r8,r9⟩:=zK (E1.out);have g0:=zi (E1.out) 0;have g1:=zi (E1.out) 1;have g2:=zi (E1.out) 2;have g3:=zi (E1.out) 3;have g4:=zi (E1.out) 4;have g5:=zi (E1.out) 5;have g6:=zi (E1.out) 6;have g7:=zi (E1.out) 7;have g8:=zi (E1.out) 8;have g9:=zi (E1.out) 9;clear Dw d8 nc du hd8 WS G8;have hxx:((T.n:Int)==p.t.n)=Au:=by rw[AN.out];simp
 by_cases h16:T.xs.length<=16
 . have CX:(T.xs.length:Int)<=16:=by omega
   refine zt [(0,Au),(1,Au),(2,Au),(3,Au),(4,Au),(5,Au),(6,Au),(7,Au),(8,Au),(9,Au),(10,Au),(11,Au),(12,Au),(13,Au),(14,Au),(15,Au),(16,Au),(17,Au),(18,Aw),(19,Aw)] (fun X=>X.heap[w7.heap.size]?=J (Ag #[O U T.p.t.n,O U T.p.t.ins,O U T.p.t.outs,I A2 T.p.t.cases.length dn,O U T.p.a.n,I dw T.p.a.sts.length dm,O U T.p.k,O U T.n,I AV T.vs.length kv,I AX T.xs.length kx] 39 (0,0))/\X.heap[w.heap.size]?=J (Ag #[O U p.t.n,O U p.t.ins,O U p.t.outs,I A p.t.cases.length kc,O U p.a.n,I SV p.a.sts.length ks,O U p.k] 29 (0,0))) (by kernel_rfl) (by kernel_rfl) ai.out ?_
   repeat
    apply zj rfl
    . rintro K' aa X ⟨u1,u2⟩
      obtain⟨x0,x1,x2,x3,x4,x5,x6,x7,x8,x9⟩:=zK (u1);have v0:=zh u2 0 rfl;rw[AN.out] at x7;clear u1 u2;go_simp;exact aa
   refine zn rfl ?_;intro K' aa;go_simp;obtain⟨WF,cM,f1,f2,f3,f4⟩:=vV E1.out (O U T.p.t.n) (O U T.p.t.ins) (O U T.p.t.outs) (I A2 T.p.t.cases.length dn) (O U T.p.a.n) (I dw T.p.a.sts.length dm) (O U T.p.k) (O U p.t.n) (I AV T.vs.length kv) (I AX T.xs.length kx);rw[cM];have Hz:=HZ.out;have DB:=Tt.out;have OL:Aq (WF.drew.heap[w7.heap.size]?=J (Ag #[O U T.p.t.n,O U T.p.t.ins,O U T.p.t.outs,I A2 T.p.t.cases.length dn,O U T.p.a.n,I dw T.p.a.sts.length dm,O U T.p.k,O U T.n,I AV T.vs.length kv,I AX T.xs.length kx] 39 (0,0))/\WF.drew.heap[w.heap.size]?=J (Ag #[O U p.t.n,O U p.t.ins,O U p.t.outs,I A p.t.cases.length kc,O U p.a.n,I SV p.a.sts.length ks,O U p.k] 29 (0,0))):=⟨(f2 _ (by omega)).trans ai.out.1,(f2 _ (by omega)).trans ai.out.2⟩;refine aa _ _ OL.out ?_;clear aa K';refine zn rfl ?_;intro K' aa;go_simp;refine aa _ _ OL.out ?_;refine zy ?_;clear aa K';go_wp2_with fail
   (try simp only[Exit.inBlock,Exit.then])
   refine LI (ya (P:=Al) rfl _ _ (w.heap.size+1) 39 _ (0,0) _ rfl (show WF.drew.heap[w.heap.size+1]?=_ from f1) N7 rfl (by kernel_rfl) _ rfl) rfl ?_;have fw:Am w.heap.size w8 WF.drew:=(f3 _ (by omega)).drew;refine⟨T,A2,dw,AV,AX,dn,dm,kv,kx,Au,by unfold Sy.vs_;rw[AN.out];rfl,cF.out.trans fw,fun _=>⟨rp.out,f'.out,?_,fun f hf=>?_⟩⟩
   . have hz:=HZ.out
     have fq:=Tt.out;have pM:=EG.out;refine ia.out WF.drew (by show w7.heap.size<=WF.heap.size;omega) fun k aW iZ=>(f2 k (by omega)).trans (HSM.out k iZ)
   obtain⟨i,hi,rfl⟩:=LP hf;exact dp.out i hi hi
 have CX:¬(T.xs.length:Int)<=16:=by omega
 refine zt [(0,Au),(1,Au),(2,Au),(3,Au),(4,Au),(5,Au),(6,Au),(7,Au),(8,Au),(9,Au),(10,Au),(11,Au),(12,Au),(13,Au),(14,Au),(15,Au),(16,Au),(17,Au),(18,Aw),(19,Aw)] (fun X=>X.heap[w7.heap.size]?=J (Ag #[O U T.p.t.n,O U T.p.t.ins,O U T.p.t.outs,I A2 T.p.t.cases.length dn,O U T.p.a.n,I dw T.p.a.sts.length dm,O U T.p.k,O U T.n,I AV T.vs.length kv,I AX T.xs.length kx] 39 (0,0))/\X.heap[w.heap.size]?=J (Ag #[O U p.t.n,O U p.t.ins,O U p.t.outs,I A p.t.cases.length kc,O U p.a.n,I SV p.a.sts.length ks,O U p.k] 29 (0,0))) (by kernel_rfl) (by kernel_rfl) ai.out ?_
 repeat
  apply zj rfl
  . rintro K' aa X ⟨u1,u2⟩
    obtain⟨x0,x1,x2,x3,x4,x5,x6,x7,x8,x9⟩:=zK (u1);have v0:=zh u2 0 rfl;rw[AN.out] at x7;clear u1 u2;go_simp;exact aa
 refine zn rfl ?_;intro K' aa;go_simp;obtain⟨WF,cM,f1,f2,f3,f4⟩:=vV E1.out (O U T.p.t.n) (O U T.p.t.ins) (O U T.p.t.outs) (I A2 T.p.t.cases.length dn) (O U T.p.a.n) (I dw T.p.a.sts.length dm) (O U T.p.k) (O U p.t.n) (I AV T.vs.length kv) (I AX T.xs.length kx);rw[cM];have Hz:=HZ.out;have DB:=Tt.out;have OL:Aq (WF.drew.heap[w7.heap.size]?=J (Ag #[O U T.p.t.n,O U T.p.t.ins,O U T.p.t.outs,I A2 T.p.t.cases.length dn,O U T.p.a.n,I dw T.p.a.sts.length dm,O U T.p.k,O U T.n,I AV T.vs.length kv,I AX T.xs.length kx] 39 (0,0))/\WF.drew.heap[w.heap.size]?=J (Ag #[O U p.t.n,O U p.t.ins,O U p.t.outs,I A p.t.cases.length kc,O U p.a.n,I SV p.a.sts.length ks,O U p.k] 29 (0,0))):=⟨(f2 _ (by omega)).trans ai.out.1,(f2 _ (by omega)).trans ai.out.2⟩;refine aa _ _ OL.out ?_;clear aa K';refine zn rfl ?_;intro K' aa;go_simp;refine aa _ _ OL.out ?_;refine zy ?_;clear aa K';go_wp2_with fail
 (try simp only[Exit.inBlock,Exit.then])
 refine LI (ya (P:=Al) rfl _ _ (w.heap.size+1) 39 _ (0,0) _ rfl (show WF.drew.heap[w.heap.size+1]?=_ from f1) N7 rfl (by kernel_rfl) _ rfl) rfl ?_;have fw:Am w.heap.size w8 WF.drew:=(f3 _ (by omega)).drew;refine⟨T,A2,dw,AV,AX,dn,dm,kv,kx,Aw,by unfold Sy.vs_;rw[AN.out];rfl,cF.out.trans fw,fun _=>⟨rp.out,f'.out,?_,fun f hf=>?_⟩⟩
 . have hz:=HZ.out
   have fq:=Tt.out;have pM:=EG.out;refine ia.out WF.drew (by show w7.heap.size<=WF.heap.size;omega) fun k aW iZ=>(f2 k (by omega)).trans (HSM.out k iZ)
 obtain⟨i,hi,rfl⟩:=LP hf;exact dp.out i hi hi
end
section
open Go.RowKit
theorem J4{R R':Fm->Nat×Nat}{l:List Fm}(h:∀x∈l,R x=R' x):zN R l=zN R' l:=by
 unfold zN
 generalize ((1,0):Nat×Nat)=a
 induction l generalizing a with
 | nil=>rfl
 | cons x l ih=>
  rw[Pg,Pg,h x (by simp)];exact ih (fun y hy=>h y (by simp[hy])) _
theorem sizF_up:∀ {d:Nat} {f:Fm},inD d f->zL (d+1) f=zL d f
 | 0,f,h=>by
  have h:f.args=[]:=h;show((zN (zL 0) f.args).1,(zN (zL 0) f.args).2+1)=((zN (fun _=>(0,0)) f.args).1,(zN (fun _=>(0,0)) f.args).2+1);rw[h];rfl
 | d+1,f,h=>by
  show((zN (zL (d+1)) f.args).1,(zN (zL (d+1)) f.args).2+1)=((zN (zL d) f.args).1,(zN (zL d) f.args).2+1);rw[J4 fun x hx=>sizF_up (h x hx)]
theorem kD{d d':Nat}{f:Fm}(h:inD d f)(hd:d<=d'):zL d' f=zL d f:=by
 induction hd with
 | refl=>rfl
 | step ed ih=>rw[sizF_up (X7 h ed),ih]
theorem QR(n:Nat):∀ {d:Nat} {f:Fm},inD d f->yJ n (d+1) f=yJ n d f
 | 0,f,h=>by
  have h:f.args=[]:=h;show vx n (yJ n 0) f=vx n (fun _=>0) f;unfold vx;rw[h];rfl
 | d+1,f,h=>by
  show vx n (yJ n (d+1)) f=vx n (yJ n d) f;unfold vx;rw[NW fun x hx=>QR n (h x hx)]
theorem kj(n:Nat){d d':Nat}{f:Fm}(h:inD d f)(hd:d<=d'):yJ n d' f=yJ n d f:=by
 induction hd with
 | refl=>rfl
 | step ed ih=>rw[QR n (X7 h ed),ih]
structure OkF(n d:Nat)(f:Fm)(a b:Nat):Prop where
 deep:inD d f
 nod:yJ n d f=0
 size:(zL d f).1<=a
 depth:(zL d f).2<=b
theorem OkF.up{n d a b:Nat}{f:Fm}(h:OkF n d f a b){d':Nat}(hd:d<=d'):OkF n d' f a b:=
 ⟨X7 h.deep hd,by rw[kj n h.deep hd];exact h.nod,by rw[kD h.deep hd];exact h.size,by rw[kD h.deep hd];exact h.depth⟩
theorem OkF.more{n d a b:Nat}{f:Fm}(h:OkF n d f a b){a' b':Nat}(ha:a<=a')(hb:b<=b'):OkF n d f a' b':=
 ⟨h.deep,h.nod,Lr h.size ha,Lr h.depth hb⟩
theorem OkF.one{n d a b:Nat}{f:Fm}(h:OkF n d f a b){op p g:Int}(hn:xt n ⟨op,p,0,0,g⟩ 1=0):OkF n (d+1) (f1 op p g f) (a+1) (b+1):=by
 refine⟨?_,?_,?_,?_⟩
 . intro x hx
   have:x=f:=by simpa[f1,Fm.args] using hx
   rw[this];exact h.deep
 . show(if xt n ⟨op,p,0,0,g⟩ 1≠0 then _ else Zp [yJ n d f])=0
   rw[Lg (by rw[hn];simp),h.nod];rfl
 . show 1+(zL d f).1<=a+1
   have:=h.size;omega
 show max 0 (zL d f).2+1<=b+1;have:=h.depth;omega
theorem OkF.two{n d a b a' b':Nat}{f k:Fm}(h:OkF n d f a b)(h':OkF n d k a' b'){op:Int}(hn:xt n ⟨op,0,0,0,0⟩ 2=0):OkF n (d+1) (f2 op f k) (a+a'+1) (max b b'+1):=by
 refine⟨?_,?_,?_,?_⟩
 . intro x hx
   have hx:x=f\/x=k:=by simpa[f2,Fm.args] using hx
   rcases hx with rfl | rfl
   . exact h.deep
   exact h'.deep
 . show(if xt n ⟨op,0,0,0,0⟩ 2≠0 then _ else Zp [yJ n d f,yJ n d k])=0
   rw[Lg (by rw[hn];simp),h.nod,h'.nod];rfl
 . show 1+(zL d f).1+(zL d k).1<=a+a'+1
   have h1:=h.size;have h2:=h'.size;omega
 show max (max 0 (zL d f).2) (zL d k).2+1<=max b b'+1;have h1:=h.depth;have h2:=h'.depth;omega
theorem OkF.not{n d a b:Nat}{f:Fm}(h:OkF n d f a b):OkF n (d+1) (yc f) (a+1) (b+1):=h.one (by simp[xt,arN,usP,usO,usV,usG])
theorem OkF.or{n d a b a' b':Nat}{f k:Fm}(h:OkF n d f a b)(h':OkF n d k a' b'):OkF n (d+1) (fOr f k) (a+a'+1) (max b b'+1):=h.two h' (by simp[xt,arN,usP,usO,usV,usG])
theorem OkF.and{n d a b a' b':Nat}{f k:Fm}(h:OkF n d f a b)(h':OkF n d k a' b'):OkF n (d+1) (yx f k) (a+a'+1) (max b b'+1):=h.two h' (by simp[xt,arN,usP,usO,usV,usG])
theorem OkF.until{n d a b a' b':Nat}{f k:Fm}(h:OkF n d f a b)(h':OkF n d k a' b'):OkF n (d+1) (f2 17 f k) (a+a'+1) (max b b'+1):=h.two h' (by simp[xt,arN,usP,usO,usV,usG])
theorem OkF.knows{n d a b:Nat}{f:Fm}(h:OkF n d f a b){q:Nat}(hq:q<n):OkF n (d+1) (f1 10 q 0 f) (a+1) (b+1):=h.one (by
 have h1:(0:Int)<=(q:Int)/\(q:Int)<=(n:Int)-1:=by omega
 simp[xt,arN,usP,usO,usV,usG];omega)
theorem OkF.time{n d a b:Nat}{f:Fm}(h:OkF n d f a b){op:Int}(ho:op=14\/op=15\/op=16):OkF n (d+1) (f1 op 0 0 f) (a+1) (b+1):=h.one (by
 rcases ho with rfl | rfl | rfl<;>simp[xt,arN,usP,usO,usV,usG])
theorem OkF.group{n d a b:Nat}{f:Fm}(h:OkF n d f a b){op g:Int}(ho:op=11\/op=12\/op=13)(hg:1<=g/\g<=2^n-1):OkF n (d+1) (f1 op 0 g f) (a+1) (b+1):=h.one (by
 have h1:¬(g<1\/(2:Int)^n-1<g):=by omega
 rcases ho with rfl | rfl | rfl<;>simp[xt,arN,usP,usO,usV,usG]<;>omega)
theorem OkF.fml{n d a b:Nat}{f:Fm}(h:OkF n d f a b)(hn:1<=n/\n<=5)(ha:a<=128)(hb:b<=24):qw (n:Int) d f=0:=by
 unfold qw;have h1:=h.size;have h2:=h.depth;rw[Lg (by omega)];have:uX (zL d f)=0:=by unfold uX;rw[Lg (by omega),Lg (by omega)]
 rw[this,Lg (by simp),Lo,h.nod]
end
section
open Go.RowKit
def Vf(s:Sy)(out:List Int)(n a b:Nat)(f:Fm)(A:List Bool):Prop:=∃d,OkF n d f a b/\xn s out d f=A
section
variable {s:Sy} {out:List Int} {n a b a' b':Nat} {f k:Fm} {A B:List Bool}
theorem Vf.at_(h:Vf s out n a b f A){D:Nat}(hD:inD D f):xn s out D f=A:=by
 obtain⟨d,h1,rfl⟩:=h;rcases Nat.le_total d D with h2 | h2
 . exact wn s out h1.deep h2
 exact(wn s out hD h2).symm
theorem Vf.len(h:Vf s out n a b f A):A.length=ptn s:=by obtain⟨d,_,rfl⟩:=h;exact jM ..
theorem Vf.more(h:Vf s out n a b f A)(ha:a<=a')(hb:b<=b'):Vf s out n a' b' f A:=by obtain⟨d,h1,h2⟩:=h;exact⟨d,h1.more ha hb,h2⟩
theorem Vf.both(h:Vf s out n a b f A)(h':Vf s out n a' b' k B):∃d,OkF n d f a b/\xn s out d f=A/\OkF n d k a' b'/\xn s out d k=B:=by
 obtain⟨d,h1,rfl⟩:=h;obtain⟨d',h2,rfl⟩:=h';exact⟨max d d',h1.up (by omega),wn s out h1.deep (by omega),h2.up (by omega),wn s out h2.deep (by omega)⟩
theorem Vf.not(h:Vf s out n a b f A):Vf s out n (a+1) (b+1) (yc f) (qb (ptn s) A):=by obtain⟨d,h1,rfl⟩:=h;exact⟨d+1,h1.not,rfl⟩
theorem Vf.or(h:Vf s out n a b f A)(h':Vf s out n a' b' k B):Vf s out n (a+a'+1) (max b b'+1) (fOr f k) (orL (ptn s) A B):=by
 obtain⟨d,h1,rfl,h2,rfl⟩:=h.both h';exact⟨d+1,h1.or h2,rfl⟩
theorem Vf.and(h:Vf s out n a b f A)(h':Vf s out n a' b' k B):Vf s out n (a+a'+1) (max b b'+1) (yx f k) (qz (ptn s) A B):=by
 obtain⟨d,h1,rfl,h2,rfl⟩:=h.both h';exact⟨d+1,h1.and h2,rfl⟩
theorem Vf.until(h:Vf s out n a b f A)(h':Vf s out n a' b' k B):Vf s out n (a+a'+1) (max b b'+1) (f2 17 f k) (vt (ptn s) s.p.k.toNat A B):=by
 obtain⟨d,h1,rfl,h2,rfl⟩:=h.both h';exact⟨d+1,h1.until h2,rfl⟩
theorem Vf.imp(h:Vf s out n a b f A)(h':Vf s out n a' b' k B):Vf s out n (a+1+a'+1) (max (b+1) b'+1) (fIf f k) (Q8 (ptn s) A B):=h.not.or h'
theorem Vf.knows(h:Vf s out n a b f A){q:Nat}(hq:q<n):Vf s out n (a+1) (b+1) (f1 10 q 0 f) (yo (ptn s) (yt s q) A):=by obtain⟨d,h1,rfl⟩:=h;exact⟨d+1,h1.knows hq,rfl⟩
theorem Vf.every(h:Vf s out n a b f A){g:Int}(hg:1<=g/\g<=2^n-1):Vf s out n (a+1) (b+1) (f1 11 0 g f) (evG s g A):=by obtain⟨d,h1,rfl⟩:=h;exact⟨d+1,h1.group (.inl rfl) hg,rfl⟩
theorem Vf.dist(h:Vf s out n a b f A){g:Int}(hg:1<=g/\g<=2^n-1):Vf s out n (a+1) (b+1) (f1 12 0 g f) (yo (ptn s) (qm s g) A):=by obtain⟨d,h1,rfl⟩:=h;exact⟨d+1,h1.group (.inr (.inl rfl)) hg,rfl⟩
theorem Vf.com(h:Vf s out n a b f A){g:Int}(hg:1<=g/\g<=2^n-1):Vf s out n (a+1) (b+1) (f1 13 0 g f) (zR (ptn s) (evG s g) A (ptn s)):=by obtain⟨d,h1,rfl⟩:=h;exact⟨d+1,h1.group (.inr (.inr rfl)) hg,rfl⟩
theorem Vf.next(h:Vf s out n a b f A):Vf s out n (a+1) (b+1) (f1 14 0 0 f) (vy (ptn s) s.p.k.toNat A):=by obtain⟨d,h1,rfl⟩:=h;exact⟨d+1,h1.time (.inl rfl),rfl⟩
theorem Vf.ever(h:Vf s out n a b f A):Vf s out n (a+1) (b+1) (f1 15 0 0 f) (kQ (ptn s) s.p.k.toNat A):=by obtain⟨d,h1,rfl⟩:=h;exact⟨d+1,h1.time (.inr (.inl rfl)),rfl⟩
theorem Vf.once(h:Vf s out n a b f A):Vf s out n (a+1) (b+1) (f1 16 0 0 f) (kO (ptn s) s.p.k.toNat A):=by obtain⟨d,h1,rfl⟩:=h;exact⟨d+1,h1.time (.inr (.inr rfl)),rfl⟩
end
def Vald(s:Sy)(out:List Int)(n:Nat)(f:Fm):Prop:=∃A,Vf s out n 128 24 f A/\JI (ptn s) A
theorem Vald.imp{s:Sy}{out:List Int}{n a b a' b':Nat}{f k:Fm}{A B:List Bool}(h:Vf s out n a b f A)(h':Vf s out n a' b' k B)(ha:a+a'<=126)(hb:b<=22/\b'<=23)(hs:SubB (ptn s) A B):Vald s out n (fIf f k):=
 ⟨_,(h.imp h').more (by omega) (by omega),imp_all.2 hs⟩
theorem Vald.atD{s:Sy}{out:List Int}{n:Nat}{f:Fm}(h:Vald s out n f){D:Nat}(hD:inD D f):JI (ptn s) (xn s out D f):=by
 obtain⟨A,h1,h2⟩:=h;rw[h1.at_ hD];exact h2
section
variable {s:Sy} {out:List Int} {n:Nat} {f k:Fm} {A B:List Bool} (h:Vf s out n 12 6 f A) (h':Vf s out n 12 6 k B)
include h
theorem top_know1{q:Nat}(hq:q<n):Vald s out n (fIf (f1 10 q 0 f) f):=.imp (h.knows hq) h (by omega) (by omega) kn_true
theorem top_know2{q:Nat}(hq:q<n):Vald s out n (fIf (f1 10 q 0 f) (f1 10 q 0 (f1 10 q 0 f))):=.imp (h.knows hq) ((h.knows hq).knows hq) (by omega) (by omega) kn_twice
theorem top_know3{q:Nat}(hq:q<n):Vald s out n (fIf (yc (f1 10 q 0 f)) (f1 10 q 0 (yc (f1 10 q 0 f)))):=.imp (h.knows hq).not ((h.knows hq).not.knows hq) (by omega) (by omega) kn_not
theorem top_dist1{g:Int}(hg:1<=g/\g<=2^n-1):Vald s out n (fIf (f1 12 0 g f) f):=.imp (h.dist hg) h (by omega) (by omega) kn_true
theorem top_dist3{g:Int}(hg:1<=g/\g<=2^n-1):Vald s out n (fIf (yc (f1 12 0 g f)) (f1 12 0 g (yc (f1 12 0 g f)))):=.imp (h.dist hg).not ((h.dist hg).not.dist hg) (by omega) (by omega) kn_not
theorem top_com1{g:Int}(hg:1<=g/\g<=2^n-1):Vald s out n (fIf (f1 13 0 g f) (f1 11 0 g (yx f (f1 13 0 g f)))):=.imp (h.com hg) ((h.and (h.com hg)).every hg) (by omega) (by omega) (.of_eq com_step.symm)
theorem top_com2{g:Int}(hg:1<=g/\g<=2^n-1):Vald s out n (fIf (f1 11 0 g (yx f (f1 13 0 g f))) (f1 13 0 g f)):=.imp ((h.and (h.com hg)).every hg) (h.com hg) (by omega) (by omega) (.of_eq com_step)
theorem top_com3{g:Int}(hg:1<=g/\g<=2^n-1):Vald s out n (fIf (f1 13 0 g f) (f1 13 0 g (f1 13 0 g f))):=.imp (h.com hg) ((h.com hg).com hg) (by omega) (by omega) com_twice
theorem top_com4{g:Int}(hg:1<=g/\g<=2^n-1)(fW:psG s g≠[]):Vald s out n (fIf (f1 13 0 g f) f):=.imp (h.com hg) h (by omega) (by omega) (com_true fW)
theorem top_com5{g:Int}(hg:1<=g/\g<=2^n-1){q:Nat}(hq:q<n)(hm:q∈psG s g):Vald s out n (fIf (f1 11 0 g f) (f1 10 q 0 f)):=.imp (h.every hg) (h.knows hq) (by omega) (by omega) (ev_kn hm)
theorem top_com6{g:Int}(hg:1<=g/\g<=2^n-1)(hv:JI (ptn s) (Q8 (ptn s) A (evG s g A))):Vald s out n (fIf f (f1 13 0 g f)):=.imp h (h.com hg) (by omega) (by omega) (com_ind (imp_all.1 hv))
theorem top_time1{q:Nat}(hq:q<n)(hm:ptn s % (s.p.k.toNat+1)=0)
  (hr:∀i j,i+1<ptn s->j<ptn s->zY s.p.k.toNat i=Aw->(yt s q).getD j 0=(yt s q).getD (i+1) 0->∃k,j=k+1/\zY s.p.k.toNat k=Aw/\(yt s q).getD k 0=(yt s q).getD i 0) :
  Vald s out n (fIf (f1 10 q 0 (f1 14 0 0 f)) (f1 14 0 0 (f1 10 q 0 f)))/\Vald s out n (fIf (f1 10 q 0 (f1 15 0 0 f)) (f1 15 0 0 (f1 10 q 0 f))):=
 ⟨.imp (h.next.knows hq) (h.knows hq).next (by omega) (by omega) (time_kn hm hr),.imp (h.ever.knows hq) (h.knows hq).ever (by omega) (by omega) (time_ever hm hr)⟩
theorem XJ:Vald s out n (fIf (yc (f1 15 0 0 f)) (f1 16 0 0 (yc f)))/\Vald s out n (fIf (f1 16 0 0 (yc f)) (yc (f1 15 0 0 f))):=
 ⟨.imp h.ever.not h.not.once (by omega) (by omega) (.of_eq (not_alw ..)),.imp h.not.once h.ever.not (by omega) (by omega) (.of_eq (not_alw ..).symm)⟩
theorem top_once(hm:ptn s % (s.p.k.toNat+1)=0):Vald s out n (fIf (f1 16 0 0 f) (fOr f (f1 14 0 0 (f1 16 0 0 f))))/\Vald s out n (fIf (fOr f (f1 14 0 0 (f1 16 0 0 f))) (f1 16 0 0 f)):=
 ⟨.imp h.once (h.or h.once.next) (by omega) (by omega) (.of_eq (evt_set hm)),.imp (h.or h.once.next) h.once (by omega) (by omega) (.of_eq (evt_set hm).symm)⟩
theorem top_ever(hm:ptn s % (s.p.k.toNat+1)=0){t:Fm}(ht:Vf s out n 1 1 t (List.replicate (ptn s) Au)) :
  Vald s out n (fIf (f1 15 0 0 f) (yx f (fOr (yc (f1 14 0 0 t)) (f1 14 0 0 (f1 15 0 0 f)))))/\Vald s out n (fIf (yx f (fOr (yc (f1 14 0 0 t)) (f1 14 0 0 (f1 15 0 0 f)))) (f1 15 0 0 f)):=
 ⟨.imp h.ever (h.and (ht.next.not.or h.ever.next)) (by omega) (by omega) (.of_eq (alw_set hm)),.imp (h.and (ht.next.not.or h.ever.next)) h.ever (by omega) (by omega) (.of_eq (alw_set hm).symm)⟩
include h'
theorem top_know4{q:Nat}(hq:q<n):Vald s out n (fIf (yx (f1 10 q 0 f) (f1 10 q 0 (fIf f k))) (f1 10 q 0 k)):=.imp ((h.knows hq).and ((h.imp h').knows hq)) (h'.knows hq) (by omega) (by omega) kn_imp
theorem top_dist4{g:Int}(hg:1<=g/\g<=2^n-1):Vald s out n (fIf (yx (f1 12 0 g f) (f1 12 0 g (fIf f k))) (f1 12 0 g k)):=.imp ((h.dist hg).and ((h.imp h').dist hg)) (h'.dist hg) (by omega) (by omega) kn_imp
theorem top_until(hm:ptn s % (s.p.k.toNat+1)=0):Vald s out n (fIf (f2 17 f k) (fOr k (yx f (f1 14 0 0 (f2 17 f k)))))/\Vald s out n (fIf (fOr k (yx f (f1 14 0 0 (f2 17 f k)))) (f2 17 f k)):=
 ⟨.imp (h.until h') (h'.or (h.and (h.until h').next)) (by omega) (by omega) (.of_eq (unt_set hm)),.imp (h'.or (h.and (h.until h').next)) (h.until h') (by omega) (by omega) (.of_eq (unt_set hm).symm)⟩
end
theorem top_know5{s:Sy}{out:List Int}{K N G:Nat}{f:Fm}{A:List Bool}(hF:Fine s K N)(h:Vf s out N 12 6 f A){q:Nat}(hq:q<N)(hG:1<=(G:Int)/\(G:Int)<=2^N-1)(hb:G.testBit q=Au):Vald s out N (fIf (f1 10 q 0 f) (f1 12 0 G f)):=
 .imp (h.knows hq) (h.dist hG) (by omega) (by omega) fun _ hi hh=>ins_tog hF hq hb A hi hh
end
section
open Go.RowKit Go.Shelf
attribute [local go_sem] Oper.semAt_some
structure TopW(s:Sy)(K N:Nat):Prop where
 lo:LowS s
 few:xu s.p
 ver:zZ s=0
 fine:Fine s K N
 p1:1<=ptn s
 p7:ptn s<=700
theorem TopW.of{s:Sy}(hs:LowS s)(hf:xu s.p)(hv:zZ s=0):∃K N,TopW s K N:=by
 obtain⟨_,K,N,hF⟩:=yG hf hv;have hp:=hF.n1;have hn:=hF.n
 obtain⟨f1,f2,_⟩:=wC (s:=s) (g:=0) hf (by
  unfold yd;rw[Lg (by rw[hv];simp),Lg];have:(0:Int)<2^s.n.toNat:=Int.pow_pos (by decide)
  omega)
 exact⟨K,N,hs,hf,hv,hF,f1,f2⟩
theorem Vald.tev{s:Sy}{K N:Nat}(hT:TopW s K N){f:Fm}(h:Vald s [] N f){D:Nat}(hD:inD D f):(ws s [] D f)=(xn s [] D f,0)/\((xn s [] D f).any fun b=>!b)=Aw/\(zL D f).1<=1000000:=by
 have ax:=h.atD hD;obtain⟨A,⟨d,h1,h2⟩,h3⟩:=h;have hm:max d D=max d D:=rfl;have e1:zL D f=zL d f:=by rw[<-kD hD (NF d D),kD h1.deep (NV d D)]
 have e2:yJ N D f=yJ N d f:=by rw[<-kj N hD (NF d D),kj N h1.deep (NV d D)]
 have dp:OkF N D f 128 24:=⟨hD,by rw[e2];exact h1.nod,by rw[e1];exact h1.size,by rw[e1];exact h1.depth⟩;have hn:=hT.fine.pn;have Mj:=dp.fml ⟨hT.fine.n1,hT.fine.n5⟩ (by omega) (by omega);refine⟨?_,?_,by have:=dp.size;omega⟩
 . unfold ws
   rw[Lg (by rw[hT.ver];simp),Lg (by simp),Lg (by rw[hn,Mj];simp)]
 rw[List.any_eq_false];intro x hx;obtain⟨i,hi,rfl⟩:=LP hx;have h5:=ax i (by rw[jM] at hi;exact hi);rw[zw hi] at h5;simp[h5]
theorem qO(s:Sy)(K N:Nat)(hT:TopW s K N)(A SV AV AX AL:Bb)(kc ks kv kx cl d:Nat)(l:List Fm)(aN:l.length<=1000)(hv:∀f∈l,Vald s [] N f)(w:Ba)(hS:SyAt w w.heap.size A SV AV AX s)(hL:FsAt w w.heap.size (d+1) AL l) :
  An Al 11 #[.agg (s.vs_ A kc SV ks AV kv AX kx),I AL l.length cl] w fun e w'=>e=Ak (Ah Au)/\Am w.heap.size w w':=by
 obtain⟨w1,ae,da,aw,hB⟩:=zm w (s.vs_ A kc SV ks AV kv AX kx) 39;have Df:Aq (∀X,Am w1.heap.size w1 X->FsAt X X.heap.size (d+1) AL l):=fun X hX=>(((hL.keep hB).more hB.size).keep hX).more hX.size
 have mg:Aq (∀f∈l,inD d f):=Yn (f:=Fm.mk ⟨0,0,0,0,0⟩ l) hL
 have C3:=zH (fun (f:Fm) (hf:f∈l) (AF:Bb) (cf:Nat) (X:Ba) (hX:Am w1.heap.size w1 X) (hA:FsAt X X.heap.size d AF f.args)=>(by
  obtain⟨h1,h2,h3⟩:=(hv f hf).tev hT (mg.out f hf);have hp7:=hT.p7;have hC:=ZR s hT.lo hT.few [] d f h3 (by rw[h1]) (by rw[h1];show(xn s [] d f).length<=_;rw[jM];omega) A SV AV AX AF Z kc ks kv kx cf 0 X ((hS.up hB).up hX) (fun h=>absurd h (by simp)) hA;rw[h1] at hC;refine hC.mono ?_;rintro e w' ⟨i,rfl,hb⟩;refine⟨i,?_,hb⟩;dsimp only
  rw[h2];rfl:An Al 18 #[.agg (s.vs_ A kc SV ks AV kv AX kx),Ai #[I Z 0 0],.agg (f.vs AF cf)] X fun e w'=>∃i:Int,e=Ak (.tuple #[Ah Au,O U i,O U 0])/\Am X.heap.size X w'))
 have aY:Aq (∀X,Am w1.heap.size w1 X->X.heap[w.heap.size]?=J (Ag (s.vs_ A kc SV ks AV kv AX kx) 39 (0,0))):=fun X hX=>Lb hX (by omega) da
 unfold Sy.vs_ at ae C3 aY ⊢;have ak:=zH ae;have HB:=zH hB;have HZ:=zH aw;clear ae da hB hS hL hv hT;go_enter func11,ntmps11;go_upto_region 1 with fail
 rw[ak.out];go_wp2_with fail
 go_loopw [12] (fun i wr=>∃k:Nat,k<=l.length/\i=O U (k:Int)/\Aq (Am w1.heap.size w1 wr)) (fun i _=>l.length-(Ap i).toNat)
 case atStart=>exact⟨0,by omega,rfl,Li _ _⟩
 obtain⟨k,hk,rfl,aO⟩:=hrel;have pm:IntKind.i64.wrap ((k:Int)+1)=((k+1:Nat):Int):=by rw[Ll];omega
 by_cases ac:k<l.length
 . obtain⟨bf,of,eA,DZ,oM⟩:=Df.out wr aO.out (by omega)
   obtain⟨A',c',oD,DU⟩:=oM k ac;have HV:=zH (fun (X:Ba) (hX:Am wr.heap.size wr X)=>C3.out l[k] (Le ac) A' c' X (Lc aO.out hX) ((DU.keep hX).more hX.size));obtain⟨x,hx⟩:=Kk (l[k]);rw[hx] at oD HV;obtain⟨⟨h0,h1,h2,h3,h4⟩,xl⟩:=x;have hc:∀j' v,#[O U h0,O U h1,O U h2,O U h3,O U h4,I A' xl.length c'][j']?=J v->wr.cell? ⟨bf,of+k*6+j',Z⟩=J v:=oD;have z0:wr.cell? ⟨bf,of+k*6,Z⟩=J (O U h0):=hc 0 _ rfl;have z1:wr.cell? ⟨bf,of+k*6+1,Z⟩=J (O U h1):=hc 1 _ rfl;have z2:wr.cell? ⟨bf,of+k*6+2,Z⟩=J (O U h2):=hc 2 _ rfl;have z3:wr.cell? ⟨bf,of+k*6+3,Z⟩=J (O U h3):=hc 3 _ rfl;have z4:wr.cell? ⟨bf,of+k*6+4,Z⟩=J (O U h4):=hc 4 _ rfl;have z5:wr.cell? ⟨bf,of+k*6+5,Z⟩=J (I A' xl.length c'):=hc 5 _ rfl;have dS:(0:Int)<=(k:Int):=by omega
   have aW:(k:Int)<(l.length:Int):=by omega
   have oz:w1.heap.size<=wr.heap.size:=aO.out.size;simp only[Fm.vs,Fm.args,Fm.h] at HV;clear oD DU oM hc hx;subst eA;go_upto_region 4 with fail
   obtain⟨W5,iG,d5,cZ,aj⟩:=zm wr #[O U h0,O U h1,O U h2,O U h3,O U h4,I A' xl.length c'] 32;rw[iG];have G5:=zH (aO.out.trans (aj.mono oz));have HC:=zH (HV.out W5 aj);have ce:=aY.out _ G5.out;obtain⟨p0,p1,p2,p3,p4,p5,p6,p7,p8,p9⟩:=zK (ce);obtain⟨y0,y1,y2,y3,y4,y5,_⟩:=Ki (d5);clear iG d5 aj z0 z1 z2 z3 z4 z5 HV cZ ce;go_wp2_with fail;refine HC.out.mono ?_;rintro e w6 ⟨i6,rfl,dj⟩;have G6:=zH (Lc G5.out dj);clear HC dj p0 p1 p2 p3 p4 p5 p6 p7 p8 p9 y0 y1 y2 y3 y4 y5;go_wp2_with fail
   go_roundw
   case rel=>exact⟨k+1,by omega,by go_num,G6⟩
   simp[Ap];omega
 obtain rfl:l.length=k:=by omega
 have aW:¬(l.length:Int)<(l.length:Int):=by omega
 have cF:=zH (Lc HB.out aO.out);go_wp2_with fail;go_ret;exact⟨rfl,cF.out⟩
end
section
open Go.RowKit
section
variable (F G:Fm) (v u:Ar) (w:Ba) (hF:FmA w F v) (hG:FmA w G u)
include hF
theorem jq:An Al 13 #[v] w (kG (yc F) w):=(ZM F v w _ hF).mono fun _ _ h=>h.all
theorem tryKnA(g:Int):An Al 10 #[O U 10,O U g,v] w (kG (f1 10 g 0 F) w):=(kW g F v w _ hF).mono fun _ _ h=>h.all
theorem tryGrA(op:Int)(cS:op=11\/op=12\/op=13)(g:Int):An Al 10 #[O U op,O U g,v] w (kG (f1 op 0 g F) w):=(qS op cS g F v w _ hF).mono fun _ _ h=>h.all
include hG
theorem JS:An Al 23 #[v,u] w (kG (fOr F G) w):=(Y5 F G v u w _ hF hG).mono fun _ _ h=>h.all
theorem Zr:An Al 14 #[v,u] w (kG (yx F G) w):=(ZN F G v u w _ hF hG).mono fun _ _ h=>h.all
theorem yW:An Al 12 #[v,u] w (kG (fIf F G) w):=(tryIf_any F G v u w _ hF hG).mono fun _ _ h=>h.all
end
theorem XK{p:Pb}(hl:Zq p)(h:qd p=Au):∃K N,TopW (zT p).1 K N/\(zT p).1.p=p/\(zT p).1=zO p/\p.t.n=(N:Int):=by
 have h2:=h;unfold qd at h2;rw[LB,Pt] at h2;have hf:=(few_x h2.1).1
 have hb:zT p=(zO p,0):=by
  by_cases h0:zV p=0
  case neg=>rw[xm h0] at h2;exact absurd h2.2 h0
  by_cases h1:4096<yh p
  . rw[xA h0 h1] at h2;cases h2.2
  rw[qy h0 (by omega)]
 have hp:(zT p).1.p=p:=by rw[hb];rfl
 have hv:zZ (zT p).1=0:=by
  unfold zZ;rw[hp,Lg (by simpa using h2.2),Lj rfl]
 obtain⟨K,N,hT⟩:=TopW.of (gi hl hf) (by rw[hp];exact hf) hv;refine⟨K,N,hT,hp,by rw[hb],?_⟩;have:=hT.fine.pn;rw[hp] at this;exact this
theorem okTry.vf{s:Sy}{n:Int}{N d:Nat}{f:Fm}(h:okTry n d f)(hn:n=(N:Int)):Vf s [] N 12 6 f (xn s [] d f):=by
 have h1:=Xs h.2.1;rw[hn,Lo] at h1;exact⟨d,⟨h.1,h1,h.2.2.1,h.2.2.2⟩,rfl⟩
theorem uh{w:Ba}{g:Nat}{cs:Array Ar}{t:TypeId}{l:List Fm}(hg:w.heap[g]?=J (Ag cs t (0,0)))
  (h:∀i (hi:i<l.length),∃d A' c',(∀j v,(l[i].vs A' c')[j]?=J v->cs[i*6+j]?=J v)/\FsS w (fun _=>True) d A' l[i].args):∃D,FsAt w w.heap.size (D+1) (J ⟨g,0,Z⟩) l:=by
 obtain⟨D,hD⟩:=fs_row (S:=fun _=>True) hg trivial h;exact⟨D,hD.at_.deep⟩
theorem yP{w w':Ba}{d:Nat}{A:Bb}{l:List Fm}(h:FsS w (fun _=>True) d A l)(hb:Am w.heap.size w w'):FsS w' (fun _=>True) d A l:=h.keep hb.size fun k hk _=>⟨trivial,hb.block k hk⟩
end
section
def wisC1:Cs:=⟨[0,0],[[0,0]],[]⟩
def wisC2:Cs:=⟨[0,1],[[0,0]],[]⟩
def wisMv:Mv:=⟨⟨2,1,2,0,0,0,0⟩,0⟩
def vC:Pb:=⟨⟨2,2,1,[wisC1,wisC2]⟩,⟨2,[[wisMv]]⟩,1⟩
def jG:Sy:=(zT vC).1
def jH:Fm:=.mk ⟨1,1,0,1,0⟩ []
theorem wis_few:qi vC=Au:=by decide +kernel
theorem ZG:xu vC:=(few_x wis_few).1
theorem wis_ok:(zT vC).2=0:=by decide +kernel
theorem wis_low:Zq vC:=by
 refine⟨⟨by decide,fun c hc=>?_⟩,by decide,fun l hl=>?_⟩
 . have:c=wisC1\/c=wisC2:=by simpa[vC] using hc
   rcases this with rfl | rfl
   . refine⟨by decide,by decide,by decide,fun v hv=>?_,fun v hv=>?_⟩
     . have:v=[0,0]:=by simpa[wisC1] using hv
       subst this;decide
     simp[wisC1] at hv
   refine⟨by decide,by decide,by decide,fun v hv=>?_,fun v hv=>?_⟩
   . have:v=[0,0]:=by simpa[wisC2] using hv
     subst this;decide
   simp[wisC2] at hv
 have:l=[wisMv]:=by simpa[vC] using hl
 subst this;decide
theorem Qk:LowS jG:=gi wis_low ZG
theorem wiss_p:jG.p=vC:=by decide +kernel
theorem wiss_ver:zZ jG=0:=by decide +kernel
theorem Y3:xu jG.p:=by rw[wiss_p];exact ZG
theorem wiss_pt:ptn jG=4/\jG.n=2:=by decide +kernel
theorem wis_one:xn jG [] 1 (f1 10 1 0 jH)=[Aw,Aw,Au,Au]:=by decide +kernel
theorem wis_none:xn jG [] 1 (f1 10 0 0 jH)=[Aw,Aw,Aw,Aw]:=by decide +kernel
end
section
open Go.RowKit Go.Shelf
attribute [local go_sem] Oper.semAt_some
theorem tev_at{s:Sy}{K N:Nat}(hT:TopW s K N){f:Fm}{d:Nat}(h1:OkF N d f 128 24){D:Nat}(hD:inD D f):ws s [] D f=(xn s [] d f,0)/\(zL D f).1<=1000000:=by
 have e1:zL D f=zL d f:=by rw[<-kD hD (NF d D),kD h1.deep (NV d D)]
 have e2:yJ N D f=yJ N d f:=by rw[<-kj N hD (NF d D),kj N h1.deep (NV d D)]
 have e3:xn s [] D f=xn s [] d f:=by rw[<-wn s [] hD (NF d D),wn s [] h1.deep (NV d D)]
 have dp:OkF N D f 128 24:=⟨hD,by rw[e2];exact h1.nod,by rw[e1];exact h1.size,by rw[e1];exact h1.depth⟩;have hn:=hT.fine.pn;have Mj:=dp.fml ⟨hT.fine.n1,hT.fine.n5⟩ (by omega) (by omega);refine⟨?_,by have:=dp.size;omega⟩;unfold ws;rw[Lg (by rw[hT.ver];simp),Lg (by simp),Lg (by rw[hn,Mj];simp),e3]
theorem wis_top:∃K,TopW jG K 2:=by
 obtain⟨K,N,h⟩:=TopW.of Qk Y3 wiss_ver;have h2:=h.fine.n;rw[wiss_pt.2] at h2;obtain rfl:N=2:=by omega
 exact⟨K,h⟩
theorem wis_okf:OkF 2 0 jH 1 1:=⟨rfl,by decide +kernel,by decide +kernel,by decide +kernel⟩
theorem wis_ok1:OkF 2 1 (f1 10 1 0 jH) 128 24:=(OkF.knows (q:=1) wis_okf (by decide)).more (by omega) (by omega)
theorem wis_ok0:OkF 2 1 (f1 10 0 0 jH) 128 24:=(OkF.knows (q:=0) wis_okf (by decide)).more (by omega) (by omega)
theorem Ql(F:Fm)(R:List Bool)(dp:OkF 2 1 F 128 24)(hR:xn jG [] 1 F=R)(hl:R.length=4)(v:Ar)(A SV AV AX:Bb)(kc ks kv kx:Nat)(w:Ba)(hS:SyAt w w.heap.size A SV AV AX jG)(hF:FmA w F v) :
  An Al 24 #[.agg (jG.vs_ A kc SV ks AV kv AX kx),Ai #[I Z 0 0],v] w fun e w'=>∃A c,e=Ak (.tuple #[I A 4 c,O U 0])/\BAt w' w'.heap.size A R/\Am w.heap.size w w':=by
 obtain⟨K,hT⟩:=wis_top;obtain⟨d,AF,cf,rfl,hA⟩:=hF;have hA:=hA.at_;obtain⟨h1,h2⟩:=tev_at hT dp (Yn hA);have hC:=Y7 jG Qk Y3 [] d F h2 A SV AV AX AF Z kc ks kv kx cf 0 w hS (fun h=>absurd h (by simp)) hA;rw[h1,hR] at hC;refine hC.mono ?_;rintro e w' ⟨A',c',rfl,hb,_,hw⟩;dsimp only;rw[hl];exact⟨A',c',rfl,hb,hw⟩
theorem jN(w:Ba):An Al 7 #[] w fun e w'=>e=Ak (Ah Au)/\Am w.heap.size w w':=by
 obtain⟨a0,MD,e0,tI,lL⟩:=zm w #[O U 0,O U 0] 3;obtain⟨a1,fP,e1,aw,aQ⟩:=zm a0 #[O U 0,O U 0] 3;obtain⟨a2,ra,e2,bQ,ah⟩:=zm a1 #[I (J ⟨w.heap.size+1,0,Z⟩) 2 2] 50;obtain⟨a3,MB,e3,dx,al⟩:=zm a2 #[O U 0,O U 1] 3;obtain⟨a4,CK,e4,iU,aP⟩:=zm a3 #[O U 0,O U 0] 3;obtain⟨a5,ha5,e5,cZ,aj⟩:=zm a4 #[I (J ⟨w.heap.size+1+1+1+1,0,Z⟩) 2 2] 50;obtain⟨a6,SS,e6,fU,dj⟩:=zm a5 #[I (J ⟨w.heap.size,0,Z⟩) 2 2,I (J ⟨w.heap.size+1+1,0,Z⟩) 1 1,I Z 0 0,I (J ⟨w.heap.size+1+1+1,0,Z⟩) 2 2,I (J ⟨w.heap.size+1+1+1+1+1,0,Z⟩) 1 1,I Z 0 0] 71;obtain⟨a7,ha7,e7,fq,dk⟩:=zm a6 #[O U 2,O U 2,O U 1,I (J ⟨w.heap.size+1+1+1+1+1+1,0,Z⟩) 2 2] 24;obtain⟨a8,ha8,e8,nc,du⟩:=zm a7 #[O U 2,O U 1,O U 2,O U 0,O U 0,O U 0,O U 0,O U 0] 78;obtain⟨a9,ha9,e9,po,ey⟩:=zm a8 #[I (J ⟨w.heap.size+1+1+1+1+1+1+1+1,0,Z⟩) 1 1] 79;obtain⟨mQ,MC,rj,pL,de⟩:=zm a9 #[O U 2,I (J ⟨w.heap.size+1+1+1+1+1+1+1+1+1,0,Z⟩) 1 1] 27;rw[tI] at e1 aw;rw[aw] at e2 bQ;rw[bQ] at e3 dx;rw[dx] at e4 iU;rw[iU] at e5 cZ;rw[cZ] at e6 fU;rw[fU] at e7 fq;rw[fq] at e8 nc;rw[nc] at e9 po;rw[po] at rj pL
 have D0:Aq (mQ.heap[w.heap.size]?=J (Ag #[O U 0,O U 0] 3 (0,0))):=Lb de (by omega) (Lb ey (by omega) (Lb du (by omega) (Lb dk (by omega) (Lb dj (by omega) (Lb aj (by omega) (Lb aP (by omega) (Lb al (by omega) (Lb ah (by omega) (Lb aQ (by omega) (e0))))))))));have D1:Aq (mQ.heap[w.heap.size+1]?=J (Ag #[O U 0,O U 0] 3 (0,0))):=Lb de (by omega) (Lb ey (by omega) (Lb du (by omega) (Lb dk (by omega) (Lb dj (by omega) (Lb aj (by omega) (Lb aP (by omega) (Lb al (by omega) (Lb ah (by omega) (e1)))))))));have D2:Aq (mQ.heap[w.heap.size+1+1]?=J (Ag #[I (J ⟨w.heap.size+1,0,Z⟩) 2 2] 50 (0,0))):=Lb de (by omega) (Lb ey (by omega) (Lb du (by omega) (Lb dk (by omega) (Lb dj (by omega) (Lb aj (by omega) (Lb aP (by omega) (Lb al (by omega) (e2))))))))
 have D3:Aq (mQ.heap[w.heap.size+1+1+1]?=J (Ag #[O U 0,O U 1] 3 (0,0))):=Lb de (by omega) (Lb ey (by omega) (Lb du (by omega) (Lb dk (by omega) (Lb dj (by omega) (Lb aj (by omega) (Lb aP (by omega) (e3)))))));have D4:Aq (mQ.heap[w.heap.size+1+1+1+1]?=J (Ag #[O U 0,O U 0] 3 (0,0))):=Lb de (by omega) (Lb ey (by omega) (Lb du (by omega) (Lb dk (by omega) (Lb dj (by omega) (Lb aj (by omega) (e4))))));have D5:Aq (mQ.heap[w.heap.size+1+1+1+1+1]?=J (Ag #[I (J ⟨w.heap.size+1+1+1+1,0,Z⟩) 2 2] 50 (0,0))):=Lb de (by omega) (Lb ey (by omega) (Lb du (by omega) (Lb dk (by omega) (Lb dj (by omega) (e5)))));have D6:Aq (mQ.heap[w.heap.size+1+1+1+1+1+1]?=J (Ag #[I (J ⟨w.heap.size,0,Z⟩) 2 2,I (J ⟨w.heap.size+1+1,0,Z⟩) 1 1,I Z 0 0,I (J ⟨w.heap.size+1+1+1,0,Z⟩) 2 2,I (J ⟨w.heap.size+1+1+1+1+1,0,Z⟩) 1 1,I Z 0 0] 71 (0,0))):=Lb de (by omega) (Lb ey (by omega) (Lb du (by omega) (Lb dk (by omega) (e6))))
 have D7:Aq (mQ.heap[w.heap.size+1+1+1+1+1+1+1]?=J (Ag #[O U 2,O U 2,O U 1,I (J ⟨w.heap.size+1+1+1+1+1+1,0,Z⟩) 2 2] 24 (0,0))):=Lb de (by omega) (Lb ey (by omega) (Lb du (by omega) (e7)));have D8:Aq (mQ.heap[w.heap.size+1+1+1+1+1+1+1+1]?=J (Ag #[O U 2,O U 1,O U 2,O U 0,O U 0,O U 0,O U 0,O U 0] 78 (0,0))):=Lb de (by omega) (Lb ey (by omega) (e8));have D9:Aq (mQ.heap[w.heap.size+1+1+1+1+1+1+1+1+1]?=J (Ag #[I (J ⟨w.heap.size+1+1+1+1+1+1+1+1,0,Z⟩) 1 1] 79 (0,0))):=Lb de (by omega) (e9);have D10:Aq (mQ.heap[w.heap.size+1+1+1+1+1+1+1+1+1+1]?=J (Ag #[O U 2,I (J ⟨w.heap.size+1+1+1+1+1+1+1+1+1,0,Z⟩) 1 1] 27 (0,0))):=rj;have HB:Aq (Am w.heap.size w mQ):=((((((((((lL).trans (aQ.mono (by omega))).trans (ah.mono (by omega))).trans (al.mono (by omega))).trans (aP.mono (by omega))).trans (aj.mono (by omega))).trans (dj.mono (by omega))).trans (dk.mono (by omega))).trans (du.mono (by omega))).trans (ey.mono (by omega))).trans (de.mono (by omega));have TS:=zH MD;have O8:=zH fP;have Hq:=zH ra;have pi:=zH MB;have Hp:=zH CK;have lE:=zH ha5;have I7:=zH SS;have HA7:=zH ha7;have HA8:=zH ha8;have HA9:=zH ha9;have O7:=zH MC;have HS:=zH pL
 clear MD e0 lL fP e1 aQ ra e2 ah MB e3 al CK e4 aP ha5 e5 aj SS e6 dj ha7 e7 dk ha8 e8 du ha9 e9 ey MC rj de tI aw bQ dx iU cZ fU fq nc po pL
 have Ek:CAt mQ mQ.heap.size (J ⟨w.heap.size+1+1+1+1+1+1,0,Z⟩) vC.t.cases:=by
  have i0:IAtS (fun _=>True) mQ _ [0,0]:=uP trivial D0.out;have i1:IAtS (fun _=>True) mQ _ [0,0]:=uP trivial D1.out;have i3:IAtS (fun _=>True) mQ _ [0,1]:=uP trivial D3.out;have i4:IAtS (fun _=>True) mQ _ [0,0]:=uP trivial D4.out;have l2:=QZ (v:=[0,0]) (S:=fun _=>True) trivial D2.out i1;have l5:=QZ (v:=[0,0]) (S:=fun _=>True) trivial D5.out i4
  exact fun _=>⟨_,0,rfl,zk D6.out,fun i hi=>by
   have h2:i=0\/i=1:=by have:i<2:=hi;omega
   rcases h2 with rfl | rfl
   . exact⟨_,_,_,zh D6.out 0 rfl,zh D6.out 1 rfl,zh D6.out 2 rfl,⟨_,2,rfl,i0.iat⟩,⟨_,1,rfl,l2.lat⟩,⟨Z,0,rfl,LAt.nil _ _ _⟩⟩
   . exact⟨_,_,_,zh D6.out 3 rfl,zh D6.out 4 rfl,zh D6.out 5 rfl,⟨_,2,rfl,i3.iat⟩,⟨_,1,rfl,l5.lat⟩,⟨Z,0,rfl,LAt.nil _ _ _⟩⟩⟩
 have Ee:SAt mQ mQ.heap.size (J ⟨w.heap.size+1+1+1+1+1+1+1+1+1,0,Z⟩) vC.a.sts:=fun _=>⟨_,0,rfl,zk D9.out,fun i hi=>by
  obtain rfl:i=0:=by have:i<1:=hi;omega
  refine⟨_,1,zh D9.out 0 rfl,fun _=>⟨_,0,rfl,zk D8.out,fun i hi k u hu=>?_⟩⟩;obtain rfl:i=0:=by have:i<1:=hi;omega
  have hk8:k<8:=(Ln.1 hu).1;rw[<-hu];have h8:k=0\/k=1\/k=2\/k=3\/k=4\/k=5\/k=6\/k=7:=by omega
  rcases h8 with rfl | rfl | rfl | rfl | rfl | rfl | rfl | rfl
  all_goals exact zh D8.out _ rfl⟩
 have bh:=XD vC ZG _ 2 _ 1 mQ Ek Ee;have HR:Aq (zT vC=(jG,0)):=Prod.ext rfl wis_ok;rw[HR.out] at bh;have oX:vC.vs (J ⟨w.heap.size+1+1+1+1+1+1,0,Z⟩) 2 (J ⟨w.heap.size+1+1+1+1+1+1+1+1+1,0,Z⟩) 1=#[O U 2,O U 2,O U 1,I (J ⟨w.heap.size+1+1+1+1+1+1,0,Z⟩) 2 2,O U 2,I (J ⟨w.heap.size+1+1+1+1+1+1+1+1+1,0,Z⟩) 1 1,O U 1]:=rfl;rw[oX] at bh;have eF:=zH bh;obtain⟨x0,x1,x2,x3,_⟩:=Ka (D7.out);obtain⟨y0,y1,_⟩:=Ke (D10.out);clear Ek Ee bh oX HR;go_enter func7,ntmps7;go_upto_region 3 with fail
 rw[TS.out,O8.out,Hq.out,pi.out,Hp.out,lE.out,I7.out,HA7.out,HA8.out,HA9.out,O7.out];go_wp2_with fail;refine eF.out.mono ?_;rintro e w2 ⟨A,kc,SV,ks,AV,kv,AX,kx,rfl,re,_,_,ah⟩;dsimp only at re ⊢;obtain⟨w3,cO,d3,dx,al⟩:=zm w2 (jG.vs_ A kc SV ks AV kv AX kx) 39;obtain⟨w4,ip,d4,iU,aP⟩:=zm w3 (jH.vs Z 0) 32;have Gq:Am w2.heap.size w2 w4:=al.trans (aP.mono (by omega));have d3:=Lb aP (by omega) d3;rw[dx] at d4 iU;have fK:=zH (HB.out.trans ((Lc ah Gq).mono HB.out.size));have ia:Aq (∀X,Am w4.heap.size w4 X->SyAt X X.heap.size A SV AV AX jG):=fun X hX=>(re.up Gq).up hX
 have HFM:Aq (∀X,Am w4.heap.size w4 X->FmA X jH (.agg (jH.vs Z 0))):=fun X hX=>FmA.keep (FmA.of (d:=0) (show jH.args=[] from rfl)) hX
 have ai:Aq (∀X,Am w4.heap.size w4 X->X.heap[w2.heap.size]?=J (Ag (jG.vs_ A kc SV ks AV kv AX kx) 39 (0,0))/\X.heap[w2.heap.size+1]?=J (Ag (jH.vs Z 0) 32 (0,0))):=fun X hX=>⟨Lb hX (by omega) d3,Lb hX (by omega) d4⟩
 have aq:=zH (fun (v:Ar) (X:Ba) (hX:Am w4.heap.size w4 X) (hv:FmA X (f1 10 1 0 jH) v)=>Ql (f1 10 1 0 jH) _ wis_ok1 wis_one rfl v A SV AV AX kc ks kv kx X (ia.out X hX) hv);have di:=zH (fun (v:Ar) (X:Ba) (hX:Am w4.heap.size w4 X) (hv:FmA X (f1 10 0 0 jH) v)=>Ql (f1 10 0 0 jH) _ wis_ok0 wis_none rfl v A SV AV AX kc ks kv kx X (ia.out X hX) hv);have BN:=zH (fun (X:Ba) (hX:Am w4.heap.size w4 X)=>(kW 1 jH _ X (fun _=>True) (HFM.out X hX)).mono fun _ _ h=>h.all);have TF:=zH (fun (X:Ba) (hX:Am w4.heap.size w4 X)=>(kW 0 jH _ X (fun _=>True) (HFM.out X hX)).mono fun _ _ h=>h.all);obtain⟨T,hT⟩:=Kk jG;simp only[hT] at ia ai aq di cO d3 ⊢;have dD:jH.vs Z 0=#[O U 1,O U 1,O U 0,O U 1,O U 0,I Z 0 0]:=rfl;rw[dD] at ip d4 BN TF;simp only[dD] at ai;unfold kG at BN TF;unfold Sy.vs_ at cO d3 ai aq di ⊢;have fI:=zH cO;have iI:=zH ip;clear cO ip re ah al aP Gq eF d3 d4 hT dD HFM ia D0 TS D1 O8 D2 Hq D3 pi D4 Hp D5 lE D6 I7 D7 HA7 D8 HA8 D9 HA9 D10 O7 x0 x1 x2 x3 y0 y1;go_upto_region 5 with fail
 rw[fI.out,iI.out];have G4:Aq (Am w4.heap.size w4 w4):=Li _ _;refine zt [(0,Au),(1,Au),(2,Au),(3,Aw),(4,Aw),(5,Au),(6,Au),(7,Au),(8,Au),(9,Au)] (fun X=>X.heap[w2.heap.size]?=J (Ag #[O U T.p.t.n,O U T.p.t.ins,O U T.p.t.outs,I A T.p.t.cases.length kc,O U T.p.a.n,I SV T.p.a.sts.length ks,O U T.p.k,O U T.n,I AV T.vs.length kv,I AX T.xs.length kx] 39 (0,0))/\X.heap[w2.heap.size+1]?=J (Ag #[O U 1,O U 1,O U 0,O U 1,O U 0,I Z 0 0] 32 (0,0))) (by kernel_rfl) (by kernel_rfl) (ai.out _ G4.out.drew) ?_
 repeat
  apply zj rfl
  . rintro K' aa X ⟨u1,u2⟩
    obtain⟨x0,x1,x2,x3,x4,x5,x6,x7,x8,x9⟩:=zK (u1);obtain⟨y0,y1,y2,y3,y4,y5,_⟩:=Ki (u2);clear u1 u2;go_simp;exact aa
 refine zn rfl ?_;intro K' aa;go_simp;refine(BN.out _ G4.out.drew).mono ?_;rintro e w5 ⟨vw5,rfl,hv,hb⟩;have HV:=zH hv;have G5:Aq (Am w4.heap.size w4 w5):=G4.out.drew.trans (hb.mono G4.out.size);refine aa _ _ (ai.out _ G5.out) ?_;clear aa K' hb hv;refine zn rfl ?_;intro K' aa;go_simp;refine(aq.out _ w5 G5.out HV.out).mono ?_;rintro e w6 ⟨A6,c6,rfl,hr,hb⟩;have EM:=zH hr;have G6:=zH (Lc G5.out hb);refine aa _ _ (ai.out _ G6.out) ?_;clear aa K' hb hr
 repeat
  apply zj rfl
  . rintro K' aa X ⟨u1,u2⟩
    obtain⟨x0,x1,x2,x3,x4,x5,x6,x7,x8,x9⟩:=zK (u1);obtain⟨y0,y1,y2,y3,y4,y5,_⟩:=Ki (u2);clear u1 u2;go_simp;exact aa
 refine zy ?_;go_upto_region 6 with fail
 refine zt [(0,Au),(1,Au),(2,Au),(3,Aw),(4,Aw),(5,Au),(6,Au),(7,Au),(8,Au),(9,Au)] (fun X=>X.heap[w2.heap.size]?=J (Ag #[O U T.p.t.n,O U T.p.t.ins,O U T.p.t.outs,I A T.p.t.cases.length kc,O U T.p.a.n,I SV T.p.a.sts.length ks,O U T.p.k,O U T.n,I AV T.vs.length kv,I AX T.xs.length kx] 39 (0,0))/\X.heap[w2.heap.size+1]?=J (Ag #[O U 1,O U 1,O U 0,O U 1,O U 0,I Z 0 0] 32 (0,0))) (by kernel_rfl) (by kernel_rfl) (ai.out _ G6.out.drew) ?_
 repeat
  apply zj rfl
  . rintro K' aa X ⟨u1,u2⟩
    obtain⟨x0,x1,x2,x3,x4,x5,x6,x7,x8,x9⟩:=zK (u1);obtain⟨y0,y1,y2,y3,y4,y5,_⟩:=Ki (u2);clear u1 u2;go_simp;exact aa
 refine zn rfl ?_;intro K' aa;go_simp;refine(TF.out _ G6.out.drew).mono ?_;rintro e w7 ⟨vw7,rfl,hv,hb⟩;have HV:=zH hv;have HL7:=zH (((show BAt w6.drew w6.drew.heap.size A6 [Aw,Aw,Au,Au] from EM.out).keep hb).more hb.size);have G7:Aq (Am w4.heap.size w4 w7):=G6.out.drew.trans (hb.mono G6.out.size);refine aa _ _ (ai.out _ G7.out) ?_;clear aa K' hb hv;refine zn rfl ?_;intro K' aa;go_simp;refine(di.out _ w7 G7.out HV.out).mono ?_;rintro e w8 ⟨A8,c8,rfl,hr,hb⟩;have HM8:=zH hr;have HL8:=zH ((HL7.out.keep hb).more hb.size);have G8:=zH (Lc G7.out hb);refine aa _ _ (ai.out _ G8.out) ?_;clear aa K' hb hr
 repeat
  apply zj rfl
  . rintro K' aa X ⟨u1,u2⟩
    obtain⟨x0,x1,x2,x3,x4,x5,x6,x7,x8,x9⟩:=zK (u1);obtain⟨y0,y1,y2,y3,y4,y5,_⟩:=Ki (u2);clear u1 u2;go_simp;exact aa
 refine zy ?_;obtain⟨w9,Kt,d9,po,ey⟩:=zm w8 #[Ah Aw,Ah Aw,Ah Au,Ah Au] 4
 have Ie:BAt w9 w9.heap.size (J ⟨w8.heap.size,0,Z⟩) [Aw,Aw,Au,Au]:=fun _=>⟨_,0,rfl,zk d9,fun i hi=>by
  have h4:i=0\/i=1\/i=2\/i=3:=by have:i<4:=hi;omega
  rcases h4 with rfl | rfl | rfl | rfl<;>exact zh d9 _ rfl⟩
 have HC:=zH (Qa A6 (J ⟨w8.heap.size,0,Z⟩) c6 4 [Aw,Aw,Au,Au] [Aw,Aw,Au,Au] w9 w9.heap.size (Ld _) ((HL8.out.keep ey).more ey.size) Ie (by decide) (by decide));rw[show decide (([Aw,Aw,Au,Au]:List Bool)=[Aw,Aw,Au,Au])=Au by decide] at HC;have HM9:=zH ((HM8.out.keep ey).more ey.size);have Tp:=zH Kt;have G9:=zH (Lc G8.out ey);have Ou:=zH po;clear Kt d9 po ey Ie BN TF aq di;go_wp2_with fail;rw[Tp.out];refine HC.out.mono ?_;rintro e wx ⟨rfl,n9,rfl⟩;obtain⟨v9,Dz⟩:=Kk (w9.drewN n9);have ey:Am w9.heap.size w9 v9:=by rw[<-Dz];exact yv (Li _ _) n9
 have I8:=zH (Lc G9.out ey);have HM10:=zH ((HM9.out.keep ey).more ey.size);obtain⟨wa,ec,da,ie,CF⟩:=zm v9 (xZ [Aw,Aw,Aw,Aw]) 4
 have hqa:BAt wa wa.heap.size (J ⟨v9.heap.size,0,Z⟩) [Aw,Aw,Aw,Aw]:=fun _=>⟨_,0,rfl,zk da,fun i hi=>by
  have h4:i=0\/i=1\/i=2\/i=3:=by have:i<4:=hi;omega
  rcases h4 with rfl | rfl | rfl | rfl<;>exact zh da _ rfl⟩
 have dV:=zH (Qa A8 (J ⟨v9.heap.size,0,Z⟩) c8 4 [Aw,Aw,Aw,Aw] [Aw,Aw,Aw,Aw] wa wa.heap.size (Ld _) ((HM10.out.keep CF).more CF.size) hqa (by decide) (by decide));rw[show decide (([Aw,Aw,Aw,Aw]:List Bool)=[Aw,Aw,Aw,Aw])=Au by decide] at dV;have iD:∀W:Ba,(Instr.makeSlice 58 (O U 4) (O U 4)).run Al W=.ok (I (J ⟨W.heap.size,0,Z⟩) 4 4) (W.alloc (Ag (xZ (List.replicate 4 Aw)) 4)):=fun W=>xy 4 (by decide) W
 have o8:=zH ec;have GA:=zH (Lc I8.out CF);rw[Dz];clear ec da ie CF hqa HC ey;go_wp2_with fail;rw[o8.out];refine dV.out.mono ?_;rintro e wx ⟨rfl,Sg,rfl⟩;have cF:Aq (Am w.heap.size w (wa.drewN Sg)):=yv (Lc fK.out GA.out) Sg;go_wp2_with fail;go_ret;exact⟨rfl,cF.out⟩
end
end Go.Proofs.YtkmbdfdaffmhjaaGreat
