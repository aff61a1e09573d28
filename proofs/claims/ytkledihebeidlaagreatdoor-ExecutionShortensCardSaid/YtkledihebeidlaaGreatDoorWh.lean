/- Merged. -/
import Derived.Test.YtkledihebeidlaaGreatDoorWg
open Go.Proofs.Tryz
open Go.Value renaming int->O,slice->I,bool->Ai
open Go.IntKind renaming i64->U
open Option renaming none->Z,some->J
open Go.Obj renaming cells->Ah
open Go.Ending renaming returned->Am
open Go.Proofs.Tryz renaming prog->An
open Go.RowKit renaming Below->Ao,intOf->Aq,Hid->As
open Go renaming Calls->Ap,Value->Au
open Bool renaming true->Av,false->Ax
namespace Go.Proofs.YtkledihebeidlaaGreatDoor
set_option maxRecDepth 100000
set_option maxHeartbeats 4000000
open Go.RowKit Go.Shelf
attribute [local go_sem] Oper.semAt_some
theorem RAt.take{w:Ba}{B:Nat}{A:Bb}{rs:List Rd}(h:RAt w B A rs)(k:Nat):RAt w B A (rs.take k):=fun h0=>by
 rw[Nd] at h0;obtain⟨b,o,e,hb,hc⟩:=h (by omega);refine⟨b,o,e,hb,fun i hi=>?_⟩;have dq:i<rs.length:=by rw[Nd] at hi;omega
 have:=hc i dq;rw[List.getElem_take];exact this
theorem shA_set(bs:List Bool)(i:Nat)(b:Bool):(yy bs).set! i (Ai b)=yy (bs.set i b):=by
 unfold yy;rw[Array.set!_eq_setIfInBounds,RP,List.map_set]
theorem shA_at(bs:List Bool)(i:Nat)(h:i<bs.length):(yy bs)[i]?=J (Ai bs[i]):=by unfold yy;simp[h]
theorem sh_blk{w:Ba}{g:Nat}{cs:Array Au}{t:TypeId}(h:w.heap[g]?=J (Ah cs t (0,0)))(i:Nat)(v:Au):(w.setCell ⟨g,i,Z⟩ v).heap[g]?=J (Ah (cs.set! i v) t (0,0)):=by
 rw[World.setCell,N9,Ln rfl,h]
 rfl
theorem ZQ(p:Pb)(hl:uI p)(A:Bb)(kc:Nat)(SV:Bb)(ks:Nat)(w:Ba)(hA:CAt w w.heap.size A p.t.cases)(hS:SAt w w.heap.size SV p.a.sts) :
  Ap An 4 #[.agg (p.vs A kc SV ks)] w fun e w'=>e=Am (Ai Av)/\Ao w.heap.size w w':=by
 obtain⟨w1,ah,d0,bI,aB⟩:=zt w (p.vs A kc SV ks) 29;have eP:=hA.keep aB;have nX:=hS.keep aB;have ce:=zH (Y3 p hl A kc SV ks w1 w.heap.size aB.size eP nX);have iH:=zH (fun h=>qs (p:=p) h);have my:=zH (fun h hk=>XQ (p:=p) h hk);have TP:=zH hl;have HA:=zH hA;have HS:=zH hS;obtain⟨r,hr⟩:=Kh (xj p);unfold vP at ce;rw[hr] at ce;have im:=zH hr;unfold Pb.vs at ah d0 ce ⊢;have aq:=zH ah;have bu:=zH d0;have dC:=zH aB;have eR:=zH bI;obtain⟨p0,p1,p2,p3,p4,p5,p6,_⟩:=Kf (d0);clear ah d0 aB hA hS eP nX hr hl bI;go_enter func4,ntmps4;go_wp2_with fail;rw[aq.out];go_wp2_with fail;refine ce.out.mono ?_;rintro e w2 ⟨h1,h2,af⟩;have G2:=zH af;have B2:=zH (Lc dC.out af);have dX:=af.size;have eS:=zH (La af bu.out);clear ce aq p0 p1 p2 p3 p4 p5 p6 af
 cases r with
 | false=>
  obtain rfl:=h1 rfl;clear h1 h2 iH my;go_wp2_with fail;refine(vL _).mono ?_;rintro e w3 ⟨rfl,ap⟩;have B3:=zH (B2.out.trans (((zw w2 _).trans (ap.mono (by simp))).mono B2.out.size));clear ap;go_wp2_with fail;go_ret;exact⟨rfl,B3.out⟩
 | true=>
 obtain⟨A2,dM,da,dL,fY,iy,ix,lH,rfl,iD,eF,fD⟩:=h2 rfl;obtain⟨pm,mO,hf,h0,df,Be,K,N,hF,rC⟩:=iH.out im.out;have iM:=YZ h0 hF;have dN:p.k=(K:Int):=hF.k;have lO:=hF.k6;obtain⟨W3,bP,b3,sh,aZ⟩:=zt w2 ((zq p).vs_ A2 dM da dL fY iy ix lH) 36;have aw:=zH (La aZ eS.out);have C3:=zH (Lc B2.out aZ);have p6:=za aw.out 6 rfl;have f6:=zb aw.out 6
 by_cases cq:p.k=0
 . have e0:(p.k==0)=Av:=by rw[cq];rfl
   unfold Sy.vs_ at bP ⊢;have dV:=zH bP;clear h1 h2 iD eF fD pm mO hf h0 df Be hF rC iM dN lO bP b3 sh aZ iH my cq;go_upto_region 2 with fail
   rw[dV.out];go_wp2_with fail;refine(vL _).mono ?_;rintro e w4 ⟨rfl,aU⟩;have B4:=zH (Lc C3.out aU);clear aU;go_wp2_with fail;go_ret;exact⟨rfl,B4.out⟩
 obtain⟨KT,rfl⟩:∃KT,K=KT+1:=⟨K-1,by omega⟩;have sB:p.k-1=(KT:Int):=by rw[dN];push_cast;omega
 have e0:(p.k==0)=Ax:=by simpa using cq
 obtain⟨Ds,sq,IR,BG,tB,H8,K',N',pu,tm⟩:=qs (my.out im.out cq);have sm:=YZ BG pu;have eq:KT=K':=by have h1:p.k-1=(K':Int):=pu.k;omega
 have DO:N=N':=by have h1:p.t.n=(N':Int):=pu.pn;have h2:p.t.n=(N:Int):=hF.pn;omega
 subst eq;subst DO;have KH:uI (qk p):=TP.out;have EB:As (LowS (zq (qk p))):=by have:=qM KH IR;rw[Ds] at this;exact this
 have EM:As (xY (zq (qk p)).p):=IR;obtain⟨cK,dO,-,-,-⟩:=zJ h0;obtain⟨OH,dP,-⟩:=yq hf.1.2 dO;have tK:=zH (fun (i:Nat) (hi:i<(zq p).xs.length)=>sh_turn rC tm hF pu iM sm sq rfl rfl hi);have pQ:=zH (sh_all rC tm hF rfl rfl OH dP);have F7:=zH (fun x (hx:x∈(zq p).xs)=>And.intro (hF.word x hx).1 (hF.views x hx));have Mi:=zH (fun x (hx:x∈(zq (qk p)).xs)=>pu.views x hx);have oY:=hF.lx;have Id:=pu.lx;have Bi:=hF.lv;have Ie:=pu.lv;have na:=hF.n5;have ia:p.t.n=(N:Int):=hF.pn;have iO:W3.heap.size=w2.heap.size+1:=sh;obtain⟨X4,Bz⟩:=Kh (W3.setCell ⟨w.heap.size,6,Z⟩ (O U (KT:Int)));have z4:X4.heap.size=W3.heap.size:=by rw[<-Bz];simp[World.setCell]
 have s4:∀k,k≠w.heap.size->X4.heap[k]?=W3.heap[k]?:=fun k hk=>by rw[<-Bz];exact Lf W3 ⟨w.heap.size,6,Z⟩ _ k hk
 have C4:As (Ao w.heap.size w X4):=by rw[<-Bz];exact C3.out.setCell (by show w.heap.size<=w.heap.size;omega) _
 have E4:As (X4.heap[w.heap.size]?=J (Ah #[O U p.t.n,O U p.t.ins,O U p.t.outs,I A p.t.cases.length kc,O U p.a.n,I SV p.a.sts.length ks,O U (KT:Int)] 29 (0,0))):=by
  rw[<-Bz];exact sh_blk aw.out 6 (O U (KT:Int))
 have Sg:=C4.out.size;have px:=Y3 (qk p) KH A kc SV ks X4 w.heap.size Sg (HA.out.keep C4.out) (HS.out.keep C4.out);have ev:(qk p).vs A kc SV ks=#[O U p.t.n,O U p.t.ins,O U p.t.outs,I A p.t.cases.length kc,O U p.a.n,I SV p.a.sts.length ks,O U (KT:Int)]:=by unfold Pb.vs qk;rw[sB]
 rw[ev] at px;unfold vP at px;have eD:=zH px;have HRU:=zH (my.out im.out cq)
 have tL:As (∀X:Ba,X4.heap.size<=X.heap.size->(∀k,k<X4.heap.size->X.heap[k]?=X4.heap[k]?)->SyAt X X.heap.size A2 da fY ix (zq p)/\XCap X ix (zq p).xs):=fun X hz hk=>by
  refine iD X (by omega) fun k Il dv=>?_
  have eo:k≠w.heap.size:=by have:=eR.out;omega
  rw[hk k (by omega),s4 k eo];exact aZ.block k dv
 obtain⟨T,hT⟩:=Kh (zq p);obtain⟨Ab,hU⟩:=Kh (zq (qk p));have HTn:As (T.n=(N:Int)):=by rw[<-hT];exact hF.n
 have HUn:As (Ab.n=(N:Int)):=by rw[<-hU];exact pu.n
 rw[hT] at tK pQ F7 oY Bi tL iD eF bP b3 iM mO ⊢;rw[hU] at EB EM tK pQ Mi Id Ie eD sm sq
 have E2:As (X4.heap[w2.heap.size]?=J (Ah (T.vs_ A2 dM da dL fY iy ix lH) 36 (0,0))):=by
  rw[As,s4 _ (by have:=eR.out;omega)];exact b3
 have TU:=zH (And.intro eF fD);have Ex:As ((N:Int)<=3):=by rw[<-ia];exact Be
 unfold Sy.vs_ at bP E2 ⊢;have dV:=zH bP;have Tt:=zH Bz;have rU:=zH ia;have Ha:IntKind.i64.wrap (p.k-1)=(KT:Int):=by rw[sB,Lw];omega
 have P3:=aw;clear h1 h2 iD eF fD pm mO hf h0 df Be hF rC iM dN sB bP b3 sh aZ iH my cq Ds sq IR BG tB H8 pu tm sm cK dO OH dP hT hU Bz px ev s4 KH ia HA HS TP;go_upto_region 2 with fail
 rw[dV.out];obtain⟨p0,p1,p2,p3,p4,p5,_⟩:=Kg P3.out;go_wp2_with fail;rw[Tt.out];refine eD.out.mono ?_;rintro e w5 ⟨-,h2,cd⟩;obtain⟨A5,Cp,BI,Cn,pR,pV,Cc,sf,rfl,Sx,mg,AK⟩:=h2 HRU.out;obtain⟨W6,mp,b6,GR,lc⟩:=zt w5 (Ab.vs_ A5 Cp BI Cn pR pV Cc sf) 36;have lA:=cd.size;have tC:Ao X4.heap.size X4 W6:=cd.trans (lc.mono lA);have Ue:=zH (C4.out.trans (tC.mono Sg))
 have Gi:As (∀X,Ao W6.heap.size W6 X->X.heap[w.heap.size]?=J (Ah #[O U p.t.n,O U p.t.ins,O U p.t.outs,I A p.t.cases.length kc,O U p.a.n,I SV p.a.sts.length ks,O U (KT:Int)] 29 (0,0))):=fun X hX=>by
  have h9:=La tC E4.out;exact La hX h9
 have nC:As (∀X,Ao W6.heap.size W6 X->X.heap[w2.heap.size]?=J (Ah #[O U T.p.t.n,O U T.p.t.ins,O U T.p.t.outs,I A2 T.p.t.cases.length dM,O U T.p.a.n,I da T.p.a.sts.length dL,O U T.p.k,O U T.n,I fY T.vs.length iy,I ix T.xs.length lH] 36 (0,0))):=fun X hX=>by
  have h9:=La tC E2.out;exact La hX h9
 have Ge:As (∀X,Ao W6.heap.size W6 X->X.heap[w5.heap.size]?=J (Ah #[O U Ab.p.t.n,O U Ab.p.t.ins,O U Ab.p.t.outs,I A5 Ab.p.t.cases.length Cp,O U Ab.p.a.n,I BI Ab.p.a.sts.length Cn,O U Ab.p.k,O U Ab.n,I pR Ab.vs.length pV,I Cc Ab.xs.length sf] 36 (0,0))):=fun X hX=>La hX b6
 have Gg:As (∀X,Ao W6.heap.size W6 X->SyAt X X.heap.size A2 da fY ix T/\XCap X ix T.xs):=fun X hX=>tL.out X (Lx tC.size hX.size) fun k hk=>(hX.block k (LE hk tC.size)).trans (tC.block k hk)
 have Gd:As (∀X,Ao W6.heap.size W6 X->SyAt X X.heap.size A5 BI pR Cc Ab):=fun X hX=>(Sx X (Lx lc.size hX.size) fun k _ hk=>(hX.block k (by omega)).trans (lc.block k hk)).1
 have pL:=zH (fun (c:Int) (word:List Rd) (ec:word.length<=100) (Aw:Bb) (kw:Nat) (X:Ba) (hX:Ao W6.heap.size W6 X) (hW:RAt X X.heap.size Aw word)=>Jj Ab EB.out EM.out c word (Lx ec (by decide)) A5 BI pR Cc Aw Cp Cn pV sf kw X (Gd.out X hX) hW);have Ty:=zH (fun (i:Int) (X:Ba) (hX:Ao W6.heap.size W6 X)=>jv T.n fY iy T.vs i (fits3 (by rw[HTn.out];exact Ex.out) i) X ⟨(Gg.out X hX).1.fv,TU.out.1,TU.out.2,by omega⟩);have Tx:=zH (fun (i:Int) (X:Ba) (hX:Ao W6.heap.size W6 X)=>jv Ab.n pR pV Ab.vs i (fits3 (by rw[HUn.out];exact Ex.out) i) X ⟨(Gd.out X hX).fv,mg,AK,by omega⟩);obtain⟨W7,iC,b7,oI,rG⟩:=zt W6 (yy (List.replicate Ab.xs.length Ax)) 4;have dF:=jE Ab.xs.length (by omega);unfold Sy.vs_ at mp pL ⊢;have ny:=zH mp;have F':=zH iC;have lm:=zH b7;have G7:=zH rG;have Gz:As (Ao W6.heap.size W6 W6):=Lp _ _;clear h2 Sx mp b6 GR lc lA tC cd mg AK iC b7 rG oI eD dV Tt p0 p1 p2 p3 p4 p5 p6 E4 E2 tL z4 iO dX C4 C3 aw eS P3 f6;go_upto_region 6 with fail
 rw[ny.out];have y9:=za (Ge.out _ Gz.out) 9 rfl;go_upto_region 9 with fail
 rw[F'.out];clear y9 dF;have y9:=za (nC.out _ G7.out) 9 rfl;go_wp2_with fail;clear y9
 go_loopw [68] (fun i wr=>∃k:Nat,k<=T.xs.length/\i=O U (k:Int)/\As (wr.heap[W6.heap.size]?=J (Ah (yy (shL T Ab KT k)) 4 (0,0)))/\As (Ao W6.heap.size W6 wr)) (fun i _=>T.xs.length-(Aq i).toNat)
 case atStart=>exact⟨0,by omega,rfl,lm.out,G7⟩
 obtain⟨k,hk,rfl,HF,HB⟩:=hrel;have oJ:IntKind.i64.wrap ((k:Int)+1)=((k+1:Nat):Int):=by rw[Lw];omega
 clear Ha e0
 by_cases ac:k<T.xs.length
 . have cq:(0:Int)<=(k:Int):=by omega
   have cy:(k:Int)<(T.xs.length:Int):=by omega
   obtain⟨j,hj,CF,IQ,Fk⟩:=tK.out k ac;obtain⟨oK,cm⟩:=F7.out _ (Ld ac);have Hc:=Mi.out _ (Ld hj);obtain⟨bX,oX,A7,n7,A8,n8,rfl,iZ,x0,x1,x2,KA,KF⟩:=(Gg.out W6 Gz.out).1.fx.row k ac;have Sq:=(Gg.out W6 Gz.out).2 bX oX Z rfl k ac _ _ _ x1;have x0:=(HB.out.cell (p:=⟨bX,oX+k*3,Z⟩) iZ).trans x0;have x1:=(HB.out.cell (p:=⟨bX,oX+k*3+1,Z⟩) iZ).trans x1;have x2:=(HB.out.cell (p:=⟨bX,oX+k*3+2,Z⟩) iZ).trans x2;obtain⟨x,hx⟩:=Kh (T.xs[k]);rw[hx] at x0 x1 x2 KA KF Sq IQ Fk oK cm;obtain⟨y,hy⟩:=Kh (Ab.xs[j]);rw[hy] at Fk Hc;have mR:(x.word.take KT).length=KT:=by rw[Nd,oK];omega
   have B6:=zH (pL.out x.c (x.word.take KT) (by rw[mR];omega));rw[IQ,mR] at B6;have Ts:=zH (And.intro oK cm);have Tr:=zH Hc;have Em:=zH Fk;have Ip:(KT:Int)<=(n7:Int):=by omega
   have In:KT<=n7:=by omega
   have Io:(0:Int)<=(KT:Int):=by omega
   have sW:W6.heap.size<wr.heap.size:=zd HF.out;obtain⟨W8,DE,d8,AN,lW⟩:=zt wr #[O U x.c,I A7 x.word.length n7,I A8 x.views.length n8] 42;have HW8:=zH DE;have G8:As (Ao W6.heap.size W6 W8):=Lc HB.out lW;have Ua:=zH (Lb lW sW HF.out);have rO:As (∀X,Ao W8.heap.size W8 X->RAt X X.heap.size A7 (x.word.take KT)):=fun X hX=>((KA.keep (Lc G8.out hX)).more (Lx G8.out.size hX.size)).take KT
   have Gl:As (∀X,Ao W6.heap.size W6 X->LAt X X.heap.size A8 x.views):=fun X hX=>(KF.keep hX).more hX.size
   obtain⟨bE,pm⟩:=Kh wr.heap.size;rw[pm] at d8 AN sW;have Gt:As (∀X,Ao W8.heap.size W8 X->X.heap[bE]?=J (Ah #[O U x.c,I A7 x.word.length n7,I A8 x.views.length n8] 42 (0,0))):=fun X hX=>La hX d8
   have BY:=zH hj;have HSH:=zH CF;have BJ:As (Ab.xs[j]'BY.out=y):=hy;have oN:∀X,Ao W8.heap.size W8 X->Ao W6.heap.size W6 X:=fun X hX=>Lc G8.out hX
   have BM:=zH (fun (X:Ba) (hX:Ao W8.heap.size W8 X)=>Gi.out X (oN X hX));have Mq:=zH (fun (X:Ba) (hX:Ao W8.heap.size W8 X)=>Ge.out X (oN X hX));have T':=zH (fun (X:Ba) (hX:Ao W8.heap.size W8 X)=>B6.out A7 n7 X (oN X hX) (rO.out X hX));have Gy:As (Ao W8.heap.size W8 W8):=Lp _ _;have TF:As (bE<W8.heap.size/\W6.heap.size<bE):=⟨by omega,sW⟩;clear CF IQ Fk oK cm Hc KA KF Sq hx hy mR DE d8 AN lW oN hj;go_upto_region 12 with fail
   rw[HW8.out];clear x0 x1 x2 pm iZ;have iq:As (∀X,Ao W8.heap.size W8 X->X.heap[w5.heap.size]?=J (Ah #[O U Ab.p.t.n,O U Ab.p.t.ins,O U Ab.p.t.outs,I A5 Ab.p.t.cases.length Cp,O U Ab.p.a.n,I BI Ab.p.a.sts.length Cn,O U Ab.p.k,O U Ab.n,I pR Ab.vs.length pV,I Cc Ab.xs.length sf] 36 (0,0))/\X.cell? ⟨bE,0,Z⟩=J (O U x.c)/\X.cell? ⟨bE,1,Z⟩=J (I A7 x.word.length n7)/\X.cell? ⟨w.heap.size,6,Z⟩=J (O U (KT:Int))):=fun X hX=>⟨Mq.out X hX,za (Gt.out X hX) 0 rfl,za (Gt.out X hX) 1 rfl,za (BM.out X hX) 6 rfl⟩
   refine zz [(0,Av),(1,Av),(2,Av),(3,Av),(4,Av),(5,Av),(6,Av),(7,Av),(8,Ax),(9,Av),(10,Av),(11,Av),(12,Av),(13,Av)] (fun X=>X.heap[w5.heap.size]?=J (Ah #[O U Ab.p.t.n,O U Ab.p.t.ins,O U Ab.p.t.outs,I A5 Ab.p.t.cases.length Cp,O U Ab.p.a.n,I BI Ab.p.a.sts.length Cn,O U Ab.p.k,O U Ab.n,I pR Ab.vs.length pV,I Cc Ab.xs.length sf] 36 (0,0))/\X.cell? ⟨bE,0,Z⟩=J (O U x.c)/\X.cell? ⟨bE,1,Z⟩=J (I A7 x.word.length n7)/\X.cell? ⟨w.heap.size,6,Z⟩=J (O U (KT:Int))) (by kernel_rfl) (by kernel_rfl) (iq.out _ Gy.out.drew) ?_;apply zg rfl
   . rintro K' ae X u
     have e:=u.1;obtain⟨x0,x1,x2,x3,x4,x5,x6,x7,x8,x9⟩:=yg (e);clear u e;go_simp;exact ae
   apply zg rfl
   . rintro K' ae X -
     go_simp;exact ae
   apply zg rfl
   . rintro K' ae X u
     have z0:=u.2.1;have z1:=u.2.2.1;have z2:=u.2.2.2;clear u;go_simp;exact ae
   apply zg rfl
   . rintro K' ae X -
     go_simp;exact ae
   apply zg rfl
   . rintro K' ae X u
     have z0:=u.2.1;have z1:=u.2.2.1;have z2:=u.2.2.2;clear u;go_simp;exact ae
   apply zg rfl
   . rintro K' ae X -
     go_simp;exact ae
   apply zg rfl
   . rintro K' ae X u
     have z0:=u.2.1;have z1:=u.2.2.1;have z2:=u.2.2.2;clear u;go_simp;exact ae
   apply zg rfl
   . rintro K' ae X -
     go_simp;exact ae
   refine zE rfl ?_;intro K' ae;go_simp;refine(T'.out W8.drew Gy.out.drew).mono ?_;rintro e wY ⟨rfl,hb⟩;have GY:=zH (Lc Gy.out.drew hb);refine ae _ _ (iq.out _ GY.out) ?_;clear ae K' hb;apply zg rfl
   . rintro K' ae X -
     go_simp;exact ae
   apply zg rfl
   . rintro K' ae X -
     go_simp;exact ae
   apply zg rfl
   . rintro K' ae X -
     go_simp;exact ae
   apply zg rfl
   . rintro K' ae X -
     go_simp;exact ae
   apply zg rfl
   . rintro K' ae X -
     go_simp;exact ae
   refine ya ?_;have rk:(0:Int)<=(j:Int):=by omega
   have pc:(j:Int)<(Ab.xs.length:Int):=by have:=BY.out;omega
   have VC:¬(Ab.xs.length:Int)<=(j:Int):=by omega
   have Ir:¬(j:Int)<0:=by omega
   have y9:=za (Mq.out _ GY.out) 9 rfl;have Gr:=zH (Lb GY.out (by have:=TF.out;omega) Ua.out);have P8:j<(shL T Ab KT k).length:=by rw[kN];exact BY.out
   have cj:=za Gr.out j (shA_at _ j P8);have fj:=zb Gr.out j;have aA:=zd Gr.out;obtain⟨bj,bV⟩:=Kh ((shL T Ab KT k)[j]);rw[bV] at cj;clear bV P8;go_upto_region 16 with fail
   obtain⟨W9,fM⟩:=Kh (wY.setCell ⟨W6.heap.size,j,Z⟩ (Ai Av));have s9:∀b,b≠W6.heap.size->W9.heap[b]?=wY.heap[b]?:=fun b hb=>by rw[<-fM];exact Lf wY ⟨W6.heap.size,j,Z⟩ _ b hb
   have z9:W9.heap.size=wY.heap.size:=by rw[<-fM];simp[World.setCell]
   have G9:As (Ao W6.heap.size W6 W9):=by
    rw[<-fM];exact(Lc G8.out GY.out).setCell (by show W6.heap.size<=W6.heap.size;omega) _
   have EO:As (W9.heap[W6.heap.size]?=J (Ah (yy (shL T Ab KT (k+1))) 4 (0,0))):=by
    rw[<-fM];have:=sh_blk Gr.out j (Ai Av);rw[As,this,shA_set,<-HSH.out]
    rfl
   have Uc:As (∀X,Ao W9.heap.size W9 X->X.heap[bE]?=J (Ah #[O U x.c,I A7 x.word.length n7,I A8 x.views.length n8] 42 (0,0))):=fun X hX=>by
    have h1:=Gt.out _ GY.out;exact Lb hX (by rw[z9];exact zd h1) ((s9 _ (by have:=TF.out;omega)).trans h1)
   have F9:=zH fM;have hwK:IntKind.i64.wrap ((KT:Int)+1)=((KT+1:Nat):Int):=by rw[Lw];omega
   have p6:=za (Gi.out _ G9.out) 6 rfl;have G10:As (Ao W9.heap.size W9 W9):=Lp _ _;clear fM s9 z9 cj fj y9 aA Ip In Io rk pc VC Ir;rw[F9.out];go_wp2_with fail;clear p6
   go_loopw [103] (fun i wx=>∃m:Nat,m<=KT+1/\i=O U (m:Int)/\As (Ao W9.heap.size W9 wx)) (fun i _=>KT+1-(Aq i).toNat)
   case atStart=>exact⟨0,by omega,rfl,G10⟩
   obtain⟨m,hm,rfl,HM⟩:=hrel;have iA:IntKind.i64.wrap ((m:Int)+1)=((m+1:Nat):Int):=by rw[Lw];omega
   by_cases dF:m<KT+1
   . have lN:(0:Int)<=(m:Int):=by omega
     have sM:(m:Int)<((KT+1:Nat):Int):=by omega
     have Ib:(m:Int)<(KT:Int)+1:=by omega
     obtain⟨wM,OP⟩:∃wM,wM=wr:=⟨_,rfl⟩;rw[<-OP] at HM ⊢;have G11:As (Ao W6.heap.size W6 wM):=Lc G9.out HM.out;have p0:=za (Gi.out _ G11.out) 0 rfl;rw[rU.out] at p0;clear OP;go_wp2_with fail;clear p0
     go_loopw [109] (fun i wy=>∃q:Nat,q<=N/\i=O U (q:Int)/\As (Ao W9.heap.size W9 wy)) (fun i _=>N-(Aq i).toNat)
     case atStart=>exact⟨0,by omega,rfl,HM⟩
     obtain⟨q,hq,rfl,HQ⟩:=hrel;have hwq:IntKind.i64.wrap ((q:Int)+1)=((q+1:Nat):Int):=by rw[Lw];omega
     by_cases CO:q<N
     . have lL:(0:Int)<=(q:Int):=by omega
       have rc:(q:Int)<(N:Int):=by omega
       obtain⟨He,Cx⟩:=Ts.out.2;obtain⟨Hi,Cz⟩:=Tr.out;have Bg:m<x.views.length:=by omega
       have Bf:m<y.views.length:=by omega
       have fI:(m:Int)<(x.views.length:Int):=by omega
       have Fs:(m:Int)<(y.views.length:Int):=by omega
       obtain⟨b1,o1,B1,c1,b2,o2,eA,aC,z1,eB,af,z2⟩:=row_xw (Gl.out W9 G9.out) Bg CO (Cx _ (Ld Bg)).1;subst eA eB;obtain⟨bU,oU,A9,n9,A10,Fa,eU,Sj,u0,u1,u2,_,KG⟩:=(Gd.out W9 G9.out).fx.row j BY.out;have OJ:Ab.xs[j]'BY.out=y:=BJ.out;rw[OJ] at u0 u1 u2 KG;subst eU;obtain⟨b3,o3,B3,c3,b4,o4,eA,ap,z3,eB,aU,z4⟩:=row_xw KG Bf CO (Cz _ (Ld Bf)).1;subst eA eB
       have B8:As (∀X,Ao W9.heap.size W9 X->X.cell? ⟨b1,o1+m,Z⟩=J (I (J ⟨b2,o2,Z⟩) N c1)/\X.cell? ⟨b2,o2+q,Z⟩=J (O U (xw x m q))/\X.cell? ⟨bU,oU+j*3+2,Z⟩=J (I (J ⟨b3,o3,Z⟩) y.views.length Fa)/\X.cell? ⟨b3,o3+m,Z⟩=J (I (J ⟨b4,o4,Z⟩) N c3)/\X.cell? ⟨b4,o4+q,Z⟩=J (O U (xw y m q))):=fun X hX=>
        ⟨(hX.cell (p:=⟨b1,_,Z⟩) aC).trans z1,(hX.cell (p:=⟨b2,_,Z⟩) af).trans z2,(hX.cell (p:=⟨bU,_,Z⟩) Sj).trans u2,(hX.cell (p:=⟨b3,_,Z⟩) ap).trans z3,(hX.cell (p:=⟨b4,_,Z⟩) aU).trans z4⟩
       have sr:∀X,Ao W9.heap.size W9 X->Ao W6.heap.size W6 X:=fun X hX=>Lc G9.out hX
       have Mu:=zH (fun (X:Ba) (hX:Ao W9.heap.size W9 X)=>nC.out X (sr X hX));have Gf:=zH (fun (X:Ba) (hX:Ao W9.heap.size W9 X)=>Ge.out X (sr X hX));have OU:=Em.out m q (by omega) CO;have oh:=zH (fun (X:Ba) (hX:Ao W9.heap.size W9 X)=>Ty.out (xw x m q) X (sr X hX));have l5:=zH (fun (X:Ba) (hX:Ao W9.heap.size W9 X)=>Tx.out (xw y m q) X (sr X hX));rw[<-OU] at l5;obtain⟨RT,SF⟩:=Kh (ka T.n T.vs (xw x m q));rw[SF] at oh l5;unfold RetText at oh l5;have bG:((⟨RT.1.toArray⟩:ByteArray)==⟨RT.1.toArray⟩)=Av:=(Go.MapKept.bytes_beq _ _).2 rfl;have rk:(0:Int)<=(j:Int):=by omega
       have pc:(j:Int)<(Ab.xs.length:Int):=by have:=BY.out;omega
       clear He Cx Hi Cz Bg Bf z1 z2 z3 z4 u0 u1 u2 KG OJ aC af ap aU Sj sr OU SF;go_upto_region 22 with fail
       have iq:As (∀X,Ao W9.heap.size W9 X->X.cell? ⟨w2.heap.size,7,Z⟩=J (O U T.n)/\X.cell? ⟨w2.heap.size,8,Z⟩=J (I fY T.vs.length iy)/\X.cell? ⟨bE,2,Z⟩=J (I (J ⟨b1,o1,Z⟩) x.views.length n8)/\X.cell? ⟨b1,o1+m,Z⟩=J (I (J ⟨b2,o2,Z⟩) N c1)/\X.cell? ⟨b2,o2+q,Z⟩=J (O U (xw x m q))):=fun X hX=>⟨za (Mu.out X hX) 7 rfl,za (Mu.out X hX) 8 rfl,za (Uc.out X hX) 2 rfl,(B8.out X hX).1,(B8.out X hX).2.1⟩
       refine zz [(0,Av),(1,Av),(2,Av),(3,Av),(4,Av),(5,Av),(6,Av),(7,Av),(8,Av),(9,Av),(10,Ax),(11,Av),(12,Av),(13,Av),(14,Av),(15,Av)] (fun X=>X.cell? ⟨w2.heap.size,7,Z⟩=J (O U T.n)/\X.cell? ⟨w2.heap.size,8,Z⟩=J (I fY T.vs.length iy)/\X.cell? ⟨bE,2,Z⟩=J (I (J ⟨b1,o1,Z⟩) x.views.length n8)/\X.cell? ⟨b1,o1+m,Z⟩=J (I (J ⟨b2,o2,Z⟩) N c1)/\X.cell? ⟨b2,o2+q,Z⟩=J (O U (xw x m q))) (by kernel_rfl) (by kernel_rfl) (iq.out _ HQ.out.drew) ?_;apply zg rfl
       . rintro K' ae X -
         go_simp;exact ae
       apply zg rfl
       . rintro K' ae X u
         have z0:=u.1;have z1:=u.2.1;have z2:=u.2.2.1;have z3:=u.2.2.2.1;have z4:=u.2.2.2.2;clear u;go_simp;exact ae
       apply zg rfl
       . rintro K' ae X -
         go_simp;exact ae
       apply zg rfl
       . rintro K' ae X u
         have z0:=u.1;have z1:=u.2.1;have z2:=u.2.2.1;have z3:=u.2.2.2.1;have z4:=u.2.2.2.2;clear u;go_simp;exact ae
       apply zg rfl
       . rintro K' ae X -
         go_simp;exact ae
       apply zg rfl
       . rintro K' ae X -
         go_simp;exact ae
       apply zg rfl
       . rintro K' ae X u
         have z0:=u.1;have z1:=u.2.1;have z2:=u.2.2.1;have z3:=u.2.2.2.1;have z4:=u.2.2.2.2;clear u;go_simp;exact ae
       apply zg rfl
       . rintro K' ae X -
         go_simp;exact ae
       apply zg rfl
       . rintro K' ae X -
         go_simp;exact ae
       apply zg rfl
       . rintro K' ae X u
         have z0:=u.1;have z1:=u.2.1;have z2:=u.2.2.1;have z3:=u.2.2.2.1;have z4:=u.2.2.2.2;clear u;go_simp;exact ae
       refine zE rfl ?_;intro K' ae;go_simp;refine(oh.out wr.drew HQ.out.drew).mono ?_;rintro e wY ⟨rfl,hb⟩;have GY:=zH (Lc HQ.out.drew hb);refine ae _ _ (iq.out _ GY.out) ?_;clear ae K' hb;apply zg rfl
       . rintro K' ae X -
         go_simp;exact ae
       apply zg rfl
       . rintro K' ae X -
         go_simp;exact ae
       apply zg rfl
       . rintro K' ae X -
         go_simp;exact ae
       apply zg rfl
       . rintro K' ae X -
         go_simp;exact ae
       apply zg rfl
       . rintro K' ae X -
         go_simp;exact ae
       refine ya ?_;go_upto_region 23 with fail
       have iq:As (∀X,Ao W9.heap.size W9 X->X.cell? ⟨w5.heap.size,7,Z⟩=J (O U Ab.n)/\X.cell? ⟨w5.heap.size,8,Z⟩=J (I pR Ab.vs.length pV)/\X.cell? ⟨w5.heap.size,9,Z⟩=J (I (J ⟨bU,oU,Z⟩) Ab.xs.length sf)/\X.cell? ⟨bU,oU+j*3+2,Z⟩=J (I (J ⟨b3,o3,Z⟩) y.views.length Fa)/\X.cell? ⟨b3,o3+m,Z⟩=J (I (J ⟨b4,o4,Z⟩) N c3)/\X.cell? ⟨b4,o4+q,Z⟩=J (O U (xw y m q))):=fun X hX=>⟨za (Gf.out X hX) 7 rfl,za (Gf.out X hX) 8 rfl,za (Gf.out X hX) 9 rfl,(B8.out X hX).2.2.1,(B8.out X hX).2.2.2.1,(B8.out X hX).2.2.2.2⟩
       refine zz [(0,Av),(1,Av),(2,Av),(3,Av),(4,Av),(5,Av),(6,Av),(7,Av),(8,Av),(9,Av),(10,Av),(11,Av),(12,Av),(13,Av),(14,Ax),(15,Av),(16,Av),(17,Av),(18,Av),(19,Av)] (fun X=>X.cell? ⟨w5.heap.size,7,Z⟩=J (O U Ab.n)/\X.cell? ⟨w5.heap.size,8,Z⟩=J (I pR Ab.vs.length pV)/\X.cell? ⟨w5.heap.size,9,Z⟩=J (I (J ⟨bU,oU,Z⟩) Ab.xs.length sf)/\X.cell? ⟨bU,oU+j*3+2,Z⟩=J (I (J ⟨b3,o3,Z⟩) y.views.length Fa)/\X.cell? ⟨b3,o3+m,Z⟩=J (I (J ⟨b4,o4,Z⟩) N c3)/\X.cell? ⟨b4,o4+q,Z⟩=J (O U (xw y m q))) (by kernel_rfl) (by kernel_rfl) (iq.out _ GY.out.drew) ?_;apply zg rfl
       . rintro K' ae X -
         go_simp;exact ae
       apply zg rfl
       . rintro K' ae X u
         have z0:=u.1;have z1:=u.2.1;have z2:=u.2.2.1;have z3:=u.2.2.2.1;have z4:=u.2.2.2.2.1;have z5:=u.2.2.2.2.2;clear u;go_simp;exact ae
       apply zg rfl
       . rintro K' ae X -
         go_simp;exact ae
       apply zg rfl
       . rintro K' ae X u
         have z0:=u.1;have z1:=u.2.1;have z2:=u.2.2.1;have z3:=u.2.2.2.1;have z4:=u.2.2.2.2.1;have z5:=u.2.2.2.2.2;clear u;go_simp;exact ae
       apply zg rfl
       . rintro K' ae X -
         go_simp;exact ae
       apply zg rfl
       . rintro K' ae X -
         go_simp;exact ae
       apply zg rfl
       . rintro K' ae X -
         go_simp;exact ae
       apply zg rfl
       . rintro K' ae X u
         have z0:=u.1;have z1:=u.2.1;have z2:=u.2.2.1;have z3:=u.2.2.2.1;have z4:=u.2.2.2.2.1;have z5:=u.2.2.2.2.2;clear u;go_simp;exact ae
       apply zg rfl
       . rintro K' ae X -
         go_simp;exact ae
       apply zg rfl
       . rintro K' ae X -
         go_simp;exact ae
       apply zg rfl
       . rintro K' ae X u
         have z0:=u.1;have z1:=u.2.1;have z2:=u.2.2.1;have z3:=u.2.2.2.1;have z4:=u.2.2.2.2.1;have z5:=u.2.2.2.2.2;clear u;go_simp;exact ae
       apply zg rfl
       . rintro K' ae X -
         go_simp;exact ae
       apply zg rfl
       . rintro K' ae X -
         go_simp;exact ae
       apply zg rfl
       . rintro K' ae X u
         have z0:=u.1;have z1:=u.2.1;have z2:=u.2.2.1;have z3:=u.2.2.2.1;have z4:=u.2.2.2.2.1;have z5:=u.2.2.2.2.2;clear u;go_simp;exact ae
       refine zE rfl ?_;intro K' ae;go_simp;refine(l5.out wY.drew GY.out.drew).mono ?_;rintro e wY ⟨rfl,hb⟩;have GY:=zH (Lc GY.out.drew hb);refine ae _ _ (iq.out _ GY.out) ?_;clear ae K' hb;apply zg rfl
       . rintro K' ae X -
         go_simp;exact ae
       apply zg rfl
       . rintro K' ae X -
         go_simp;exact ae
       apply zg rfl
       . rintro K' ae X -
         go_simp;exact ae
       apply zg rfl
       . rintro K' ae X -
         go_simp;exact ae
       apply zg rfl
       . rintro K' ae X -
         go_simp;exact ae
       refine ya ?_;have HBQ:=zH GY.out;clear oh l5 Mu Gf B8 GY Uc EO T' Mq BM Gt Ua B6 rO Gl Ts Tr Em nC Ge Gi Gg Gd pL Ty Tx pQ F7 Mi ny F' lm;go_wp2_with fail
       go_roundw
       case rel=>exact⟨q+1,by omega,by go_num,HBQ⟩
       simp[Aq];omega
     have rc:¬(q:Int)<(N:Int):=by omega
     go_wp2_with fail
     go_roundw
     case rel=>exact⟨m+1,by omega,by go_num,HQ⟩
     simp[Aq];omega
   have sM:¬(m:Int)<((KT+1:Nat):Int):=by omega
   have Ib:¬(m:Int)<(KT:Int)+1:=by omega
   have HFZ:=zH (La HM.out EO.out);have Nn:As (Ao W6.heap.size W6 wr):=Lc G9.out HM.out;go_wp2_with fail
   go_roundw
   case rel=>exact⟨k+1,by omega,by go_num,HFZ,Nn⟩
   simp[Aq];omega
 obtain Il:k=T.xs.length:=by omega
 have cy:¬(k:Int)<(T.xs.length:Int):=by omega
 have KM:=HF.out;rw[Il] at KM;have HC:=zH (bcont_any W6.heap.size (shL T Ab KT T.xs.length) Ab.xs.length (by rw[kN];omega) wr KM);rw[pQ.out,kN] at HC;clear Il KM;go_wp2_with fail;refine HC.out.mono ?_;rintro e w9 ⟨rfl,nq,rfl⟩;go_wp2_with fail;refine(vL _).mono ?_;rintro e pS ⟨rfl,nn⟩;have Nw:=zH (Ue.out.trans (((zx HB.out nq).trans (nn.mono (by have:=HB.out.size;simp;omega))).mono Ue.out.size));clear nn;go_wp2_with fail;go_ret;exact⟨rfl,Nw.out⟩
end Go.Proofs.YtkledihebeidlaaGreatDoor
