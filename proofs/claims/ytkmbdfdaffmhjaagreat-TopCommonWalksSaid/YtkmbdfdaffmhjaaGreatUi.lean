/- Merged. -/
import Derived.Test.YtkmbdfdaffmhjaaGreatUh
import Derived.Laws.ResultCell
open Go.Proofs.Tryz
open Go.Value renaming int->O,slice->I,bool->Ah,agg->Ai,pointer->Aj
open Go.IntKind renaming i64->U
open Option renaming none->Z,some->J
open Go.Obj renaming cells->Ag
open Go.Ending renaming returned->Ak
open Go.Proofs.Tryz renaming prog->Al
open Go.RowKit renaming Below->Am,intOf->Ar,Hid->As
open Go renaming Calls->An,Value->Au
open Bool renaming true->Av,false->Aw
open List renaming length_eq_zero_iff->RE
namespace Go.Proofs.YtkmbdfdaffmhjaaGreat
set_option maxRecDepth 100000
set_option maxHeartbeats 4000000
section
open Go.RowKit
attribute [local go_sem] Oper.semAt_some
def kFm:Kd:=⟨32,30,6,64,Ai #[O U 0,O U 0,O U 0,O U 0,O U 0,I Z 0 0]⟩
theorem kFm_ok:KdOk Al kFm:=⟨underlying30,by kernel_rfl,by rfl,by decide,by decide⟩
def flC(qs:List FmE):List Au:=qs.flatMap FmE.cs
theorem flC_at:∀(qs:List FmE) (i:Nat) (hi:i<qs.length) (j:Nat) (v:Au),(qs[i].cs)[j]?=J v->(flC qs)[i*6+j]?=J v
 | q::qs,0,_,j,v,h=>by
  have hj:j<q.cs.length:=(Lq.1 h).1;show(q.cs++flC qs)[0*6+j]?=J v;rw[P9,LI,LC hj];exact h
 | q::qs,i+1,hi,j,v,h=>by
  show(q.cs++flC qs)[(i+1)*6+j]?=J v;have h6:q.cs.length=6:=rfl;rw[Ly (by omega),h6,show(i+1)*6+j-6=i*6+j by omega];exact flC_at qs i (by simpa using hi) j v h
theorem JE(qs:List FmE)(q:FmE):flC (qs++[q])=flC qs++q.cs:=by simp[flC]
theorem fl_own{w:Ba}{base:Nat}{A:Bb}{n c:Nat}{qs:List FmE}(h:OwnR kFm w base (I A n c) n (flC qs))(hn:qs.length=n):FlAt w w.heap.size A qs:=fun h0=>by
 obtain⟨A',c',e,_,_,hr⟩:=h.form
 cases e
 obtain⟨g,rfl,_,hg,hc⟩:=hr (by omega);exact⟨g,0,rfl,hg,fun i hi j v hv=>by rw[LI];exact hc _ _ (flC_at qs i hi j v hv)⟩
def JZ(S B0:Nat)(w:Ba)(e:Ending)(w':Ba):Prop:=∃(qs:List FmE) (A:Bb) (c:Nat),e=Ak (I A qs.length c)/\qs.length<=S/\OwnR kFm w' w.heap.size (I A qs.length c) qs.length (flC qs)/\(∀q∈qs,q.ok w' B0)/\Am w.heap.size w w'
def RecB(B0:Nat)(w:Ba)(A:Bb)(l:List Fm)(F:Array Au->Fm->Ba->Prop):Prop:=∀i (hi:i<l.length),∃b o A' c',A=J ⟨b,o,Z⟩/\b<B0 /\
 (∀W,Am B0 w W->∀j v,(l[i].vs A' c')[j]?=J v->W.cell? ⟨b,o+i*6+j,Z⟩=J v)/\∀X,Am B0 w X->B0<=X.heap.size->F (l[i].vs A' c') l[i] X
theorem RecB.of{d B0:Nat}{w:Ba}{A:Bb}{l:List Fm}{F:Array Au->Fm->Ba->Prop}(h:FsAt w B0 (d+1) A l)
  (hF:∀(x:Fm) (A':Bb) (c':Nat) (X:Ba),x∈l->B0<=X.heap.size->FsAt X B0 d A' x.args->F (x.vs A' c') x X):RecB B0 w A l F:=fun i hi=>by
 obtain⟨b,o,e,hlt,hr⟩:=h (by omega);obtain⟨A',c',h1,h2⟩:=hr i hi;exact⟨b,o,A',c',e,hlt,fun W hW j v hv=>(hW.cell hlt).trans (h1 j v hv),fun X hX hs=>hF _ A' c' X (Lh hi) hs (h2.keep hX)⟩
theorem RecB.none{B0:Nat}{w:Ba}{A:Bb}{l:List Fm}{F:Array Au->Fm->Ba->Prop}(h:FsAt w B0 0 A l):RecB B0 w A l F:=fun i hi=>by
 rw[show l=[] from h] at hi;cases hi
theorem XQ(f:Fm)(R:Fm->Nat×Nat)(A:Bb)(c B0:Nat)(w:Ba)(bG:B0<=w.heap.size)(hl:f.args.length<=1000000)(hb:(zP R f.args).1<=1000000)
  (hf:FmE.ok w B0 ⟨f,A,c⟩)
  (dz:RecB B0 w A f.args fun cs x X=>An Al 100 #[.agg cs] X (JZ (R x).1 B0 X)) :
  An Al 100 #[.agg (f.vs A c)] w (JZ (zP R f.args).1 B0 w):=by
 obtain⟨w1,ab,d0,av,hB⟩:=zn w (f.vs A c) 32;have aL:=zH dz;have mg:=zH (fun k=>qU R f.args k);have rR:=zH (fun k (h:k<f.args.length)=>(by rw[Ls h,qV]:zP R (f.args.take (k+1))=((zP R (f.args.take k)).1+(R f.args[k]).1,max (zP R (f.args.take k)).2 (R f.args[k]).2)));have dX:As (zP R (f.args.take f.args.length)=zP R f.args):=by rw[As,LK]
 have rq:=zH hb
 have IP:As (∀(qs:List FmE) (A2:Bb) (c2:Nat) (q:FmE) (X:Ba),qs.length<=1000000->FlAt X X.heap.size A2 qs->(∀q∈qs,q.ok X B0)->q.ok X B0->B0<=X.heap.size->An Al 141 #[I A2 qs.length c2,Ai #[O U q.f.h.op,O U q.f.h.p,O U q.f.h.o,O U q.f.h.v,O U q.f.h.g,I q.A q.f.args.length q.c]] X (RetIx X)):=fun qs A2 c2 q X h1 h2 h3 h4 h5=>by
  obtain⟨d,h6,_⟩:=h4;exact QS qs qs.length rfl h1 A2 c2 q.f q.A q.c d X h2 (fun q hq=>(h3 q hq).more h5) (h6.more h5)
 have SL:=zH hf;have ir:=zH bG;unfold Fm.vs at ab d0 aL ⊢;unfold JZ at aL ⊢;unfold RetIx at IP;obtain⟨f0,f1⟩:=f;obtain⟨a0,a1,a2,a3,a4⟩:=f0;dsimp only[Fm.h,Fm.args] at ab d0 aL mg rR dX rq hl ⊢;obtain⟨l,aJ⟩:=Kj f1;rw[aJ] at ab d0 aL mg rR dX rq hl SL ⊢;obtain⟨T,hT⟩:=Kj ((zP R l).1);have dX:As ((zP R (l.take l.length)).1=T):=by rw[As,dX.out];exact hT
 rw[hT] at rq ⊢;have mg:As (∀k,(zP R (l.take k)).1<=T):=fun k=>by rw[<-hT];exact(mg.out k).1
 obtain⟨n,hn⟩:=Kj l.length;have HN:=zH hn;rw[hn] at ab d0 dX hl ⊢;have ag:=zH ab;have HB:=zH hB;have D0:As (∀X,Am w1.heap.size w1 X->X.heap[w.heap.size]?=J (Ag #[O U a0,O U a1,O U a2,O U a3,O U a4,I A n c] 32 (0,0))):=fun X hX=>La hX d0
 have pA:As (∀X,Am w1.heap.size w1 X->FmE.ok X B0 ⟨⟨⟨a0,a1,a2,a3,a4⟩,l⟩,A,c⟩):=fun X hX=>SL.out.keep ((Lc hB hX).mono ir.out)
 have UH:As (∀X,Am w1.heap.size w1 X->Am B0 w X):=fun X hX=>(Lc hB hX).mono ir.out
 clear ab d0 hB dz hb aJ hT hn hf;go_enter func100,ntmps100;go_wp2_with fail;rw[ag.out];go_wp2_with fail
 go_loopw [3,4] (fun o i wr=>∃(k:Nat) (qs:List FmE) (Ao:Bb) (co:Nat),k<=n/\i=O U (k:Int)/\o=I Ao qs.length co/\As (qs.length+1<=(zP R (l.take k)).1)/\As (OwnR kFm wr w1.heap.size (I Ao qs.length co) qs.length (flC qs))/\As (∀q∈qs,q.ok wr B0)/\As (Am w1.heap.size w1 wr)) (fun _ i _=>n-(Ar i).toNat)
 case atStart=>exact⟨0,[],Z,0,by omega,rfl,rfl,by show _<=_;simp[zP],OwnR.nil _ _ _,fun q h=>(by cases h),Ll _ _⟩
 obtain⟨k,qs,Ao,co,hk,rfl,rfl,sR,hO,Cy,aK⟩:=hrel;have ns:IntKind.i64.wrap ((k:Int)+1)=((k+1:Nat):Int):=by rw[Lo];omega
 have dd:=D0.out _ aK.out;obtain⟨p0,p1,p2,p3,p4,p5,_⟩:=Ki (dd)
 by_cases hlt:k<n
 . have cJ:k<l.length:=by rw[HN.out];exact hlt
   have ez:=rR.out k cJ;have sM:=mg.out (k+1);obtain⟨bb,ob,A',c',eA,bj,al,aB⟩:=aL.out k cJ;subst eA;obtain⟨x,hx⟩:=Kj (l[k]);rw[hx] at al aB ez;obtain⟨r1,iA⟩:=Kj ((R x).1);obtain⟨a,ha⟩:=Kj ((zP R (l.take k)).1);have iZ:(zP R (l.take (k+1))).1=a+r1:=by rw[ez,<-ha,<-iA]
   rw[iZ] at sM;have ai:=zH iZ;have HQL:As (qs.length+1<=a):=by rw[<-ha];exact sR.out
   have cB:=rq.out;have h6:a+r1<=1000000:=by omega
   have hC:=aB wr (UH.out _ aK.out) (by have:=(UH.out _ aK.out).size;have:=ir.out;omega);simp only[iA] at hC;have hc:=al wr (UH.out _ aK.out);obtain⟨⟨h0,h1,h2,h3,h4⟩,xl⟩:=x;have hc:∀j v,#[O U h0,O U h1,O U h2,O U h3,O U h4,I A' xl.length c'][j]?=J v->wr.cell? ⟨bb,ob+k*6+j,Z⟩=J v:=hc;simp only[Fm.vs,Fm.args,Fm.h] at hC;have HC:=zH hC;have z0:wr.cell? ⟨bb,ob+k*6,Z⟩=J (O U h0):=hc 0 _ rfl;have z1:wr.cell? ⟨bb,ob+k*6+1,Z⟩=J (O U h1):=hc 1 _ rfl;have z2:wr.cell? ⟨bb,ob+k*6+2,Z⟩=J (O U h2):=hc 2 _ rfl;have z3:wr.cell? ⟨bb,ob+k*6+3,Z⟩=J (O U h3):=hc 3 _ rfl;have z4:wr.cell? ⟨bb,ob+k*6+4,Z⟩=J (O U h4):=hc 4 _ rfl;have z5:wr.cell? ⟨bb,ob+k*6+5,Z⟩=J (I A' xl.length c'):=hc 5 _ rfl;have dg:(0:Int)<=(k:Int):=by omega
   have aM:(k:Int)<(n:Int):=by omega
   obtain⟨wE,rfl⟩:∃x,x=wr:=⟨_,rfl⟩;go_wp2_with fail;refine HC.out.mono ?_;rintro e w3 ⟨ps,A5,c5,rfl,rF,Ow,H7,ak⟩;have hsE:=aK.out.size;have mO:=zH (hO.out.below ak (Ld _));have UE:=zH (Ow.low (base':=w1.heap.size) hsE);have HQ3:As (∀q∈qs,q.ok w3 B0):=fun q hq=>(Cy.out q hq).keep (ak.mono (by have:=(UH.out _ aK.out).size;have:=ir.out;omega))
   have HP3:=zH H7;have aC:=zH (aK.out.trans (ak.mono hsE))
   have o7:As (∀b,(I Ao qs.length co).ownBlock=J b->(I A5 ps.length c5).ownBlock≠J b):=fun b h1 h2=>by
    have h3:=(hO.out.lt b h1).2;have h4:=(Ow.lt b h2).1;omega
   have ED:=zH rF;obtain⟨m,hm⟩:=Kj ps.length;have HM:=zH hm;rw[hm] at UE o7 ED ⊢;have Mx:m<=1000000:=by have:=ED.out;omega
   go_wp2_with fail
   go_loopw [3,6] (fun o i wr=>∃(j:Nat) (qs:List FmE) (Ao:Bb) (co:Nat),j<=m/\i=O U (j:Int)/\o=I Ao qs.length co/\As (qs.length+1<=a+j)/\As (OwnR kFm wr w1.heap.size (I Ao qs.length co) qs.length (flC qs))/\As (∀q∈qs,q.ok wr B0)/\As (Am w1.heap.size w1 wr)/\As (OwnR kFm wr w1.heap.size (I A5 m c5) m (flC ps))/\As (∀q∈ps,q.ok wr B0)/\As (∀b,(I Ao qs.length co).ownBlock=J b->(I A5 m c5).ownBlock≠J b)) (fun _ i _=>m-(Ar i).toNat)
   case atStart=>exact⟨0,qs,Ao,co,by omega,rfl,rfl,HQL,mO,HQ3,aC,UE,HP3,o7⟩
   obtain⟨j,qs,Ao,co,hj,rfl,rfl,sR,hO,Cy,aK,Ow,H7,az⟩:=hrel;have hwj:IntKind.i64.wrap ((j:Int)+1)=((j+1:Nat):Int):=by rw[Lo];omega
   have Fb:=aK.out.size
   by_cases hjt:j<m
   . have DW:(0:Int)<=(j:Int):=by omega
     have BK:(j:Int)<(m:Int):=by omega
     have Wm:j<ps.length:=by rw[HM.out];exact hjt
     obtain⟨bp,op,e5,my,s'⟩:=(fl_own Ow.out HM.out) (by omega);have s':=s' j Wm;obtain⟨q,hqj⟩:=Kj (ps[j]);rw[hqj] at s';have hqo:q.ok wr B0:=H7.out q (by rw[<-hqj];exact Lh Wm);have HC:=zH (IP.out qs Ao co q wr (by have:=sR.out;have:=ED.out;omega) (fl_own hO.out rfl) Cy.out hqo (by omega));have HQO:=zH hqo;obtain⟨⟨⟨h0,h1,h2,h3,h4⟩,xl⟩,A',c'⟩:=q;dsimp only[Fm.h,Fm.args] at HC;have s':∀j' v,[O U h0,O U h1,O U h2,O U h3,O U h4,I A' xl.length c'][j']?=J v->wr.cell? ⟨bp,op+j*6+j',Z⟩=J v:=s';subst e5;have z0:wr.cell? ⟨bp,op+j*6,Z⟩=J (O U h0):=s' 0 _ rfl;have z1:wr.cell? ⟨bp,op+j*6+1,Z⟩=J (O U h1):=s' 1 _ rfl;have z2:wr.cell? ⟨bp,op+j*6+2,Z⟩=J (O U h2):=s' 2 _ rfl;have z3:wr.cell? ⟨bp,op+j*6+3,Z⟩=J (O U h3):=s' 3 _ rfl;have z4:wr.cell? ⟨bp,op+j*6+4,Z⟩=J (O U h4):=s' 4 _ rfl;have z5:wr.cell? ⟨bp,op+j*6+5,Z⟩=J (I A' xl.length c'):=s' 5 _ rfl;go_wp2_with fail;refine HC.out.mono ?_;rintro e w4 ⟨r,rfl,aD⟩;have mN:=zH (hO.out.below aD (Ld _));have HP4:=zH (Ow.out.below aD (Ld _));have GI:As (∀q∈qs,q.ok w4 B0):=fun q hq=>(Cy.out q hq).keep (aD.mono (by omega))
     have HK4:As (∀q∈ps,q.ok w4 B0):=fun q hq=>(H7.out q hq).keep (aD.mono (by omega))
     have HX4:=zH (HQO.out.keep (aD.mono (by omega)));have fB:=zH (aK.out.trans (aD.mono Fb));have y0:=(aD.cell (p:=⟨bp,op+j*6,Z⟩) my).trans z0;have y1:=(aD.cell (p:=⟨bp,op+j*6+1,Z⟩) my).trans z1;have y2:=(aD.cell (p:=⟨bp,op+j*6+2,Z⟩) my).trans z2;have y3:=(aD.cell (p:=⟨bp,op+j*6+3,Z⟩) my).trans z3;have y4:=(aD.cell (p:=⟨bp,op+j*6+4,Z⟩) my).trans z4;have y5:=(aD.cell (p:=⟨bp,op+j*6+5,Z⟩) my).trans z5;have iy:=fB.out.size
     by_cases hr:r<0
     case neg=>
      have HQL4:As (qs.length+1<=a+(j+1)):=by have:=sR.out;show _<=_;omega
      go_wp2_with fail
      go_roundw
      case rel=>exact⟨j+1,qs,Ao,co,by omega,by go_num,rfl,HQL4,mN,GI,fB,HP4,HK4,az⟩
      simp[Ar];omega
     case pos=>
     go_upto_region 10 with fail
     obtain⟨W4,oA,d4,cY,am⟩:=zn w4 #[O U h0,O U h1,O U h2,O U h3,O U h4,I A' xl.length c'] 32;have mh:=zH (mN.out.below am (Ld _));have HP5:=zH (HP4.out.below am (Ld _));have aT:=zH (fB.out.trans (am.mono iy));have HQ5:As (∀q∈qs,q.ok W4 B0):=fun q hq=>(GI.out q hq).keep (am.mono (by omega))
     have lp:As (∀q∈ps,q.ok W4 B0):=fun q hq=>(HK4.out q hq).keep (am.mono (by omega))
     have HX5:=zH (HX4.out.keep (am.mono (by omega)));have fD:=aT.out.size;have im:=zH oA;have hq6:qs.length<=1000000:=by have:=sR.out;have:=ED.out;omega
     clear oA am mN HP4 GI HK4 HX4 fB
     go_wp2_with (at_builtin; go_must (rw [im.out]; refine yE kFm_ok rfl _ _ (by rfl) w1.heap.size (I Ao qs.length co) qs.length (flC qs) (by rfl) mh.out w4.heap.size #[O U h0, O U h1, O U h2, O U h3, O U h4, I A' xl.length c'] (by rfl) d4 rfl (by simp [Value.oneCell']) (by omega) fD _ rfl ?_); intro g' ap w5 cP bY nM pO
                  have dU:=zH cP;have dw:=zH (aT.out.grown bY fD (fun k e=>(mh.out.lt k e).1));have AU:As (Am B0 W4 w5):=(Ll B0 W4).grown bY (by have:=fD;omega) (fun k e=>by have:=(mh.out.lt k e).1;omega)
                  have lQ:As ((I (J ⟨bp,op,Z⟩) m c5).ownBlock=Z\/(I (J ⟨bp,op,Z⟩) m c5).ownBlock≠(I Ao qs.length co).ownBlock):=by
                   cases hv:(I (J ⟨bp,op,Z⟩) m c5).ownBlock with
                   | none=>exact .inl rfl
                   | some b=>exact .inr fun e=>az.out b e.symm hv
                  have HP6:=zH (HP5.out.kept bY lQ.out);have dl:As ((I Ao qs.length co).ownBlock=J g'\/g'=W4.heap.size):=nM
                  clear cP bY nM pO lQ)
     have tg:As (OwnR kFm w5 w1.heap.size (.slice (J ⟨g',0,Z⟩) (qs++[(⟨⟨⟨h0,h1,h2,h3,h4⟩,xl⟩,A',c'⟩:FmE)]).length ap) (qs++[(⟨⟨⟨h0,h1,h2,h3,h4⟩,xl⟩,A',c'⟩:FmE)]).length (flC (qs++[⟨⟨⟨h0,h1,h2,h3,h4⟩,xl⟩,A',c'⟩]))):=by rw[JE,Lr];exact dU.out
     have HQ6:As (∀q∈qs++[⟨⟨⟨h0,h1,h2,h3,h4⟩,xl⟩,A',c'⟩],q.ok w5 B0):=fun q hq=>by
      rcases LX.1 hq with hq | hq
      . exact(HQ5.out q hq).keep AU.out
      . rw[LQ] at hq;subst hq;exact HX5.out.keep AU.out
     have Bm:As (∀q∈ps,q.ok w5 B0):=fun q hq=>(lp.out q hq).keep AU.out
     have HQL6:As ((qs++[(⟨⟨⟨h0,h1,h2,h3,h4⟩,xl⟩,A',c'⟩:FmE)]).length+1<=a+(j+1)):=by have:=sR.out;show _<=_;rw[Lr];simp only[List.length_cons,List.length_nil];omega
     have HNE6:As (∀b,(I (J ⟨g',0,Z⟩) (qs++[(⟨⟨⟨h0,h1,h2,h3,h4⟩,xl⟩,A',c'⟩:FmE)]).length ap).ownBlock=J b->(I (J ⟨bp,op,Z⟩) m c5).ownBlock≠J b):=fun b h1 h2=>by
      have e1:g'=b:=by simpa[Value.ownBlock] using h1
      subst e1;rcases dl.out with e | e
      . exact az.out g' e h2
      . have:=(HP5.out.lt g' h2).2;omega
     have ay:(qs++[(⟨⟨⟨h0,h1,h2,h3,h4⟩,xl⟩,A',c'⟩:FmE)]).length=qs.length+1:=by simp
     have lU:=zH ay
     go_roundw
     case rel=>exact⟨j+1,_,J ⟨g',0,Z⟩,ap,by omega,by go_num,by rw[lU.out],HQL6,tg,HQ6,dw,HP6,Bm,HNE6⟩
     simp[Ar];omega
   obtain rfl:j=m:=by omega
   have BK:¬(j:Int)<(j:Int):=by omega
   have HQLE:As (qs.length+1<=(zP R (l.take (k+1))).1):=by rw[ai.out];have:=sR.out;have:=ED.out;show _<=_;omega
   go_wp2_with fail
   go_roundw
   case rel=>exact⟨k+1,qs,Ao,co,by omega,by go_num,rfl,HQLE,hO,Cy,aK⟩
   simp[Ar];omega
 obtain rfl:k=n:=by omega
 have aM:¬(k:Int)<(k:Int):=by omega
 have Fb:=aK.out.size;have HQT:As (qs.length+1<=T):=by have:=sR.out;rw[dX.out] at this;exact this
 have hT6:=rq.out;have hq6:qs.length<=1000000:=by have:=HQT.out;omega
 have HC:=zH (IP.out qs Ao co ⟨⟨⟨a0,a1,a2,a3,a4⟩,l⟩,A,c⟩ wr hq6 (fl_own hO.out rfl) Cy.out (pA.out _ aK.out) (by omega));dsimp only[Fm.h,Fm.args] at HC;rw[HN.out] at HC;go_wp2_with fail;refine HC.out.mono ?_;rintro e w4 ⟨r,rfl,aD⟩;have mN:=zH (hO.out.below aD (Ld _));have GI:As (∀q∈qs,q.ok w4 B0):=fun q hq=>(Cy.out q hq).keep (aD.mono (by omega))
 have fB:=zH (aK.out.trans (aD.mono Fb));have iy:=fB.out.size
 by_cases hr:r<0
 case neg=>
  have ck:=zH (Lc HB.out fB.out);have HOF:=zH (mN.out.low (base':=w.heap.size) HB.out.size);go_wp2_with fail;go_ret;exact⟨qs,Ao,co,rfl,by have:=HQT.out;omega,HOF.out,GI.out,ck.out⟩
 case pos=>
 have dd:=D0.out _ fB.out;obtain⟨p0,p1,p2,p3,p4,p5,_⟩:=Ki (dd);go_upto_region 12 with fail
 obtain⟨W4,oA,d4,cY,am⟩:=zn w4 #[O U a0,O U a1,O U a2,O U a3,O U a4,I A k c] 32;have mh:=zH (mN.out.below am (Ld _));have aT:=zH (fB.out.trans (am.mono iy));have HQ5:As (∀q∈qs,q.ok W4 B0):=fun q hq=>(GI.out q hq).keep (am.mono (by omega))
 have fD:=aT.out.size;have im:=zH oA;clear oA am mN GI fB IP
 go_wp2_with (at_builtin; go_must (rw [im.out]; refine yE kFm_ok rfl _ _ (by rfl) w1.heap.size (I Ao qs.length co) qs.length (flC qs) (by rfl) mh.out w4.heap.size #[O U a0, O U a1, O U a2, O U a3, O U a4, I A k c] (by rfl) d4 rfl (by simp [Value.oneCell']) (by omega) fD _ rfl ?_); intro g' ap w5 cP bY nM pO
              have dU:=zH cP;have dw:=zH (aT.out.grown bY fD (fun k e=>(mh.out.lt k e).1));have AU:As (Am B0 W4 w5):=(Ll B0 W4).grown bY (by have:=fD;omega) (fun k e=>by have:=(mh.out.lt k e).1;omega)
              clear cP bY nM pO)
 have tg:As (OwnR kFm w5 w.heap.size (I (J ⟨g',0,Z⟩) (qs.length+1) ap) (qs.length+1) (flC (qs++[⟨⟨⟨a0,a1,a2,a3,a4⟩,l⟩,A,c⟩]))):=by
  rw[JE];have:=dU.out;rw[<-HN.out] at this;exact this.low HB.out.size
 have HQ6:As (∀q∈qs++[⟨⟨⟨a0,a1,a2,a3,a4⟩,l⟩,A,c⟩],q.ok w5 B0):=fun q hq=>by
  rcases LX.1 hq with hq | hq
  . exact(HQ5.out q hq).keep AU.out
  . rw[LQ] at hq;subst hq;exact pA.out _ dw.out
 have ck:=zH (Lc HB.out dw.out);go_wp2_with fail;go_ret;have ay:(qs++[(⟨⟨⟨a0,a1,a2,a3,a4⟩,l⟩,A,c⟩:FmE)]).length=qs.length+1:=by simp
 refine⟨qs++[⟨⟨⟨a0,a1,a2,a3,a4⟩,l⟩,A,c⟩],J ⟨g',0,Z⟩,ap,?_,?_,?_,HQ6.out,ck.out⟩
 . rw[ay];rfl
 . rw[ay];exact HQT.out
 rw[ay];exact tg.out
theorem JX(B0:Nat):∀(d:Nat) (f:Fm) (A:Bb) (c:Nat) (w:Ba),B0<=w.heap.size->FsAt w B0 d A f.args->(zR d f).1<=1000000 ->
  An Al 100 #[.agg (f.vs A c)] w (JZ (zR d f).1 B0 w)
 | 0,f,A,c,w,h0,hA,hb=>by
  have e:f.args=[]:=hA;have:=XQ f (fun _=>(0,0)) A c B0 w h0 (by rw[e];decide) (by rw[e];decide) ⟨0,hA,hb⟩ (RecB.none hA);exact this
 | d+1,f,A,c,w,h0,hA,hb=>by
  have h1:(zP (zR d) f.args).1<=1000000:=hb;have h3:=qW (zR d) (kd d) f.args;exact XQ f (zR d) A c B0 w h0 (by omega) h1 ⟨d+1,hA,hb⟩ (RecB.of hA fun x A' c' X hx hs hX=>JX B0 d x A' c' X hs hX (ZX hb hx))
theorem repis_any(op:Int)(w:Ba):An Al 142 #[O U op] w fun e w'=>e=Ak (Ah (decide (10<=op/\op<=13)))/\w'=w:=by
 by_cases h1:(10:Int)<=op
 . by_cases h2:op<=13
   . rw[Lw ⟨h1,h2⟩]
     go_enter func142,ntmps142;go_wp2_with fail;go_ret;exact⟨rfl,rfl⟩
   rw[Lv (fun h=>h2 h.2)];go_enter func142,ntmps142;go_wp2_with fail;go_ret;exact⟨rfl,rfl⟩
 rw[Lv (fun h=>h1 h.1)];go_enter func142,ntmps142;go_wp2_with fail;go_ret;exact⟨rfl,rfl⟩
theorem Xn(f:Fm)(R:Fm->Nat)(M:Nat)(hM:M<=1000000)(hR:∀x∈f.args,R x<=M)(A:Bb)(c:Nat)(w:Ba)(hl:f.args.length<=1000000)
  (dz:RecAt w A f.args fun cs x X=>An Al 101 #[.agg cs] X fun e w'=>∃m:Nat,e=Ak (O U (m:Int))/\m<=R x/\Am X.heap.size X w') :
  An Al 101 #[.agg (f.vs A c)] w fun e w'=>∃m:Nat,e=Ak (O U (m:Int))/\m<=M+1/\Am w.heap.size w w':=by
 obtain⟨w1,ab,d0,av,hB⟩:=zn w (f.vs A c) 32;have aL:=zH dz;have HR:=zH hR;unfold Fm.vs at ab d0 aL ⊢;obtain⟨⟨a0,a1,a2,a3,a4⟩,f1⟩:=f;dsimp only[Fm.h,Fm.args] at ab d0 aL hl HR ⊢;obtain⟨l,aJ⟩:=Kj f1;rw[aJ] at ab d0 aL hl HR ⊢;obtain⟨n,hn⟩:=Kj l.length;have HN:=zH hn;rw[hn] at ab d0 hl
 try rw[hn]
 have ag:=zH ab;have HB:=zH hB;have D0:As (∀X,Am w1.heap.size w1 X->X.heap[w.heap.size]?=J (Ag #[O U a0,O U a1,O U a2,O U a3,O U a4,I A n c] 32 (0,0))):=fun X hX=>La hX d0
 clear ab d0 hB dz aJ hn;go_enter func101,ntmps101;go_wp2_with fail;rw[ag.out];go_wp2_with fail
 go_loopw [3,4] (fun o i wr=>∃k m:Nat,k<=n/\i=O U (k:Int)/\o=O U (m:Int)/\m<=M/\As (Am w1.heap.size w1 wr)) (fun _ i _=>n-(Ar i).toNat)
 case atStart=>exact⟨0,0,by omega,rfl,rfl,by omega,Ll _ _⟩
 obtain⟨k,m,hk,rfl,rfl,hm,aK⟩:=hrel;clear ag;have ns:IntKind.i64.wrap ((k:Int)+1)=((k+1:Nat):Int):=by rw[Lo];omega
 obtain⟨p0,p1,p2,p3,p4,p5,_⟩:=Ki (D0.out _ aK.out)
 by_cases hlt:k<n
 . skip
   have cJ:k<l.length:=by rw[HN.out];exact hlt
   obtain⟨bb,ob,A',c',eA,bj,al,aB⟩:=aL.out k cJ;subst eA;obtain⟨x,hx⟩:=Kj (l[k]);rw[hx] at al aB;have hC:=aB wr (Lc HB.out aK.out);have hc:=al wr (Lc HB.out aK.out);have HX:=zH hx;obtain⟨⟨h0,h1,h2,h3,h4⟩,xl⟩:=x;have hc:∀j v,#[O U h0,O U h1,O U h2,O U h3,O U h4,I A' xl.length c'][j]?=J v->wr.cell? ⟨bb,ob+k*6+j,Z⟩=J v:=hc;simp only[Fm.vs,Fm.args,Fm.h] at hC;have HC:=zH hC;have z0:wr.cell? ⟨bb,ob+k*6,Z⟩=J (O U h0):=hc 0 _ rfl;have z1:wr.cell? ⟨bb,ob+k*6+1,Z⟩=J (O U h1):=hc 1 _ rfl;have z2:wr.cell? ⟨bb,ob+k*6+2,Z⟩=J (O U h2):=hc 2 _ rfl;have z3:wr.cell? ⟨bb,ob+k*6+3,Z⟩=J (O U h3):=hc 3 _ rfl;have z4:wr.cell? ⟨bb,ob+k*6+4,Z⟩=J (O U h4):=hc 4 _ rfl;have z5:wr.cell? ⟨bb,ob+k*6+5,Z⟩=J (I A' xl.length c'):=hc 5 _ rfl;have dg:(0:Int)<=(k:Int):=by omega
   have aM:(k:Int)<(n:Int):=by omega
   clear al aB hC hc hx;go_wp2_with fail;refine HC.out.mono ?_;rintro e w3 ⟨r,rfl,hr,ak⟩;have hrM:r<=M:=Lu hr (by rw[<-HX.out];exact HR.out _ (Lh cJ));have aC:=zH (Lc aK.out ak);clear ak aK HC hr z0 z1 z2 z3 z4 z5
   by_cases hrm:(m:Int)<(r:Int)
   . go_wp2_with fail
     go_roundw
     case rel=>exact⟨k+1,r,by omega,by go_num,rfl,hrM,aC⟩
     simp[Ar];omega
   go_wp2_with fail
   go_roundw
   case rel=>exact⟨k+1,m,by omega,by go_num,rfl,hm,aC⟩
   simp[Ar];omega
 obtain rfl:k=n:=by omega
 have aM:¬(k:Int)<(k:Int):=by omega
 have mF:=zH (Lc HB.out aK.out);clear aL HR;go_wp2_with fail;refine(repis_any a0 wr).mono ?_;rintro e w4 ⟨rfl,fh⟩;obtain rfl:wr=w4:=fh.symm;obtain⟨b,Ec⟩:∃b,decide (10<=a0/\a0<=13)=b:=⟨_,rfl⟩;rw[Ec];have oI:IntKind.i64.wrap ((m:Int)+1)=((m+1:Nat):Int):=by rw[Lo];omega
 cases b with
 | false=>
  go_wp2_with fail;go_ret;exact⟨m,rfl,by omega,mF.out⟩
 | true=>
  go_wp2_with fail;go_ret;exact⟨m+1,by first | rfl | (push_cast;rfl),by omega,mF.out⟩
theorem siz_dep(R:Fm->Nat×Nat){l:List Fm}{x:Fm}(h:x∈l):(R x).2<=(zP R l).2:=by
 obtain⟨i,hi,rfl⟩:=LT h;have h1:=(qU R l (i+1)).2;rw[Ls hi,qV] at h1;have:(R l[i]).2<=max (zP R (l.take i)).2 (R l[i]).2:=Pc _ _;omega
theorem Jb:∀(d:Nat) (f:Fm) (A:Bb) (c:Nat) (w:Ba),FsAt w w.heap.size d A f.args->(zR d f).1<=1000000 ->
  An Al 101 #[.agg (f.vs A c)] w fun e w'=>∃m:Nat,e=Ak (O U (m:Int))/\m<=(zR d f).2/\Am w.heap.size w w'
 | 0,f,A,c,w,hA,hb=>by
  have h0:f.args=[]:=hA;exact Xn f (fun _=>0) (zP (fun _=>(0,0)) f.args).2 (by rw[h0];decide) (fun x hx=>Ni _) A c w (by rw[h0];decide) (RecAt.none hA)
 | d+1,f,A,c,w,hA,hb=>by
  have h1:(zP (zR d) f.args).1<=1000000:=hb;have h2:(zP (zR d) f.args).2+1<=(zP (zR d) f.args).1:=jb (d+1) f;have h3:=qW (zR d) (kd d) f.args;exact Xn f (fun x=>(zR d x).2) (zP (zR d) f.args).2 (by omega) (fun x hx=>siz_dep _ hx) A c w (by omega) (RecAt.of hA fun x A' c' X hx hX=>Jb d x A' c' X hX (ZX hb hx))
theorem light_any(d:Nat)(f:Fm)(A:Bb)(c:Nat)(w:Ba)(hA:FsAt w w.heap.size d A f.args)(hb:(zR d f).1<=1000000):An Al 57 #[.agg (f.vs A c)] w (uZ w):=by
 obtain⟨w1,ab,d0,av,hB⟩:=zn w (f.vs A c) 32;have H1:=zH (JX w1.heap.size d f A c w1 (Ld _) ((hA.keep hB).more hB.size) hb);have H2:=zH (fun (X:Ba) (hX:Am w1.heap.size w1 X)=>Jb d f A c X ((((hA.keep hB).more hB.size).keep hX).more hX.size) hb);unfold Fm.vs at ab d0 H1 H2 ⊢;unfold JZ at H1;obtain⟨⟨a0,a1,a2,a3,a4⟩,f1⟩:=f;dsimp only[Fm.h,Fm.args] at ab d0 H1 H2 ⊢;obtain⟨n,hn⟩:=Kj f1.length;rw[hn] at ab d0 H1 H2 ⊢;have ag:=zH ab;have HB:=zH hB;have D0:As (∀X,Am w1.heap.size w1 X->X.heap[w.heap.size]?=J (Ag #[O U a0,O U a1,O U a2,O U a3,O U a4,I A n c] 32 (0,0))):=fun X hX=>La hX d0
 have HRT:As (∀(b:Bool) (X:Ba),Am w1.heap.size w1 X->uZ w (Ak (Ah b)) X):=fun b X hX=>⟨b,rfl,Lc HB.out hX⟩
 clear ab d0 hB hn hb hA;go_enter func57,ntmps57;go_wp2_with fail;rw[ag.out];go_wp2_with fail;refine H1.out.mono ?_;rintro e w2 ⟨qs,A2,c2,rfl,_,_,_,ae⟩;have au:=zH ae
 by_cases hq:(qs.length:Int)<=14
 . have HC:=zH (H2.out w2 au.out)
   obtain⟨p0,p1,p2,p3,p4,p5,_⟩:=Ki (D0.out _ au.out);clear H2;go_wp2_with fail;refine HC.out.mono ?_;rintro e w3 ⟨m,rfl,_,ak⟩;have aC:=zH (Lc au.out ak)
   by_cases hm:(m:Int)<=5
   . go_wp2_with fail
     go_ret;exact HRT.out Av _ aC.out
   have fL:decide ((m:Int)<=5)=Aw:=Lv hm;go_wp2_with fail;go_ret;exact HRT.out Aw _ aC.out
 clear H2;go_wp2_with fail;go_ret;exact HRT.out Aw _ au.out
end
section
open Go.RowKit
def fcK(R:Fm->Nat×Nat)(L:Nat)(l:List Fm)(k:Nat):Nat:=min (zP R (l.take k)).1 L
theorem fcK_zero(R:Fm->Nat×Nat){L:Nat}(h:1<=L)(l:List Fm):fcK R L l 0=1:=by
 unfold fcK;rw[Pu];show min 1 L=1;omega
theorem fcK_step(R:Fm->Nat×Nat)(_hR:∀x,1<=(R x).1){L k:Nat}{l:List Fm}(hk:k<l.length)(h:fcK R L l k<L):fcK R L l (k+1)=fcK R L l k+min (R l[k]).1 (L-fcK R L l k):=by
 unfold fcK at *;rw[Ls hk,qV];dsimp only;omega
theorem fcK_end(R:Fm->Nat×Nat){L k:Nat}{l:List Fm}(h:l.length<=k\/L<=fcK R L l k):fcK R L l k=min (zP R l).1 L:=by
 unfold fcK at *;rcases h with h | h
 . rw[NQ h]
 have:=(qU R l k).1;omega
end
section
open Go.RowKit Go.Shelf
attribute [local go_sem] Oper.semAt_some
theorem gQ(f:Fm)(R:Fm->Nat×Nat)(hR:∀x,1<=(R x).1)(L:Nat)(hL1:1<=L)(hL:L<=140)(A:Bb)(c:Nat)(w:Ba)
  (dz:RecAt w A f.args fun cs x X=>∀L':Nat,1<=L'->L'<=140->An Al 99 #[.agg cs,O U (L':Int)] X fun e w'=>e=Ak (O U ((min (R x).1 L':Nat):Int))/\Am X.heap.size X w') :
  An Al 99 #[.agg (f.vs A c),O U (L:Int)] w fun e w'=>e=Ak (O U ((min (zP R f.args).1 L:Nat):Int))/\Am w.heap.size w w':=by
 obtain⟨w1,ab,d0,av,hB⟩:=zn w (f.vs A c) 32;have aL:=zH dz;have rR:=zH (fun k (h:k<f.args.length)=>fcK_step R hR (L:=L) h);have Ha:=zH (fun k=>fcK_end R (L:=L) (k:=k) (l:=f.args));have mI:=zH (fcK_zero R hL1 f.args);have UI:As (∀k,fcK R L f.args k<=L):=fun k=>by unfold fcK;omega
 unfold Fm.vs at ab d0 aL ⊢;obtain⟨l,aJ⟩:=Kj f.args;rw[aJ] at ab d0 aL rR Ha mI UI ⊢;obtain⟨T,hT⟩:=Kj (min (zP R l).1 L);rw[hT] at Ha ⊢;obtain⟨n,hn⟩:=Kj l.length;have HN:=zH hn;rw[hn] at ab d0 Ha ⊢;have ag:=zH ab;have HB:=zH hB;have du:=zH d0;have p4:=zh (d0) 4 rfl;have p5:=zh (d0) 5 rfl;clear ab d0 hB dz aJ hT hn;go_enter func99,ntmps99;go_wp2_with fail;rw[ag.out];go_wp2_with fail
 go_loopw [5,6] (fun a i wr=>∃k:Nat,k<=n/\i=O U (k:Int)/\a=O U (fcK R L l k:Int)/\k+1<=fcK R L l k/\As (Am w1.heap.size w1 wr)) (fun _ i _=>n-(Ar i).toNat)
 case atStart=>exact⟨0,by omega,rfl,by rw[mI.out];rfl,by rw[mI.out];omega,Ll _ _⟩
 obtain⟨k,hk,rfl,rfl,sg,aK⟩:=hrel;clear p4 p5 ag mI;obtain⟨a,ha⟩:=Kj (fcK R L l k);have haL:a<=L:=by rw[<-ha];exact UI.out k
 have p5:=zh (La aK.out du.out) 5 rfl;rw[ha] at sg ⊢
 by_cases hlt:k<n
 . have dg:(0:Int)<=(k:Int):=by omega
   have aM:(k:Int)<(n:Int):=by omega
   by_cases haL2:a<L
   . have fw:(a:Int)<(L:Int):=by omega
     have cJ:k<l.length:=by have:=HN.out;omega
     have ez:=rR.out k cJ (by rw[ha];exact haL2);rw[ha] at ez;obtain⟨bb,o,A',c',eA,bj,al,aB⟩:=aL.out k cJ;subst eA;obtain⟨x,hx⟩:=Kj (l[k]);rw[hx] at al aB ez;obtain⟨xh,xl⟩:=x;obtain⟨h0,h1,h2,h3,h4⟩:=xh;have hWw:Am w.heap.size w wr:=HB.out.trans (aK.out.mono (by have:=HB.out.size;omega));have hc:∀j v,#[O U h0,O U h1,O U h2,O U h3,O U h4,I A' xl.length c'][j]?=J v->wr.cell? ⟨bb,o+k*6+j,Z⟩=J v:=al wr hWw;have z0:wr.cell? ⟨bb,o+k*6,Z⟩=J (O U h0):=hc 0 _ rfl;have z1:wr.cell? ⟨bb,o+k*6+1,Z⟩=J (O U h1):=hc 1 _ rfl;have z2:wr.cell? ⟨bb,o+k*6+2,Z⟩=J (O U h2):=hc 2 _ rfl;have z3:wr.cell? ⟨bb,o+k*6+3,Z⟩=J (O U h3):=hc 3 _ rfl;have z4:wr.cell? ⟨bb,o+k*6+4,Z⟩=J (O U h4):=hc 4 _ rfl;have z5:wr.cell? ⟨bb,o+k*6+5,Z⟩=J (I A' xl.length c'):=hc 5 _ rfl;have bz:bb<wr.heap.size:=by have:=aK.out.size;have:=HB.out.size;omega
     have HC:=zH (aB wr hWw (L-a) (by omega) (by omega));simp only[Fm.vs,Fm.args,Fm.h] at HC;have pG:(L:Int)-(a:Int)=((L-a:Nat):Int):=by omega
     have ld:IntKind.i64.wrap ((L-a:Nat):Int)=((L-a:Nat):Int):=by rw[Lo];omega
     obtain⟨r,hr⟩:=Kj (min (R (Fm.mk ⟨h0,h1,h2,h3,h4⟩ xl)).1 (L-a));have hrL:r<=L-a:=by omega
     have iA:1<=r:=by have:=hR (Fm.mk ⟨h0,h1,h2,h3,h4⟩ xl);omega
     rw[hr] at HC ez;have sA:=zH ez;obtain⟨q,hq⟩:=Kj (L-a);rw[hq] at HC pG ld hrL;have Dl:=zH aK.out;clear al aB hx hc aK hWw hr ez hq;go_wp2_with fail;refine HC.out.mono ?_;rintro e w3 ⟨rfl,ak⟩;have aC:=zH (Lc Dl.out ak);have ab:IntKind.i64.wrap ((a:Int)+(r:Int))=((a+r:Nat):Int):=by rw[Lo];omega
     have bh:IntKind.i64.wrap ((k:Int)+1)=((k+1:Nat):Int):=by rw[Lo];omega
     clear ak HC z0 z1 z2 z3 z4 z5 p5 pG ld;go_wp2_with fail
     go_roundw
     case rel=>exact⟨k+1,by omega,by go_num,by first | (rw[sA.out];done) | (rw[sA.out];go_num),by rw[sA.out];omega,aC⟩
     simp[Ar];omega
   have fw:¬(a:Int)<(L:Int):=by omega
   have hE:As (a=T):=by rw[As,<-Ha.out k (.inr (by rw[ha];omega)),ha]
   have mF:=zH (HB.out.trans (aK.out.mono (by have:=HB.out.size;omega)));clear rR Ha UI aL aK;go_wp2_with fail;go_ret;rw[hE.out];exact⟨rfl,mF.out⟩
 have aM:¬(k:Int)<(n:Int):=by omega
 have hE:As (a=T):=by rw[As,<-Ha.out k (.inl (by have:=HN.out;omega)),ha]
 have mF:=zH (HB.out.trans (aK.out.mono (by have:=HB.out.size;omega)));clear rR Ha UI aL aK;go_wp2_with fail;go_ret;rw[hE.out];exact⟨rfl,mF.out⟩
theorem gR:∀(d:Nat) (f:Fm) (L:Nat) (_:1<=L) (_:L<=140) (A:Bb) (c:Nat) (w:Ba),FsAt w w.heap.size d A f.args ->
  An Al 99 #[.agg (f.vs A c),O U (L:Int)] w fun e w'=>e=Ak (O U ((min (zR d f).1 L:Nat):Int))/\Am w.heap.size w w'
 | 0,f,L,h1,hL,A,c,w,hA=>by
  have h0:f.args=[]:=hA;have:=gQ f (fun _=>(1,1)) (fun _=>Ld _) L h1 hL A c w (RecAt.none hA);rw[h0] at this;unfold zR;rw[h0];exact this
 | d+1,f,L,h1,hL,A,c,w,hA=>gQ f (zR d) (kd d) L h1 hL A c w (RecAt.of hA fun x A' c' X hx hX L' h1' hL'=>gR d x L' h1' hL' A' c' X hX)
theorem QV(d:Nat)(f:Fm)(A:Bb)(c:Nat)(w:Ba)(hA:FsAt w w.heap.size d A f.args) :
  An Al 56 #[.agg (f.vs A c)] w fun e w'=>e=Ak (Ah (decide ((zR d f).1<140)))/\Am w.heap.size w w':=by
 obtain⟨w1,ab,d0,av,hB⟩:=zn w (f.vs A c) 32;have nf:=zH (gR d f 140 (by omega) (by omega) A c w1 ((hA.keep hB).more hB.size));have hdd:decide (((min (zR d f).1 140:Nat):Int)<140)=decide ((zR d f).1<140):=decide_eq_decide.2 (by omega);have lq:=zH hdd;obtain⟨r,hr⟩:=Kj (min (zR d f).1 140);rw[hr] at nf lq;unfold Fm.vs at ab d0 nf ⊢;have ag:=zH ab;have HB:=zH hB;clear ab d0 hB hA hr hdd;go_enter func56,ntmps56;go_wp2_with fail;rw[ag.out];go_wp2_with fail;refine nf.out.mono ?_;rintro e w3 ⟨rfl,ak⟩;have mF:=zH (Lc HB.out ak);go_wp2_with fail;go_ret;rw[<-lq.out];exact⟨rfl,mF.out⟩
theorem ZP(A:Bb)(ca n:Nat)(hn:n<=100000)(a:List Bool)(ha:a.length=n)(w:Ba)(hA:BAt w w.heap.size A a) :
  An Al 63 #[I A n ca] w (RetB (jH n a) w):=by
 have HA:=zH hA;have nk:=zH ha;have fl:=xm n hn;obtain⟨rs,oN⟩:=Kj (jH n a);have eM:rs.length=n:=by rw[<-oN];exact ku ..
 have cX:=zH eM
 have dl:As (∀k (h:k<n),rs[k]'(by rw[cX.out];exact h)=!(a[k]'(by rw[nk.out];exact h))):=fun k h=>by
  subst oN;rw[<-zA (by rw[cX.out];exact h) Aw,notL_at h,zA (by omega)]
 unfold RetB;rw[oN,eM];go_enter func63,ntmps63;go_upto_region 2 with fail
 obtain⟨w3,bL,d3,cz,aG⟩:=zn w (xM (List.replicate n Aw)) 4;rw[bL];have pg:=zH (HA.out.keep aG);have fy:=zH aG;have mI:As (BRow w3 w.heap.size (xq rs 0)):=by rw[jk,cX.out];exact d3
 obtain⟨g,hg⟩:=Kj w.heap.size;rw[hg] at pg fy mI cz ⊢;go_wp2_with fail
 go_loopw [11] (fun i wr=>∃k:Nat,k<=n/\i=O U (k:Int)/\As (BRow wr g (xq rs k))/\As (Am g w3 wr)) (fun i _=>n-(Ar i).toNat)
 case atStart=>exact⟨0,by omega,rfl,mI,Ll _ _⟩
 obtain⟨k,hk,rfl,aK,bz⟩:=hrel;have ns:IntKind.i64.wrap ((k:Int)+1)=((k+1:Nat):Int):=by rw[Lo];omega
 by_cases hlt:k<n
 . obtain⟨b1,o1,rfl,aF,z0⟩:=(pg.out.keep bz.out).at_ k (by rw[nk.out];exact hlt)
   have aI:=dl.out k hlt;obtain⟨x,hx⟩:=Kj (a[k]'(by rw[nk.out];exact hlt));rw[hx] at z0 aI;have dB:k<rs.length:=by rw[cX.out];exact hlt
   have ie:=j8 rs (Px dB);have y0:=zh aK.out k (qh (xq rs k) k (by omega));have f0:=zi aK.out k
   have i8:As (BRow (wr.setCell ⟨g,k,Z⟩ (Ah (!x))) g (xq rs (k+1))):=by
    rw[<-aI,<-j7 rs dB];show _=_;rw[Lk wr _ k _ _ _ aK.out,jp]
   have rx:=zH (bz.out.setCell (p:=⟨g,k,Z⟩) (by show g<=g;omega) (Ah (!x)));obtain⟨u,hu⟩:=Kj ((xq rs k)[k]'(by omega));rw[hu] at y0;have dg:(0:Int)<=(k:Int):=by omega
   have aM:(k:Int)<(n:Int):=by omega
   cases x with
   | false=>
    go_wp2_with fail
    go_roundw
    case rel=>exact⟨k+1,by omega,by go_num,i8,rx⟩
    case measure=>simp[Ar];omega
   | true=>
    go_wp2_with fail
    go_roundw
    case rel=>exact⟨k+1,by omega,by go_num,i8,rx⟩
    case measure=>simp[Ar];omega
 obtain rfl:n=k:=by omega
 have aM:¬(n:Int)<(n:Int):=by omega
 have HE:As (BRow wr g rs):=by have:=aK.out;rwa[show xq rs n=rs by rw[<-cX.out];exact j9 rs] at this
 have rY:=zH (fy.out.trans bz.out);subst hg;go_wp2_with fail;go_ret;exact⟨w.heap.size,rfl,Ld _,HE.out,rY.out⟩
theorem tand_any(x y:Bool)(w:Ba):An Al 65 #[Ah x,Ah y] w fun e w'=>e=Ak (Ah (x&&y))/\Am w.heap.size w w':=by
 cases x with
 | false=>
  go_enter func65,ntmps65;go_wp2_with fail;go_ret;exact⟨rfl,by first | exact Ll _ _ | exact(Ll _ _).drew⟩
 | true=>
  go_enter func65,ntmps65;go_wp2_with fail;go_ret;exact⟨rfl,by first | exact Ll _ _ | exact(Ll _ _).drew⟩
theorem tor_any(x y:Bool)(w:Ba):An Al 66 #[Ah x,Ah y] w fun e w'=>e=Ak (Ah (x||y))/\Am w.heap.size w w':=by
 cases x with
 | false=>
  go_enter func66,ntmps66;go_wp2_with fail;go_ret;exact⟨rfl,by first | exact Ll _ _ | exact(Ll _ _).drew⟩
 | true=>
  go_enter func66,ntmps66;go_wp2_with fail;go_ret;exact⟨rfl,by first | exact Ll _ _ | exact(Ll _ _).drew⟩
theorem tpw_any(op:Bool->Bool->Bool)(kf:Nat)(ek:Enters Al kf)(bZ:∀x y X,An Al kf #[Ah x,Ah y] X fun e w'=>e=Ak (Ah (op x y))/\Am X.heap.size X w')(A B:Bb)(ca cb n:Nat)(hn:n<=100000)(a b:List Bool)(ha:a.length=n)(hb:b.length=n)(rs:List Bool)(eM:rs.length=n)(aI:∀k (h:k<n),rs[k]'(by omega)=op (a[k]'(by omega)) (b[k]'(by omega)))
  (w:Ba) (hA:BAt w w.heap.size A a) (hB:BAt w w.heap.size B b) :
  An Al 64 #[I A n ca,I B n cb,.func (.func kf) #[] #[]] w (RetB rs w):=by
 have HA:=zH hA;have HB:=zH hB;have nk:=zH ha;have tl:=zH hb;have fl:=xm n hn;have cX:=zH eM;have dl:As (∀k (h:k<n),rs[k]'(by rw[cX.out];exact h)=op (a[k]'(by rw[nk.out];exact h)) (b[k]'(by rw[tl.out];exact h))):=aI;have UE:=zH bZ;unfold RetB;rw[eM];clear aI bZ hA hB ha hb eM;go_enter func64,ntmps64;go_upto_region 2 with fail
 obtain⟨w3,bL,d3,cz,aG⟩:=zn w (xM (List.replicate n Aw)) 4;rw[bL];have pg:=zH (HA.out.keep aG);have aC:=zH (HB.out.keep aG);have fy:=zH aG;have mI:As (BRow w3 w.heap.size (xq rs 0)):=by rw[jk,cX.out];exact d3
 obtain⟨g,hg⟩:=Kj w.heap.size;rw[hg] at pg aC fy mI cz ⊢;go_wp2_with fail
 go_loopw [14] (fun i wr=>∃k:Nat,k<=n/\i=O U (k:Int)/\As (BRow wr g (xq rs k))/\As (Am g w3 wr)) (fun i _=>n-(Ar i).toNat)
 case atStart=>exact⟨0,by omega,rfl,mI,Ll _ _⟩
 obtain⟨k,hk,rfl,aK,bz⟩:=hrel;have ns:IntKind.i64.wrap ((k:Int)+1)=((k+1:Nat):Int):=by rw[Lo];omega
 by_cases hlt:k<n
 . have dg:(0:Int)<=(k:Int):=by omega
   have aM:(k:Int)<(n:Int):=by omega
   obtain⟨b1,o1,rfl,aF,z0⟩:=(pg.out.keep bz.out).at_ k (by rw[nk.out];exact hlt);obtain⟨b2,o2,rfl,ae,z1⟩:=(aC.out.keep bz.out).at_ k (by rw[tl.out];exact hlt);have aI:=dl.out k hlt;obtain⟨x,hx⟩:=Kj (a[k]'(by rw[nk.out];exact hlt));obtain⟨y,hy⟩:=Kj (b[k]'(by rw[tl.out];exact hlt));rw[hx] at z0 aI;rw[hy] at z1 aI;have dB:k<rs.length:=by rw[cX.out];exact hlt
   obtain⟨z,hz⟩:=Kj (op x y);have hc:=UE.out x y;rw[hz] at aI hc;have HC:=zH hc;have bQ:=aK.out.lt;have aS:As (∀X,Am wr.heap.size wr X->X.cell? ⟨b1,o1+k,Z⟩=J (Ah x)/\X.cell? ⟨b2,o2+k,Z⟩=J (Ah y)):=fun X hX=>⟨(hX.cell (p:=⟨b1,_,Z⟩) (N4 wr _ z0)).trans z0,(hX.cell (p:=⟨b2,_,Z⟩) (N4 wr _ z1)).trans z1⟩
   have HX:=zH aI;clear z0 z1 aI hc hx hy hz;go_upto_region 5 with fail
   refine zr [(0,Av),(1,Av),(2,Av),(3,Av),(4,Av),(5,Av),(6,Av),(7,Av),(8,Av),(9,Av),(10,Av),(11,Aw),(12,Aw),(13,Aw)] (fun X=>X.cell? ⟨b1,o1+k,Z⟩=J (Ah x)/\X.cell? ⟨b2,o2+k,Z⟩=J (Ah y)) (by kernel_rfl) (by kernel_rfl) (aS.out _ (Ll _ _).drew) ?_
   repeat
    apply zk rfl
    . rintro K' aa X ⟨u1,u2⟩
      go_simp;exact aa
   refine zu rfl ?_;intro K' aa;go_simp;rw[ek];refine SA (HC.out _) ?_;rintro e w5 ⟨rfl,am⟩;have am:Am wr.heap.size wr w5:=(Ll _ wr).drew.trans am;have He:=zH ((am.block g bQ).trans aK.out);have HBW5:=zH (bz.out.trans (am.mono (by have:=bz.out.size;omega)));have Wd:=aS.out _ am;refine aa _ _ Wd ?_;clear aa K' am;have ie:=j8 rs (Px dB);have y0:=zh He.out k (qh (xq rs k) k (by omega));have f0:=zi He.out k;obtain⟨u,hu⟩:=Kj ((xq rs k)[k]'(by omega));rw[hu] at y0
   have i8:As (BRow (w5.setCell ⟨g,k,Z⟩ (Ah z)) g (xq rs (k+1))):=by
    rw[<-HX.out,<-j7 rs dB];show _=_;rw[Lk w5 _ k _ _ _ He.out,jp]
   have rx:=zH (HBW5.out.setCell (p:=⟨g,k,Z⟩) (by show g<=g;omega) (Ah z));refine zu rfl ?_;intro K' aa;go_simp;refine aa _ _ (by assumption) ?_;clear aa K';refine yd rfl (by kernel_rfl) ?_;intro K' aa;go_simp;refine aa (fun _=>True) _ _ trivial ?_;refine zz ?_;go_wp2_with fail
   go_roundw
   case rel=>exact⟨k+1,by omega,by go_num,i8,rx⟩
   simp[Ar];omega
 obtain rfl:n=k:=by omega
 have aM:¬(n:Int)<(n:Int):=by omega
 have HE:As (BRow wr g rs):=by have:=aK.out;rwa[show xq rs n=rs by rw[<-cX.out];exact j9 rs] at this
 have rY:=zH (fy.out.trans bz.out);subst hg;go_wp2_with fail;go_ret;exact⟨w.heap.size,rfl,Ld _,HE.out,rY.out⟩
theorem bw_any(s:Sy)(A SV AV AX:Bb)(kc ks kv kx:Nat)(w:Ba):An Al 120 #[.agg (s.vs_ A kc SV ks AV kv AX kx)] w fun e w'=>
  e=Ak (.func (.func 145) #[] #[Aj (J ⟨w.heap.size,0,Z⟩)])/\w.alloc (Ag (s.vs_ A kc SV ks AV kv AX kx) 39)=w':=by
 unfold Sy.vs_;go_enter func120,ntmps120;go_wp2;go_ret;exact⟨rfl,rfl⟩
theorem JP(C:Array Au)(K M m:Nat)(hK:K<=100)(hM:M<=100)(hm:M*(K+1)=m)(AX:Bb)(kx:Nat)(hC6:C[6]?=J (O U (K:Int)))(hC9:C[9]?=J (I AX M kx))(bs:Nat)(w:Ba)(hb:w.heap[bs]?=J (Ag C 39 (0,0))) :
  Y1 Al 145 #[Aj (J ⟨bs,0,Z⟩)] (fun x:Nat×Bool=>#[O U x.1,Ah x.2]) (fun k=>k=bs) (bwL K m) w:=fun n hn l Af Jx W hW hJ OG hY h0=>by
 have my:bs<w.heap.size:=(Ln.1 hb).1;have iB:=(hW.block bs my).trans hb;have HY:=zH hY;have c6:=zh iB 6 hC6;have c9:=zh iB 9 hC9;have H0:=zH h0;have ti:=zH iB;have VI:bs<W.heap.size:=LH my hW.size;have iD:m<=10100:=by rw[<-hm];exact LU hM (show K+1<=101 by omega)
 have ab:IntKind.i64.wrap ((K:Int)+1)=(K:Int)+1:=by rw[Lo];omega
 have VR:(M:Int)*((K:Int)+1)=(m:Int):=by rw[<-hm];push_cast;rfl
 have bh:IntKind.i64.wrap ((M:Int)*((K:Int)+1))=(m:Int):=by rw[VR,Lo];omega
 have bL:IntKind.i64.wrap ((m:Int)-1)=(m:Int)-1:=by rw[Lo];omega
 have fh:IntKind.i64.wrap ((K:Int)+1-1)=(K:Int):=by rw[Lo];omega
 refine Ru func145 rfl trivial ?_ rfl;simp only[ntmps145,List.size_toArray,List.length_cons,List.length_nil,Nat.reduceAdd,Nat.reduceSub,Array.replicate_succ,Array.replicate_zero,List.push_toArray,List.append_toArray,List.nil_append,List.cons_append];gi_wp2_with fail
 gi_loopw [4] (fun q wr=>∃k:Nat,k<=m/\q=O U ((k:Int)-1)/\∃pre:List { x:Nat×Bool // x∈bwL K m },As (pre.map (·.1)++bwL K k=bwL K m)/\As (Af pre wr)/\As (wr.heap[bs]?=J (Ag C 39 (0,0)))/\W.heap.size<=wr.heap.size) (fun q _=>(Ar q+1).toNat)
 case atStart=>exact⟨m,by omega,rfl,[],by simp[As],H0,ti,Ld _⟩
 case round=>
  obtain⟨k,hk,rfl,pre,fa,eS,nO,aP⟩:=hrel
  cases k with
  | succ j=>
   have ej:((j+1:Nat):Int)-1=(j:Int):=by omega
   rw[ej];have mr:pre.map (·.1)++((j,!yM K j)::bwL K j)=bwL K m:=fa.out;have cS:(j,!yM K j)∈bwL K m:=by rw[<-mr];simp
   have ay:pre.length<(bwL K m).length:=by
    have:=congrArg List.length mr;simp only[List.length_append,List.length_map,List.length_cons] at this;omega
   obtain⟨fn,tmps,assign,body,hy,hR⟩:=HY.out pre ⟨(j,!yM K j),cS⟩ _ eS.out ay;dsimp only at hy
   have rU:As ((pre++[(⟨(j,!yM K j),cS⟩:{ x:Nat×Bool // x∈bwL K m })]).map (·.1)++bwL K j=bwL K m):=by
    rw[LF,L6];exact mr
   have HR:=zH hR;obtain⟨r,hr⟩:=Kj (j % (K+1));have ie:r<K+1:=by rw[<-hr];exact Sw _ (by omega)
   have iA:((j:Int)).tmod ((K:Int)+1)=(r:Int):=by rw[<-hr];exact(Int.ofNat_tmod j (K+1)).symm
   have fP:((r:Int) != (K:Int))=!yM K j:=by
    unfold yM;rw[hr]
    by_cases e:r=K
    . rw[Lw e,e];simp
    . rw[Lv e];simp;omega
   obtain⟨lb,Ic⟩:=Kj (yM K j);rw[Ic] at fP hy;have hge:(0:Int)<=(j:Int):=by omega
   have hwj:IntKind.i64.wrap ((j:Int)-1)=(j:Int)-1:=by rw[Lo];omega
   have oI:IntKind.i64.wrap (r:Int)=(r:Int):=by rw[Lo];omega
   clear hr Ic;have hz:¬((K:Int)+1)=0:=by omega
   gi_wp2_with fail;refine HR.out.mono ?_;rintro e W3 (⟨rfl,BS,mu⟩ | ⟨rfl,nQ⟩)
   . have av:wr.heap.size<=W3.heap.size:=mu.size
     have P3:=zH ((mu.same bs rfl (by omega)).trans nO.out);have J3:=zH BS;have lB:W.heap.size<=W3.heap.size:=by omega
     gi_wp2_with fail
     go_roundw
     case rel=>exact⟨j,by omega,rfl,_,rU,J3,P3,lB⟩
     case measure=>simp[Ar]
   . gi_wp2_with fail
     refine LP (P8 rfl _ _ _) rfl ?_;refine⟨⟨_,rfl⟩,.inr ⟨_,?_,nQ⟩⟩;exact⟨_,rU.out⟩
  | zero=>
   have HP:As (pre.map (·.1)=bwL K m):=by have:=fa.out;rwa[bwL,Nk] at this
   have hge:¬(0:Int)<=((0:Nat):Int)-1:=by omega
   gi_wp2_with fail
   go_end0
   exact⟨⟨_,rfl⟩,.inl ⟨pre,HP.out,eS.out⟩⟩
theorem grown_blk{X X':Ba}{row:Option Nat}{D b:Nat}(hg:X.grownBy X' row)(hr:∀r,row=J r->D<=r/\∃o:Obj,X.heap[r]?=J o/\o.isCells=Aw){cs:Array Au}{t:TypeId}(h:X.heap[b]?=J (Ag cs t (0,0))):X'.heap[b]?=J (Ag cs t (0,0)):=
 (LN hg (fun r e=>(hr r e).2) h rfl).trans h
structure BwIn(g n:Nat)(rs:List Bool)(L:List (Nat×Bool))(w:Ba)(ys:List (Nat×Bool))(X:Ba):Prop where
 wrote:Wrote (fun z=>z=g) w X
 row:∃bs,bs.length=n/\BRow X g bs/\(ys <+: L->bs=jq rs (n-ys.length))
theorem BwIn.turn{g n:Nat}{rs:List Bool}{L ys:List (Nat×Bool)}{w X X':Ba}{row:Option Nat}(h:BwIn g n rs L w ys X)(_hl:g<w.heap.size)(hg:X.grownBy X' row)(hr:∀r,row=J r->w.heap.size<=r/\∃o:Obj,X.heap[r]?=J o/\o.isCells=Aw):BwIn g n rs L w ys X':=by
 obtain⟨h1,bs,h2,h3,h4⟩:=h;exact⟨h1.trans (Wrote.of_grown (R:=fun k=>w.heap.size<=k) hg fun k e _=>(hr k e).1) (fun k hk h=>absurd (show w.heap.size<=k from h) (by omega)),bs,h2,grown_blk hg hr h3,h4⟩
theorem brow_setB{w:Ba}{g:Nat}{bs:List Bool}(h:BRow w g bs)(k:Nat)(x:Bool):BRow (w.setCell ⟨g,k,Z⟩ (Ah x)) g (bs.set k x):=by
 unfold BRow at *;rw[World.setCell,PT,Lj rfl,h];simp[xM,List.map_set]
theorem BwIn.set{g K n:Nat}{rs:List Bool}{w X:Ba}{pre:List { x:Nat×Bool // x∈bwL K n }}{x:{ x:Nat×Bool // x∈bwL K n }}{bs:List Bool}(eM:rs.length=n)(hw:Wrote (fun z=>z=g) w X)(aY:bs.length=n)(ah:BRow X g bs)
  (v:Bool) (hv:(pre++[x]).map (·.1) <+: bwL K n->∀k,k<n->x.1=(k,!yM K k)->bs=jq rs (k+1)->v=rs.getD k Aw) (aO:pre.map (·.1) <+: bwL K n->bs=jq rs (n-(pre.map (·.1)).length)) :
  BwIn g n rs (bwL K n) w ((pre++[x]).map (·.1)) (X.setCell ⟨g,x.1.1,Z⟩ (Ah v)).drew:=by
 refine⟨(hw.trans (Wrote.of_grown (zV X g x.1.1 (Ah v)) fun k e hk=>by cases e;rfl) (fun _ _ h=>h)).trans (Wrote.of_below (Ll _ _).drew) (fun _ _ h=>h),_,?_,brow_setB ah _ _,fun hp=>?_⟩
 . rw[RL];exact aY
 obtain⟨k,hk,ek⟩:=bw_next hp
 have pK:pre.map (·.1) <+: bwL K n:=by
  refine List.IsPrefix.trans ?_ hp;rw[LF];exact List.prefix_append _ _
 have hb:=aO pK;rw[LG,show n-pre.length=k+1 by omega] at hb;have h2:=hv hp k (by omega) ek hb;rw[ek,hb,h2,zA (by omega),behB_set (by omega)];simp only[List.length_map,List.length_append,List.length_cons,List.length_nil];rw[show n-(pre.length+(0+1))=k by omega]
theorem tnext_any(s:Sy)(AC SV AV AX:Bb)(kc ks kv kx K M n:Nat)(hk:s.p.k=(K:Int))(hK:K<=100)(hM:s.xs.length=M)(nP:M<=100)(hn:n=M*(K+1))(A:Bb)(ca:Nat)(a:List Bool)(ha:a.length=n)(rs:List Bool)(eM:rs.length=n)
  (aI:∀k,k<n->rs.getD k Aw=(!yM K k&&a.getD (k+1) Aw)) (w:Ba) (hA:BAt w w.heap.size A a) :
  An Al 67 #[.agg (s.vs_ AC kc SV ks AV kv AX kx),I A n ca] w (RetB rs w):=by
 have l8:n<=10100:=by rw[hn];exact LU nP (show K+1<=101 by omega)
 have fl:=xm n (by omega);unfold RetB;rw[eM];obtain⟨w1,ab,d0,av,aV⟩:=zn w (s.vs_ AC kc SV ks AV kv AX kx) 39;obtain⟨w2,bh,d1,cM,bE⟩:=zn w1 #[I A n ca] 58;rw[av] at d1 cM;obtain⟨w3,bL,d2,cz,aG⟩:=zn w2 (xM (List.replicate n Aw)) 4;have hT:w2.heap.size=w.heap.size+1+1:=by omega
 obtain⟨w5,dY,d5,cY,ea⟩:=zn w3 #[I (J ⟨w2.heap.size,0,Z⟩) n n] 58;rw[cz] at d5 cY;have BV:Am w2.heap.size w2 w5:=aG.trans (ea.mono (by omega));have OS:Am w.heap.size w w2:=aV.trans (bE.mono (by omega));have Es:=OS.trans (BV.mono (by omega));have e0:=(BV.block w.heap.size (by omega)).trans (Lb bE (by omega) d0);have e1:=(BV.block (w.heap.size+1) (by omega)).trans (d1);have e2:BRow w5 w2.heap.size (List.replicate n Aw):=Lb ea (by omega) d2;obtain⟨g,hg⟩:=Kj w2.heap.size;rw[hg] at d5 cY e2;have ag:=zH ab;have oY:=zH bh;have fy:=zH bL;rw[hg] at dY;have mJ:=zH dY;have Vi:w2.heap.size=g:=hg;have HG:=zH hg;have aT:=zH Es;have be:=zH e0;have ai:=zH e1;have aj:=zH e2;have fA:=zH d5;have Ey:=zH cY;have tn:As (g=w.heap.size+1+1):=by rw[As,<-hg];exact hT
 have IV:=zH (hA.keep Es);have mi:=zH ha;have cX:=zH eM;have dl:=zH aI;have dM:=zH hn;have q1:=zh d1 0 rfl;have BW:=zH (fun X=>bw_any s AC SV AV AX kc ks kv kx X);have IT:As (∀(b:Nat) (X:Ba),X.heap[b]?=J (Ag (s.vs_ AC kc SV ks AV kv AX kx) 39 (0,0))->Y1 Al 145 #[Aj (J ⟨b,0,Z⟩)] (fun x:Nat×Bool=>#[O U x.1,Ah x.2]) (fun k=>k=b) (bwL K n) X):=fun b X h=>JP (s.vs_ AC kc SV ks AV kv AX kx) K M n hK nP hn.symm AX kx (by rw[<-hk];rfl) (by rw[<-hM];rfl) b X h
 unfold Sy.vs_ at ag be BW IT ⊢;clear ab bh bL dY hg hT d0 d1 d2 d5 av cM cz cY aV bE aG ea BV OS Es e0 e1 e2 hA ha aI eM hn hk hM;refine yg func67 rfl ?_;simp only[ntmps67,List.size_toArray,List.length_cons,List.length_nil,Nat.reduceAdd,Nat.reduceSub,Array.replicate_succ,Array.replicate_zero,List.push_toArray,List.append_toArray,List.nil_append,List.cons_append];go_upto_region 1 with fail
 rw[ag.out,oY.out];go_upto_region 2 with fail
 rw[fy.out,mJ.out];obtain⟨p0,p1,p2,p3,p4,p5,p6,p7,p8,p9⟩:=zM (be.out);go_wp2_with fail;refine(BW.out w5).mono ?_;rintro e w6 ⟨rfl,oJ⟩;obtain⟨W6,pu,d6,fD,iN⟩:=zn w5 #[O U s.p.t.n,O U s.p.t.ins,O U s.p.t.outs,I AC s.p.t.cases.length kc,O U s.p.a.n,I SV s.p.a.sts.length ks,O U s.p.k,O U s.n,I AV s.vs.length kv,I AX s.xs.length kx] 39;obtain rfl:W6=w6:=pu.symm.trans oJ;have dG:=zH (IT.out _ W6 d6);have ai:=zH (La iN ai.out);have aj:=zH (La iN aj.out);have fA:=zH (La iN fA.out);have dw:=zH (Lc aT.out iN);have IU:=zH (IV.out.keep (iN.mono aT.out.size));have dC:g<W6.heap.size:=by have:=Ey.out;omega
 have HZ6:As (W6.heap.size=w5.heap.size+1):=fD;have GU:As (BwIn g n rs (bwL K n) W6 (([]:List { x:Nat×Bool // x∈bwL K n }).map (·.1)) W6):=⟨Wrote.refl _ _,_,LO,aj.out,fun _=>by simp only[List.map_nil,List.length_nil,Nat.sub_zero];exact(XP cX.out).symm⟩;clear pu oJ d6 fD iN p0 p1 p2 p3 p4 p5 p6 p7 p8 p9 BW IT;go_wp2_with fail
 refine un rfl (NA func145 (by kernel_rfl) rfl) dG.out (by rintro z rfl;have:=HZ6.out;omega) (fun _=>rfl)
  (fun (pre:List { x:Nat×Bool // x∈bwL K n }) (X:Ba)=>BwIn g n rs (bwL K n) W6 (pre.map (·.1)) X)
  (fun _ _ _=>False)
  ?hI (fun _ _ _ _ _ h _ _=>h)
  GU.out ?a1 ?assign ?body ?done ?stop
 case hI=>
  intro pre X X' row hX hg hr;exact BwIn.turn hX dC hg hr
 case assign=>
  intro l x W Kc hKc;gi_wp2;exact hKc
 case body=>
  intro l pre x X hI hlt;obtain⟨hi,oP⟩:=bwL_mem x.2;obtain⟨eK,bs,aY,ah,aO⟩:=hI;have pZ:=(eK.block _ (zj fA.out) (by show ¬_=g;omega)).trans fA.out;have iZ:=(eK.block _ (zj ai.out) (by show ¬_=g;have:=tn.out;omega)).trans ai.out;obtain⟨⟨i,m⟩,hx⟩:=x;dsimp only at hi oP
  have dF:As (∀v,KeepsFrom W6.heap.size X (X.setCell ⟨g,i,Z⟩ (Ah v)).drew/\KeepB (fun k=>k=w5.heap.size) X (X.setCell ⟨g,i,Z⟩ (Ah v)).drew):=fun v=>
   ⟨⟨by show X.heap.size<=(X.setCell ⟨g,i,Z⟩ (Ah v)).heap.size;simp[World.setCell],fun k o _ hk ho=>(Le X ⟨g,i,Z⟩ _ k (fun e=>by have e:k=g:=e;rw[e,ah] at hk;cases hk;cases ho)).trans hk⟩,(KeepB.setCell (by show ¬g=w5.heap.size;have:=Ey.out;omega) _).trans (KeepB.drew _ _)⟩
  have dq:=zH (fun (v:Bool) hv=>BwIn.set (x:=⟨(i,m),hx⟩) cX.out eK aY ah v hv aO);have y0:=zh ah i (qh bs i (by omega));have f0:=zi ah i;have q5:=zh pZ 0 rfl;have q1:=zh iZ 0 rfl;have FF:(0:Int)<=(i:Int):=by omega
  have Wy:(i:Int)<(n:Int):=by omega
  have HB:=zH ah;obtain⟨u,hu⟩:=Kj (bs[i]'(by omega));rw[hu] at y0
  cases m with
  | false=>
   have hv:(pre++[(⟨(i,Aw),hx⟩:{ x:Nat×Bool // x∈bwL K n })]).map (·.1) <+: bwL K n->∀k,k<n->(i,Aw)=(k,!yM K k)->bs=jq rs (k+1)->Aw=rs.getD k Aw:=fun _ k hk e _=>by
    rw[dl.out k hk];have:(!yM K k)=Aw:=(congrArg Prod.snd e).symm;rw[this];rfl
   have HS:=zH (dq.out Aw hv);have fZ:=zH (dF.out Aw);have aS:=zH (And.intro pZ iZ);clear oP hv eK ah aO dq dF pZ iZ hlt q5 q1;gi_wp2_with fail;refine zS [(0,Av),(1,Av),(2,Av),(3,Av),(4,Av),(5,Av),(6,Av),(7,Av),(8,Av),(9,Av),(10,Aw),(11,Aw)] (fun X=>X.heap[g+1]?=J (Ag #[I (J ⟨g,0,Z⟩) n n] 58 (0,0))/\X.heap[w.heap.size+1]?=J (Ag #[I A n ca] 58 (0,0))) (by kernel_rfl) (by kernel_rfl) (by kernel_rfl) (by rintro⟨_,_,h⟩;exact h) aS.out ?_
   repeat
    apply zk rfl
    . rintro K' aa Y ⟨u1,u2⟩
      have y1:=zh u1 0 rfl;have y2:=zh u2 0 rfl;clear u1 u2;go_simp;exact aa
   refine zu rfl ?_;intro K' aa;go_simp;refine aa _ _ aS.out ?_;clear aa K';refine yd rfl (by kernel_rfl) ?_;intro K' aa;go_simp;refine aa (fun _=>True) _ _ trivial ?_;refine zz ?_;exact⟨fZ.out.1,fZ.out.2,HS.out⟩
  | true=>
   have fj:yM K i=Aw:=by cases h:yM K i with
    | false=>rfl
    | true=>rw[h] at oP;cases oP
   have rK:i+1<n:=by rw[dM.out] at hi ⊢;exact more_lt hi fj
   obtain⟨ba,oa,rfl,ta,hz⟩:=(IU.out.keep (eK.below (B:=w.heap.size) dw.out.size (fun k hk e=>by have:k=g:=e;have:=tn.out;omega))).at_ (i+1) (by rw[mi.out];exact rK);obtain⟨v,Vl⟩:=Kj (a[i+1]'(by rw[mi.out];exact rK));rw[Vl] at hz
   have hv:(pre++[(⟨(i,Av),hx⟩:{ x:Nat×Bool // x∈bwL K n })]).map (·.1) <+: bwL K n->∀k,k<n->(i,Av)=(k,!yM K k)->bs=jq rs (k+1)->v=rs.getD k Aw:=fun _ k hk e _=>by
    obtain rfl:i=k:=congrArg Prod.fst e;rw[dl.out i hk,fj,zA (by rw[mi.out];exact rK),Vl];rfl
   have HS:=zH (dq.out v hv);have fZ:=zH (dF.out v);have Tq:IntKind.i64.wrap ((i:Int)+1)=(i:Int)+1:=by rw[Lo];omega
   have hi3:(0:Int)<=(i:Int)+1:=by omega
   have hi4:(i:Int)+1<(n:Int):=by omega
   have hti:((i:Int)+1).toNat=i+1:=by omega
   have aS:=zH (And.intro pZ (And.intro iZ hz));clear oP hv eK ah aO dq dF pZ iZ hlt q5 q1 hz Vl ta;gi_wp2_with fail;refine zS [(0,Av),(1,Av),(2,Av),(3,Av),(4,Av),(5,Av),(6,Av),(7,Av),(8,Av),(9,Av),(10,Aw),(11,Aw)] (fun X=>X.heap[g+1]?=J (Ag #[I (J ⟨g,0,Z⟩) n n] 58 (0,0))/\X.heap[w.heap.size+1]?=J (Ag #[I (J ⟨ba,oa,Z⟩) n ca] 58 (0,0))/\X.cell? ⟨ba,oa+(i+1),Z⟩=J (Ah v)) (by kernel_rfl) (by kernel_rfl) (by kernel_rfl) (by rintro⟨_,_,h⟩;exact h) aS.out ?_
   repeat
    apply zk rfl
    . rintro K' aa Y ⟨u1,u2,u3⟩
      have y1:=zh u1 0 rfl;have y2:=zh u2 0 rfl;clear u1 u2;go_simp;exact aa
   refine zu rfl ?_;intro K' aa;go_simp;refine aa _ _ aS.out ?_;clear aa K';refine yd rfl (by kernel_rfl) ?_;intro K' aa;go_simp;refine aa (fun _=>True) _ _ trivial ?_;refine zz ?_;exact⟨fZ.out.1,fZ.out.2,HS.out⟩
 case done=>
  intro D ys W hD eJ hI eq;obtain⟨eK,bs,aY,ah,aO⟩:=hI
  have pS:bs=rs:=by
   have h1:=aO (by rw[eJ];exact List.prefix_refl _);rw[eJ,uV,Nq,JT] at h1;exact h1
  rw[pS] at ah;have cF:=zH ah;have O2:=zH eK;have HD:=zH eq;have q5:=zh ((eK.block _ (zj fA.out) (by show ¬_=g;omega)).trans fA.out) 0 rfl;clear eK ah aO pS eq eJ aY;go_wp2_with fail;refine yo (B:=w.heap.size) (kC (by have:=dw.out.size;omega) HD.out) (v:=I (J ⟨g,0,Z⟩) n n) (fun W=>by kernel_rfl) ?_;intro X hX;refine⟨g,rfl,by have:=tn.out;omega,?_,dw.out.trans ((O2.out.below (B:=w.heap.size) dw.out.size (fun k hk e=>by have:k=g:=e;have:=tn.out;omega)).trans hX.below)⟩;exact hX.same _ _ cF.out rfl
 intro D c pre W hD hS hI;exact hI.elim
theorem tuntil_any(s:Sy)(AC SV AV AX:Bb)(kc ks kv kx K M n:Nat)(hk:s.p.k=(K:Int))(hK:K<=100)(hM:s.xs.length=M)(nP:M<=100)(hn:n=M*(K+1))(A:Bb)(ca:Nat)(a:List Bool)(ha:a.length=n)(B:Bb)(cb:Nat)(b:List Bool)(hb:b.length=n)(rs:List Bool)(eM:rs.length=n)
  (aI:∀k,k<n->rs.getD k Aw=(b.getD k Aw||(a.getD k Aw&&(!yM K k&&rs.getD (k+1) Aw)))) (w:Ba) (hA:BAt w w.heap.size A a) (hB:BAt w w.heap.size B b) :
  An Al 70 #[.agg (s.vs_ AC kc SV ks AV kv AX kx),I A n ca,I B n cb] w (RetB rs w):=by
 have l8:n<=10100:=by rw[hn];exact LU nP (show K+1<=101 by omega)
 have fl:=xm n (by omega);unfold RetB;rw[eM];obtain⟨w1,ab,d0,av,aV⟩:=zn w (s.vs_ AC kc SV ks AV kv AX kx) 39;obtain⟨w2,bh,d1,cM,bE⟩:=zn w1 #[I A n ca] 58;rw[av] at d1 cM;obtain⟨Ci,KN,Un,K9,AH⟩:=zn w2 #[I B n cb] 58;rw[cM] at Un K9;obtain⟨w3,bL,d2,cz,aG⟩:=zn Ci (xM (List.replicate n Aw)) 4;have hT:Ci.heap.size=w.heap.size+1+1+1:=by omega
 obtain⟨w5,dY,d5,cY,ea⟩:=zn w3 #[I (J ⟨Ci.heap.size,0,Z⟩) n n] 58;rw[cz] at d5 cY;have BV:Am Ci.heap.size Ci w5:=aG.trans (ea.mono (by omega));have OS:Am w.heap.size w Ci:=(aV.trans (bE.mono (by omega))).trans (AH.mono (by omega));have Es:=OS.trans (BV.mono (by omega));have e0:=(BV.block w.heap.size (by omega)).trans (Lb AH (by omega) (Lb bE (by omega) d0));have e1:=(BV.block (w.heap.size+1) (by omega)).trans (Lb AH (by omega) d1);have e2:BRow w5 Ci.heap.size (List.replicate n Aw):=Lb ea (by omega) d2;have e1b:=(BV.block (w.heap.size+1+1) (by omega)).trans Un;obtain⟨g,hg⟩:=Kj Ci.heap.size;rw[hg] at d5 cY e2;have ag:=zH ab;have oY:=zH bh;have HW2b:=zH KN;have fy:=zH bL;rw[hg] at dY;have mJ:=zH dY;have Vi:Ci.heap.size=g:=hg;have HG:=zH hg;have aT:=zH Es;have be:=zH e0;have ai:=zH e1;have Dn:=zH e1b;have aj:=zH e2;have fA:=zH d5;have Ey:=zH cY;have tn:As (g=w.heap.size+1+1+1):=by rw[As,<-hg];exact hT
 have IV:=zH (hA.keep Es);have HB5b:=zH (hB.keep Es);have mi:=zH ha;have pd:=zH hb;have cX:=zH eM;have dl:=zH aI;have dM:=zH hn;have q1:=zh (Lb AH (by omega) d1) 0 rfl;have KA:=zh Un 0 rfl;have BW:=zH (fun X=>bw_any s AC SV AV AX kc ks kv kx X);have IT:As (∀(b:Nat) (X:Ba),X.heap[b]?=J (Ag (s.vs_ AC kc SV ks AV kv AX kx) 39 (0,0))->Y1 Al 145 #[Aj (J ⟨b,0,Z⟩)] (fun x:Nat×Bool=>#[O U x.1,Ah x.2]) (fun k=>k=b) (bwL K n) X):=fun b X h=>JP (s.vs_ AC kc SV ks AV kv AX kx) K M n hK nP hn.symm AX kx (by rw[<-hk];rfl) (by rw[<-hM];rfl) b X h
 unfold Sy.vs_ at ag be BW IT ⊢;clear ab bh bL dY hg hT d0 d1 d2 d5 av cM cz cY aV bE aG ea BV OS Es e0 e1 e2 hA ha aI eM hn hk hM KN K9 AH Un e1b hB hb;refine yg func70 rfl ?_;simp only[ntmps70,List.size_toArray,List.length_cons,List.length_nil,Nat.reduceAdd,Nat.reduceSub,Array.replicate_succ,Array.replicate_zero,List.push_toArray,List.append_toArray,List.nil_append,List.cons_append];go_upto_region 1 with fail
 rw[ag.out,oY.out,HW2b.out];go_upto_region 2 with fail
 rw[fy.out,mJ.out];obtain⟨p0,p1,p2,p3,p4,p5,p6,p7,p8,p9⟩:=zM (be.out);go_wp2_with fail;refine(BW.out w5).mono ?_;rintro e w6 ⟨rfl,oJ⟩;obtain⟨W6,pu,d6,fD,iN⟩:=zn w5 #[O U s.p.t.n,O U s.p.t.ins,O U s.p.t.outs,I AC s.p.t.cases.length kc,O U s.p.a.n,I SV s.p.a.sts.length ks,O U s.p.k,O U s.n,I AV s.vs.length kv,I AX s.xs.length kx] 39;obtain rfl:W6=w6:=pu.symm.trans oJ;have dG:=zH (IT.out _ W6 d6);have ai:=zH (La iN ai.out);have Dn:=zH (La iN Dn.out);have aj:=zH (La iN aj.out);have fA:=zH (La iN fA.out);have dw:=zH (Lc aT.out iN);have IU:=zH (IV.out.keep (iN.mono aT.out.size));have HB6b:=zH (HB5b.out.keep (iN.mono aT.out.size));have dC:g<W6.heap.size:=by have:=Ey.out;omega
 have HZ6:As (W6.heap.size=w5.heap.size+1):=fD;have GU:As (BwIn g n rs (bwL K n) W6 (([]:List { x:Nat×Bool // x∈bwL K n }).map (·.1)) W6):=⟨Wrote.refl _ _,_,LO,aj.out,fun _=>by simp only[List.map_nil,List.length_nil,Nat.sub_zero];exact(XP cX.out).symm⟩;clear pu oJ d6 fD iN p0 p1 p2 p3 p4 p5 p6 p7 p8 p9 BW IT;go_wp2_with fail
 refine un rfl (NA func145 (by kernel_rfl) rfl) dG.out (by rintro z rfl;have:=HZ6.out;omega) (fun _=>rfl)
  (fun (pre:List { x:Nat×Bool // x∈bwL K n }) (X:Ba)=>BwIn g n rs (bwL K n) W6 (pre.map (·.1)) X)
  (fun _ _ _=>False)
  ?hI (fun _ _ _ _ _ h _ _=>h)
  GU.out ?a1 ?assign ?body ?done ?stop
 case hI=>
  intro pre X X' row hX hg hr;exact BwIn.turn hX dC hg hr
 case assign=>
  intro l x W Kc hKc;gi_wp2;exact hKc
 case body=>
  intro l pre x X hI hlt;obtain⟨hi,oP⟩:=bwL_mem x.2;obtain⟨eK,bs,aY,ah,aO⟩:=hI;have pZ:=(eK.block _ (zj fA.out) (by show ¬_=g;omega)).trans fA.out;have iZ:=(eK.block _ (zj ai.out) (by show ¬_=g;have:=tn.out;omega)).trans ai.out;have nS:=(eK.block _ (zj Dn.out) (by show ¬_=g;have:=tn.out;omega)).trans Dn.out;obtain⟨⟨i,m⟩,hx⟩:=x;dsimp only at hi oP
  have dF:As (∀v,KeepsFrom W6.heap.size X (X.setCell ⟨g,i,Z⟩ (Ah v)).drew/\KeepB (fun k=>k=w5.heap.size) X (X.setCell ⟨g,i,Z⟩ (Ah v)).drew):=fun v=>
   ⟨⟨by show X.heap.size<=(X.setCell ⟨g,i,Z⟩ (Ah v)).heap.size;simp[World.setCell],fun k o _ hk ho=>(Le X ⟨g,i,Z⟩ _ k (fun e=>by have e:k=g:=e;rw[e,ah] at hk;cases hk;cases ho)).trans hk⟩,(KeepB.setCell (by show ¬g=w5.heap.size;have:=Ey.out;omega) _).trans (KeepB.drew _ _)⟩
  have dq:=zH (fun (v:Bool) hv=>BwIn.set (x:=⟨(i,m),hx⟩) cX.out eK aY ah v hv aO);have y0:=zh ah i (qh bs i (by omega));have f0:=zi ah i;have q5:=zh pZ 0 rfl;have q1:=zh iZ 0 rfl;have KA:=zh nS 0 rfl;have FF:(0:Int)<=(i:Int):=by omega
  have Wy:(i:Int)<(n:Int):=by omega
  have HB:=zH ah;obtain⟨u,hu⟩:=Kj (bs[i]'(by omega));rw[hu] at y0;have ma:=eK.below (B:=w.heap.size) dw.out.size (fun k hk e=>by have:k=g:=e;have:=tn.out;omega);obtain⟨ba,oa,rfl,ta,Ck⟩:=(IU.out.keep ma).at_ i (by rw[mi.out];exact hi);obtain⟨bb,ob,rfl,bj,tB⟩:=(HB6b.out.keep ma).at_ i (by rw[pd.out];exact hi);have CY:a.getD i Aw=a[i]'(by rw[mi.out];exact hi):=zA (by rw[mi.out];exact hi) _;have CR:b.getD i Aw=b[i]'(by rw[pd.out];exact hi):=zA (by rw[pd.out];exact hi) _;obtain⟨y,hyd⟩:=Kj (a[i]'(by rw[mi.out];exact hi));obtain⟨x,hxd⟩:=Kj (b[i]'(by rw[pd.out];exact hi));rw[hyd] at Ck CY;rw[hxd] at tB CR;clear hyd hxd ta bj ma
  cases x with
  | true=>
   have hv:(pre++[(⟨(i,m),hx⟩:{ x:Nat×Bool // x∈bwL K n })]).map (·.1) <+: bwL K n->∀k,k<n->(i,m)=(k,!yM K k)->bs=jq rs (k+1)->Av=rs.getD k Aw:=fun _ k hk e hb=>by
    obtain rfl:i=k:=congrArg Prod.fst e;rw[dl.out i hk,<-oP,CR,CY];rfl
   have HS:=zH (dq.out Av hv);have fZ:=zH (dF.out Av);have aS:=zH (And.intro pZ (And.intro iZ (And.intro nS (And.intro Ck tB))));clear hv eK ah aO dq dF pZ iZ nS hlt q5 q1 KA Ck tB CR CY oP dl;gi_wp2_with fail;refine zS [(0,Av),(1,Av),(2,Av),(3,Av),(4,Av),(5,Av),(6,Av),(7,Av),(8,Av),(9,Av),(10,Av),(11,Av),(12,Av),(13,Av),(14,Av),(15,Av),(16,Av),(17,Av),(18,Av),(19,Av),(20,Av),(21,Av),(22,Aw),(23,Aw)] (fun X=>X.heap[g+1]?=J (Ag #[I (J ⟨g,0,Z⟩) n n] 58 (0,0))/\X.heap[w.heap.size+1]?=J (Ag #[I (J ⟨ba,oa,Z⟩) n ca] 58 (0,0))/\X.heap[w.heap.size+1+1]?=J (Ag #[I (J ⟨bb,ob,Z⟩) n cb] 58 (0,0))/\X.cell? ⟨ba,oa+i,Z⟩=J (Ah y)/\X.cell? ⟨bb,ob+i,Z⟩=J (Ah Av)) (by kernel_rfl) (by kernel_rfl) (by kernel_rfl) (by rintro⟨_,_,h⟩;exact h) aS.out ?_
   repeat
    apply zk rfl
    . rintro K' aa Y ⟨u1,u2,u3,u4,u5⟩
      have y1:=zh u1 0 rfl;have y2:=zh u2 0 rfl;have y3:=zh u3 0 rfl;clear u1 u2 u3;go_simp;exact aa
   refine zu rfl ?_;intro K' aa;go_simp;refine aa _ _ aS.out ?_;clear aa K';refine yd rfl (by kernel_rfl) ?_;intro K' aa;go_simp;refine aa (fun _=>True) _ _ trivial ?_;refine zz ?_;exact⟨fZ.out.1,fZ.out.2,HS.out⟩
  | false=>
   cases y with
   | false=>
    have hv:(pre++[(⟨(i,m),hx⟩:{ x:Nat×Bool // x∈bwL K n })]).map (·.1) <+: bwL K n->∀k,k<n->(i,m)=(k,!yM K k)->bs=jq rs (k+1)->Aw=rs.getD k Aw:=fun _ k hk e hb=>by
     obtain rfl:i=k:=congrArg Prod.fst e;rw[dl.out i hk,<-oP,CR,CY];rfl
    have HS:=zH (dq.out Aw hv);have fZ:=zH (dF.out Aw);have aS:=zH (And.intro pZ (And.intro iZ (And.intro nS (And.intro Ck tB))));clear hv eK ah aO dq dF pZ iZ nS hlt q5 q1 KA Ck tB CR CY oP dl;gi_wp2_with fail;refine zS [(0,Av),(1,Av),(2,Av),(3,Av),(4,Av),(5,Av),(6,Av),(7,Av),(8,Av),(9,Av),(10,Av),(11,Av),(12,Av),(13,Av),(14,Av),(15,Av),(16,Av),(17,Av),(18,Av),(19,Av),(20,Av),(21,Av),(22,Aw),(23,Aw)] (fun X=>X.heap[g+1]?=J (Ag #[I (J ⟨g,0,Z⟩) n n] 58 (0,0))/\X.heap[w.heap.size+1]?=J (Ag #[I (J ⟨ba,oa,Z⟩) n ca] 58 (0,0))/\X.heap[w.heap.size+1+1]?=J (Ag #[I (J ⟨bb,ob,Z⟩) n cb] 58 (0,0))/\X.cell? ⟨ba,oa+i,Z⟩=J (Ah Aw)/\X.cell? ⟨bb,ob+i,Z⟩=J (Ah Aw)) (by kernel_rfl) (by kernel_rfl) (by kernel_rfl) (by rintro⟨_,_,h⟩;exact h) aS.out ?_
    repeat
     apply zk rfl
     . rintro K' aa Y ⟨u1,u2,u3,u4,u5⟩
       have y1:=zh u1 0 rfl;have y2:=zh u2 0 rfl;have y3:=zh u3 0 rfl;clear u1 u2 u3;go_simp;exact aa
    refine zu rfl ?_;intro K' aa;go_simp;refine aa _ _ aS.out ?_;clear aa K';refine yd rfl (by kernel_rfl) ?_;intro K' aa;go_simp;refine aa (fun _=>True) _ _ trivial ?_;refine zz ?_;exact⟨fZ.out.1,fZ.out.2,HS.out⟩
   | true=>
    cases m with
    | false=>
     have hv:(pre++[(⟨(i,Aw),hx⟩:{ x:Nat×Bool // x∈bwL K n })]).map (·.1) <+: bwL K n->∀k,k<n->(i,Aw)=(k,!yM K k)->bs=jq rs (k+1)->Aw=rs.getD k Aw:=fun _ k hk e hb=>by
      obtain rfl:i=k:=congrArg Prod.fst e;rw[dl.out i hk,<-oP,CR,CY];rfl
     have HS:=zH (dq.out Aw hv);have fZ:=zH (dF.out Aw);have aS:=zH (And.intro pZ (And.intro iZ (And.intro nS (And.intro Ck tB))));clear hv eK ah aO dq dF pZ iZ nS hlt q5 q1 KA Ck tB CR CY oP dl;gi_wp2_with fail;refine zS [(0,Av),(1,Av),(2,Av),(3,Av),(4,Av),(5,Av),(6,Av),(7,Av),(8,Av),(9,Av),(10,Av),(11,Av),(12,Av),(13,Av),(14,Av),(15,Av),(16,Av),(17,Av),(18,Av),(19,Av),(20,Av),(21,Av),(22,Aw),(23,Aw)] (fun X=>X.heap[g+1]?=J (Ag #[I (J ⟨g,0,Z⟩) n n] 58 (0,0))/\X.heap[w.heap.size+1]?=J (Ag #[I (J ⟨ba,oa,Z⟩) n ca] 58 (0,0))/\X.heap[w.heap.size+1+1]?=J (Ag #[I (J ⟨bb,ob,Z⟩) n cb] 58 (0,0))/\X.cell? ⟨ba,oa+i,Z⟩=J (Ah Av)/\X.cell? ⟨bb,ob+i,Z⟩=J (Ah Aw)) (by kernel_rfl) (by kernel_rfl) (by kernel_rfl) (by rintro⟨_,_,h⟩;exact h) aS.out ?_
     repeat
      apply zk rfl
      . rintro K' aa Y ⟨u1,u2,u3,u4,u5⟩
        have y1:=zh u1 0 rfl;have y2:=zh u2 0 rfl;have y3:=zh u3 0 rfl;clear u1 u2 u3;go_simp;exact aa
     refine zu rfl ?_;intro K' aa;go_simp;refine aa _ _ aS.out ?_;clear aa K';refine yd rfl (by kernel_rfl) ?_;intro K' aa;go_simp;refine aa (fun _=>True) _ _ trivial ?_;refine zz ?_;exact⟨fZ.out.1,fZ.out.2,HS.out⟩
    | true=>
     have fj:yM K i=Aw:=by cases h:yM K i with
      | false=>rfl
      | true=>rw[h] at oP;cases oP
     have rK:i+1<n:=by rw[dM.out] at hi ⊢;exact more_lt hi fj
     have U6:=zh ah (i+1) (qh bs (i+1) (by omega));obtain⟨z,U7⟩:=Kj (bs[i+1]'(by omega));rw[U7] at U6;have Tq:IntKind.i64.wrap ((i:Int)+1)=(i:Int)+1:=by rw[Lo];omega
     have hi3:(0:Int)<=(i:Int)+1:=by omega
     have hi4:(i:Int)+1<(n:Int):=by omega
     have hti:((i:Int)+1).toNat=i+1:=by omega
     have hv:(pre++[(⟨(i,Av),hx⟩:{ x:Nat×Bool // x∈bwL K n })]).map (·.1) <+: bwL K n->∀k,k<n->(i,Av)=(k,!yM K k)->bs=jq rs (k+1)->z=rs.getD k Aw:=fun _ k hk e hb=>by
      obtain rfl:i=k:=congrArg Prod.fst e;rw[dl.out i hk,<-oP,CR,CY];rw[R6,Ns,Ns,<-U7];subst hb;rw[behB_at (by rw[cX.out];exact rK),zA (by rw[cX.out];exact rK)]
     have HS:=zH (dq.out z hv);have fZ:=zH (dF.out z);have aS:=zH (And.intro pZ (And.intro iZ (And.intro nS (And.intro Ck (And.intro tB U6)))));clear hv eK ah aO dq dF pZ iZ nS hlt q5 q1 KA Ck tB CR CY oP dl U6 U7 fj;gi_wp2_with fail;refine zS [(0,Av),(1,Av),(2,Av),(3,Av),(4,Av),(5,Av),(6,Av),(7,Av),(8,Av),(9,Av),(10,Av),(11,Av),(12,Av),(13,Av),(14,Av),(15,Av),(16,Av),(17,Av),(18,Av),(19,Av),(20,Av),(21,Av),(22,Aw),(23,Aw)] (fun X=>X.heap[g+1]?=J (Ag #[I (J ⟨g,0,Z⟩) n n] 58 (0,0))/\X.heap[w.heap.size+1]?=J (Ag #[I (J ⟨ba,oa,Z⟩) n ca] 58 (0,0))/\X.heap[w.heap.size+1+1]?=J (Ag #[I (J ⟨bb,ob,Z⟩) n cb] 58 (0,0))/\X.cell? ⟨ba,oa+i,Z⟩=J (Ah Av)/\X.cell? ⟨bb,ob+i,Z⟩=J (Ah Aw)/\X.cell? ⟨g,i+1,Z⟩=J (Ah z)) (by kernel_rfl) (by kernel_rfl) (by kernel_rfl) (by rintro⟨_,_,h⟩;exact h) aS.out ?_
     repeat
      apply zk rfl
      . rintro K' aa Y ⟨u1,u2,u3,u4,u5,u6⟩
        have y1:=zh u1 0 rfl;have y2:=zh u2 0 rfl;have y3:=zh u3 0 rfl;clear u1 u2 u3;go_simp;exact aa
     refine zu rfl ?_;intro K' aa;go_simp;refine aa _ _ aS.out ?_;clear aa K';refine yd rfl (by kernel_rfl) ?_;intro K' aa;go_simp;refine aa (fun _=>True) _ _ trivial ?_;refine zz ?_;exact⟨fZ.out.1,fZ.out.2,HS.out⟩
 case done=>
  intro D ys W hD eJ hI eq;obtain⟨eK,bs,aY,ah,aO⟩:=hI
  have pS:bs=rs:=by
   have h1:=aO (by rw[eJ];exact List.prefix_refl _);rw[eJ,uV,Nq,JT] at h1;exact h1
  rw[pS] at ah;have cF:=zH ah;have O2:=zH eK;have HD:=zH eq;have q5:=zh ((eK.block _ (zj fA.out) (by show ¬_=g;omega)).trans fA.out) 0 rfl;clear eK ah aO pS eq eJ aY;go_wp2_with fail;refine yo (B:=w.heap.size) (kC (by have:=dw.out.size;omega) HD.out) (v:=I (J ⟨g,0,Z⟩) n n) (fun W=>by kernel_rfl) ?_;intro X hX;refine⟨g,rfl,by have:=tn.out;omega,?_,dw.out.trans ((O2.out.below (B:=w.heap.size) dw.out.size (fun k hk e=>by have:k=g:=e;have:=tn.out;omega)).trans hX.below)⟩;exact hX.same _ _ cF.out rfl
 intro D c pre W hD hS hI;exact hI.elim
end
section
open Go.RowKit Go.Shelf
def kBs:Kd:=⟨58,136,1,24,I Z 0 0⟩
theorem kBs_ok:KdOk Al kBs:=⟨underlying136,by kernel_rfl,by rfl,by decide,by decide⟩
def vg(n:Nat)(R:List Bool)(w:Ba)(e:Ending)(w':Ba):Prop:=∃A c,e=Ak (.tuple #[I A n c,O U 0])/\BAt w' w'.heap.size A R/\(∀a,A=J a->w.heap.size<=a.block)/\Am w.heap.size w w'
theorem BAt.grown{w w':Ba}{A:Bb}{bs:List Bool}{row:Option Nat}(h:BAt w w.heap.size A bs)(hg:w.grownBy w' row)(hr:∀a,A=J a->row≠J a.block):BAt w' w'.heap.size A bs:=fun h0=>by
 obtain⟨b,off,e,hlt,hc⟩:=h h0;have hb:=hg.block b hlt (fun e2=>hr _ e e2.symm);exact⟨b,off,e,LH hlt hg.size,fun i hi=>(LL (a:=⟨b,off+i,Z⟩) hb).trans (hc i hi)⟩
structure VaIn(D n:Nat)(RS:Nat->List Bool)(w W:Ba)(P:Bb)(k c:Nat)(cs:List Au):Prop where
 below:Am D w W
 own:OwnR kBs W D (I P k c) k cs
 rows:∀j,j<k->∃A c',cs[j]?=J (I A n c')/\BAt W W.heap.size A (RS j)/\(∀a,A=J a->a.block<W.heap.size/\(I P k c).ownBlock≠J a.block)
 len:cs.length=k
theorem VaIn.start{D n:Nat}{RS:Nat->List Bool}{w W:Ba}(h:Am D w W):VaIn D n RS w W Z 0 0 []:=⟨h,OwnR.nil _ _ _,fun j hj=>absurd hj (by omega),rfl⟩
theorem VaIn.on{D n k c:Nat}{RS:Nat->List Bool}{w W W':Ba}{P:Bb}{cs:List Au}(h:VaIn D n RS w W P k c cs)(hD:D<=W.heap.size)(hb:Am W.heap.size W W'):VaIn D n RS w W' P k c cs:=by
 refine⟨h.below.trans (hb.mono hD),h.own.below hb (Ld _),fun j hj=>?_,h.len⟩;obtain⟨A,c',e1,e2,e3⟩:=h.rows j hj;exact⟨A,c',e1,(e2.keep hb).more hb.size,fun a e=>⟨LH (e3 a e).1 hb.size,(e3 a e).2⟩⟩
theorem VaIn.push{D n k c c2 c3 g':Nat}{RS:Nat->List Bool}{w W W1:Ba}{P A3:Bb}{cs:List Au}(h:VaIn D n RS w W P k c cs)(hD:D<=W.heap.size)(ah:BAt W W.heap.size A3 (RS k))(hf:∀a,A3=J a->a.block<W.heap.size/\(I P k c).ownBlock≠J a.block)
  (ho:OwnR kBs W1 D (I (J ⟨g',0,Z⟩) (k+1) c2) (k+1) (cs++[I A3 n c3])) (hg:W.grownBy W1 (I P k c).ownBlock) (aI:(I P k c).ownBlock=J g'\/g'=W.heap.size) :
  VaIn D n RS w W1 (J ⟨g',0,Z⟩) (k+1) c2 (cs++[I A3 n c3]):=by
 have az:∀(A:Bb),(∀a,A=J a->a.block<W.heap.size/\(I P k c).ownBlock≠J a.block)->∀a,A=J a->a.block<W1.heap.size/\(I (J ⟨g',0,Z⟩) (k+1) c2).ownBlock≠J a.block:=fun A h2 a e=>by
  obtain⟨e2,e1⟩:=h2 a e;refine⟨LH e2 hg.size,?_⟩;show J g'≠J a.block;intro e3;have e4:g'=a.block:=NS e3;rcases aI with h5 | h5
  . rw[h5,e4] at e1;exact e1 rfl
  . omega
 refine⟨h.below.trans ((Ll _ _).grown hg hD (fun r e=>(h.own.lt r e).1)),ho,fun j hj=>?_,by simp[h.len]⟩
 by_cases e:j=k
 . subst e
   exact⟨A3,c3,by rw[Ly (by rw[h.len];exact Ld _),h.len,Nq];rfl,ah.grown hg (fun a e=>(hf a e).2),az A3 hf⟩
 obtain⟨A,c',e1,e2,e3⟩:=h.rows j (by omega);exact⟨A,c',by rw[LC (by rw[h.len];omega)];exact e1,e2.grown hg (fun a e=>(e3 a e).2),az A e3⟩
end
section
open Go.RowKit Go.Shelf
attribute [local go_sem] Oper.semAt_some
def Zp(R:List Bool×Int)(w:Ba)(e:Ending)(w':Ba):Prop:=∃A c,e=Ak (.tuple #[I A R.1.length c,O U R.2])/\BAt w' w'.heap.size A R.1/\(∀a,A=J a->w.heap.size<=a.block)/\Am w.heap.size w w'
theorem Yo(s:Sy)(hs:LowS s)(hf:yU s.p)(g:Int)(set:List Bool)(A SV AV AX AB:Bb)(kc ks kv kx kb:Nat)(dR:set.length<=1000000)(w:Ba)(hS:SyAt w w.heap.size A SV AV AX s)(bG:BAt w w.heap.size AB set) :
  An Al 72 #[.agg (s.vs_ A kc SV ks AV kv AX kx),O U g,I AB set.length kb] w (Zp (evyE s g set) w):=by
 obtain⟨w1,ab,d0,av,hB⟩:=zn w (s.vs_ A kc SV ks AV kv AX kx) 39;have HO:=zH (ub s hs hf g set A SV AV AX AB kc ks kv kx kb dR w1 (hS.up hB));have lW:As (∀X,Am w1.heap.size w1 X->BAt X X.heap.size AB set):=fun X hX=>(((bG.keep hB).more hB.size).keep hX).more hX.size
 have HC:As (zw s g set=0->∃G:Nat,g=(G:Int)/\set.length=ptn s/\evyE s g set=(evG s g set,0)/\∀(bw:Nat) (X:Ba),Am w1.heap.size w1 X->KwAt X X.heap.size bw (ptn s) s.n.toNat (ya s)->An Al 43 #[Aj (J ⟨bw,0,Z⟩),O U (G:Int),I AB (ptn s) kb] X (RetB (evG s g set) X)):=fun h=>by
  obtain⟨G,hg,hG,hN,cZ,l8,hl,cI⟩:=kN hf h;refine⟨G,hg,hl,Lg (by simpa using h),fun bw X hX hK=>?_⟩;unfold evG;rw[cI];exact kS bw (ptn s) s.n.toNat (ya s) cZ (by omega) hN G hG AB kb set hl X hK (lW.out X hX)
 unfold RetB at HC;obtain⟨E,hE⟩:=Kj (zw s g set);obtain⟨R,hR⟩:=Kj (evyE s g set);have th:As (E≠0->R=([],E)):=fun h=>by rw[<-hR,<-hE] at *;exact Lj h
 unfold RetOp at HO;unfold Zp;rw[hE] at HO HC;rw[hR] at HC ⊢;obtain⟨n,hn⟩:=Kj (ptn s);rw[hn] at HO HC;unfold Sy.vs_ at ab d0 HO ⊢;have ag:=zH ab;have HB:=zH hB;clear ab d0 hB bG hE hR hS hs hf lW hn;go_enter func72,ntmps72;go_wp2_with fail;rw[ag.out];go_wp2_with fail;refine HO.out.mono ?_;rintro e w2 ⟨ae,eo⟩;have au:=zH ae;have tu:As (w.heap.size<=w2.heap.size):=Lu HB.out.size ae.size;rcases eo with ⟨h0,rfl⟩ | ⟨rfl,bw,rfl,hK⟩
 . have e0:(E != 0)=Av:=by simpa using h0
   have de:As (R=([],E)):=th.out h0;go_wp2_with fail
   go_ret2
   rw[de.out];exact⟨Z,0,rfl,fun h=>absurd h (by simp),fun _ e=>(by cases e),Lc HB.out au.out⟩
 obtain⟨G,rfl,hl,de,hc⟩:=HC.out rfl;have tt:=zH (hc bw w2 au.out hK);have HRR:=zH de;rw[hl];go_wp2_with fail;refine tt.out.mono ?_;rintro e w3 ⟨g3,rfl,oR,iR,ak⟩;have lP:=zH iR;have aC:=zH (HB.out.trans ((Lc au.out ak).mono HB.out.size));go_wp2_with fail
 go_ret2
 rw[HRR.out];have hz:=tu.out;exact⟨J ⟨g3,0,Z⟩,_,rfl,lP.out.at_ lP.out.lt,fun _ e=>(by cases e;show w.heap.size<=g3;omega),aC.out⟩
theorem uM(s:Sy)(hs:LowS s)(hf:yU s.p)(g:Int)(set:List Bool)(A SV AV AX AB:Bb)(kc ks kv kx kb:Nat)(dR:set.length<=1000000)(w:Ba)(hS:SyAt w w.heap.size A SV AV AX s)(bG:BAt w w.heap.size AB set) :
  An Al 73 #[.agg (s.vs_ A kc SV ks AV kv AX kx),O U g,I AB set.length kb] w (Zp (dstE s g set) w):=by
 obtain⟨w1,ab,d0,av,hB⟩:=zn w (s.vs_ A kc SV ks AV kv AX kx) 39;have HO:=zH (gU s hs hf g set A SV AV AX AB kc ks kv kx kb dR w1 (hS.up hB));have lW:As (∀X,Am w1.heap.size w1 X->BAt X X.heap.size AB set):=fun X hX=>(((bG.keep hB).more hB.size).keep hX).more hX.size
 have HC:As (zw s g set=0->set.length=ptn s/\dstE s g set=(xR (ptn s) (kI s g) set,0)/\∀(bw mb:Nat) (X:Ba),Am w1.heap.size w1 X->KwD s A SV AV AX kc ks kv kx w1.heap.size X bw mb 0 (fun _=>Z)->An Al 122 #[Aj (J ⟨bw,0,Z⟩),O U g,I AB (ptn s) kb] X fun e w'=>∃g' m' F',e=Ak (I (J ⟨g',0,Z⟩) (ptn s) (ptn s))/\X.heap.size<=g'/\BRow w' g' (xR (ptn s) (kI s g) set)/\KwD s A SV AV AX kc ks kv kx w1.heap.size w' bw mb m' F'/\Wrote (fun z=>z=mb) X w'):=fun h=>by
  obtain⟨G,hg,hG,hN,cZ,l8,hl,cI⟩:=kN hf h;exact⟨hl,Lg (by simpa using h),fun bw mb X hX hK=>kdist_any s hs hf A SV AV AX kc ks kv kx w1.heap.size g (xz h).1 (by omega) AB kb set hl bw mb 0 _ X hK (lW.out X hX)⟩
 have fH:As (∀X,Am w1.heap.size w1 X->SyAt X w1.heap.size A SV AV AX s):=fun X hX=>(hS.up hB).keep hX
 obtain⟨E,hE⟩:=Kj (zw s g set);obtain⟨R,hR⟩:=Kj (dstE s g set);have th:As (E≠0->R=([],E)):=fun h=>by rw[<-hR,<-hE] at *;exact Lj h
 unfold RetOpG at HO;unfold Zp;rw[hE] at HO HC;rw[hR] at HC ⊢;obtain⟨n,hn⟩:=Kj (ptn s);have dM:=zH hn;rw[hn] at HO HC;unfold Sy.vs_ at ab d0 HO ⊢;have ag:=zH ab;have HB:=zH hB;clear ab d0 hB bG hE hR hS hs hf lW hn;go_enter func73,ntmps73;go_wp2_with fail;rw[ag.out];go_wp2_with fail;refine HO.out.mono ?_;rintro e w2 ⟨ae,eo⟩;have au:=zH ae;have tu:As (w.heap.size<=w2.heap.size):=Lu HB.out.size ae.size;rcases eo with ⟨h0,rfl⟩ | ⟨rfl,bw,rfl,hK,mb,se,iD,AQ,cQ,cd⟩
 . have e0:(E != 0)=Av:=by simpa using h0
   have de:As (R=([],E)):=th.out h0;go_wp2_with fail
   go_ret2
   rw[de.out];exact⟨Z,0,rfl,fun h=>absurd h (by simp),fun _ e=>(by cases e),Lc HB.out au.out⟩
 obtain⟨hl,de,hc⟩:=HC.out rfl;have HKD:As (KwD s A SV AV AX kc ks kv kx w1.heap.size w2 bw mb 0 (fun _=>Z)):=⟨by rw[dM.out];exact hK,⟨AQ,cQ,by rw[dM.out];exact cd⟩,iD,fun g v h=>(by cases h),fH.out w2 au.out,au.out.size,se⟩;have tt:=zH (hc bw mb w2 au.out HKD.out);have HRR:=zH de;rw[hl];go_wp2_with fail;refine tt.out.mono ?_;rintro e w3 ⟨g3,m3,F3,rfl,oR,iR,mu,bL⟩;have lP:=zH iR
 have aC:As (Am w.heap.size w w3):=by
  have h2:=au.out.size;have h3:=bL.size;exact HB.out.trans ⟨bL.os.trans au.out.os,bL.tape.trans au.out.tape,bL.output.trans au.out.output,by omega,fun k hk=>(bL.block k (by omega) (by show ¬k=mb;omega)).trans (au.out.block k (by omega))⟩
 go_wp2_with fail
 go_ret2
 rw[HRR.out];have hz:=tu.out;refine⟨J ⟨g3,0,Z⟩,n,?_,lP.out.at_ lP.out.lt,fun _ e=>(by cases e;show w.heap.size<=g3;omega),aC.out⟩;dsimp only;rw[xb]
 rfl
theorem Jo(s:Sy)(hs:LowS s)(hf:yU s.p)(q:Int)(set:List Bool)(A SV AV AX AB:Bb)(kc ks kv kx kb:Nat)(_Gr:set.length<=1000000)(w:Ba)(hS:SyAt w w.heap.size A SV AV AX s)(bG:BAt w w.heap.size AB set) :
  An Al 71 #[.agg (s.vs_ A kc SV ks AV kv AX kx),O U q,I AB set.length kb] w (Zp (knwE s q set) w):=by
 obtain⟨w1,ab,d0,av,hB⟩:=zn w (s.vs_ A kc SV ks AV kv AX kx) 39;have HO:=zH (Qg s hs hf A SV AV AX kc ks kv kx w1 (hS.up hB));have lW:As (∀X,Am w1.heap.size w1 X->BAt X X.heap.size AB set):=fun X hX=>(((bG.keep hB).more hB.size).keep hX).more hX.size
 have lO:As (yc s=0->∃N:Nat,s.n=(N:Int)/\N<=5/\ptn s<=700):=fun h=>by
  obtain⟨_,K,N,hF⟩:=yF hf h;have hk:=hF.k;have CK:=hF.k6;have:=LU hF.lx (show s.p.k.toNat+1<=7 by omega);exact⟨N,hF.n,hF.n5,by unfold ptn;omega⟩
 have HE:As (knwE s q set=if yc s≠0 then ([],yc s) else if q<0\/s.n<=q then ([],2) else if set.length≠ptn s then ([],15) else (xR (ptn s) (ya s q.toNat) set,0)):=rfl;obtain⟨R,hR⟩:=Kj (knwE s q set);rw[hR] at HE ⊢;obtain⟨r,hr⟩:=Kj (yc s);unfold RetKw at HO;unfold Zp;rw[hr] at HO lO HE;obtain⟨n,hn⟩:=Kj (ptn s);rw[hn] at HO lO HE;unfold Sy.vs_ at ab d0 HO ⊢;have ag:=zH ab;have HB:=zH hB;have HD:=zH d0;clear ab d0 hB bG hR hr hS hs hf hn;go_enter func71,ntmps71;go_wp2_with fail;rw[ag.out];go_wp2_with fail;refine HO.out.mono ?_;rintro e w2 ⟨ae,eo⟩;have au:=zH ae;have tu:As (w.heap.size<=w2.heap.size):=Lu HB.out.size ae.size;have ck:=zH (Lc HB.out ae);have ff:=zH (La ae HD.out);rcases eo with ⟨h0,rfl⟩ | ⟨rfl,bw,rfl,hK⟩
 . have e0:(r != 0)=Av:=by simpa using h0
   have de:As (R=([],r)):=HE.out.trans (Lj h0);go_wp2_with fail
   go_ret2
   rw[de.out];exact⟨Z,0,rfl,fun h=>absurd h (by simp),fun _ e=>(by cases e),ck.out⟩
 obtain⟨N,hN,Oz,l8⟩:=lO.out rfl;have HE:As (R=_):=HE.out.trans (Lg (by simp));rw[hN] at HE;have q7:w2.cell? ⟨w.heap.size,7,Z⟩=J (O U (N:Int)):=by rw[<-hN];exact zh ff.out 7 rfl
 have HK:=zH hK;have U1:=hK.size;have dM:=zH hN
 by_cases sS:q<0
 . have e0:decide (q<0)=Av:=Lw sS
   have de:As (R=([],2)):=HE.out.trans (Lj (.inl sS));go_wp2_with fail
   go_ret2
   rw[de.out];exact⟨Z,0,rfl,fun h=>absurd h (by simp),fun _ e=>(by cases e),ck.out⟩
 by_cases mZ:(N:Int)<=q
 . have e1:decide (q>=(N:Int))=Av:=Lw mZ
   have de:As (R=([],2)):=HE.out.trans (Lj (.inr mZ));go_wp2_with fail
   go_ret2
   rw[de.out];exact⟨Z,0,rfl,fun h=>absurd h (by simp),fun _ e=>(by cases e),ck.out⟩
 have HE:As (R=_):=HE.out.trans (Lg (by omega))
 by_cases hl:set.length=n
 case neg=>
  have e2:((set.length:Int) != (n:Int))=Av:=by simpa using(by omega:¬(set.length:Int)=(n:Int))
  have de:As (R=([],15)):=HE.out.trans (Lj hl);go_wp2_with fail
  go_ret2
  rw[de.out];exact⟨Z,0,rfl,fun h=>absurd h (by simp),fun _ e=>(by cases e),ck.out⟩
 have de:As (R=(xR n (ya s q.toNat) set,0)):=HE.out.trans (Lg (by simpa using hl));obtain⟨k,rfl⟩:=Lp (show 0<=q by omega);rw[Lm] at de;have tt:=zH (Yn bw n s.n.toNat (ya s) (by omega) k (by rw[dM.out,Lm];omega) AB kb set hl w2 HK.out (lW.out w2 au.out));rw[hl];unfold RetB at tt;go_wp2_with fail;refine tt.out.mono ?_;rintro e w3 ⟨g3,rfl,oR,iR,ak⟩;have lP:=zH iR;have aC:=zH (Lc ck.out ak);go_wp2_with fail
 go_ret2
 rw[de.out];have hz:=tu.out;exact⟨J ⟨g3,0,Z⟩,_,rfl,lP.out.at_ lP.out.lt,fun _ e=>(by cases e;show w.heap.size<=g3;omega),aC.out⟩
end
section
open Go.RowKit
theorem Xm{N:Nat}{h:Fh}{k:Nat}(he:qI N h k=0):0<=h.op/\(k:Int)=arN h.op/\(h.op=10->0<=h.p/\h.p<=(N:Int)-1)/\(h.op=11\/h.op=12\/h.op=13->0<=h.g/\h.g<=(2:Int)^N-1):=by
 unfold qI at he
 by_cases h1:h.op<0\/17<h.op
 . rw[Lj h1] at he;cases he
 rw[Lg h1] at he
 by_cases h2:(k:Int)≠arN h.op
 . rw[Lj h2] at he;cases he
 rw[Lg h2] at he
 split at he
 . cases he
 rename_i h3;refine⟨by omega,by simpa using h2,fun e=>?_,fun e=>?_⟩
 . have hu:usP h.op=Av:=by unfold usP;rw[NH];omega
   exact Ng fun hn=>h3 (.inl ⟨hu,hn⟩)
 have hu:usG h.op=Av:=by unfold usG;rw[NH];omega
 exact Ng fun hn=>h3 (.inr (.inr (.inr ⟨hu,hn⟩)))
section
variable {n:Nat} {cls:Nat->List Int} {ps:List Nat}
theorem Xk{set:List Bool}{M:Nat}(hM:yq n (evL n cls ps) set (M+1)=yq n (evL n cls ps) set M):∀m,yq n (evL n cls ps) set (M+m)=yq n (evL n cls ps) set M
 | 0=>rfl
 | m+1=>by
  show yq n (evL n cls ps) set (M+m+1)=_;rw[yq,Xk hM m];exact hM
theorem now_up{set:List Bool}{M:Nat}(hM:yq n (evL n cls ps) set (M+1)=yq n (evL n cls ps) set M)(h:M<=n):yq n (evL n cls ps) set n=yq n (evL n cls ps) set M:=by
 have:=Xk hM (n-M);rwa[show M+(n-M)=n by omega] at this
end
theorem atm_fine{s:Sy}{K N:Nat}(hF:Fine s K N)(hv:yc s=0){out:List Int}(iT:¬(0<out.length/\out.length≠s.vs.length)){f:Fm}(dW:qI N f.h f.args.length=0)(hk:f.args.length=0):atmE s out 0 f=(jK s out f.h,0):=by
 have hn:=hF.n;have h1:=hF.n1;have h5:=hF.n5;have ha:f.args=[]:=RE.1 hk;have hN:s.n.toNat=N:=by omega
 have hE:qy s.n 0 f=0:=by
  unfold qy;rw[Lg (by omega)];have h2:uW (zR 0 f)=0:=by unfold zR;rw[ha];rfl
  rw[Lg (by rw[h2];simp),hN];unfold yW uG;rw[Lg (by rw[dW];simp),ha]
  rfl
 unfold atmE;rw[Lg (by rw[hv];simp),Lg iT,Lg (by rw[hE];simp),Lg (by omega)]
theorem ffs_all:∀ {l:List Int},YC l=0->∀x∈l,x=0
 | [],_,x,hx=>by cases hx
 | e::l,h,x,hx=>by
  unfold YC at h
  by_cases he:e≠0
  . rw[Lj he] at h;exact absurd h he
  . rw[Lg he] at h
    rcases L9.1 hx with rfl | hx
    . simpa using he
    . exact ffs_all h x hx
theorem wH{N:Nat}{R:Fm->Int}{f:Fm}(h:uG N R f=0):qI N f.h f.args.length=0/\∀x∈f.args,R x=0:=by
 unfold uG at h
 by_cases he:qI N f.h f.args.length≠0
 . rw[Lj he] at h;exact absurd h he
 rw[Lg he] at h;exact⟨by simpa using he,fun x hx=>ffs_all h _ (LS.2 ⟨x,hx,rfl⟩)⟩
end
section
open Go.RowKit Go.Shelf
attribute [local go_sem] Oper.semAt_some
section
variable (s:Sy) (AC SV AV AX:Bb) (kc ks kv kx K M n:Nat) (hk:s.p.k=(K:Int)) (hK:K<=100) (hM:s.xs.length=M) (nP:M<=100) (hn:n=M*(K+1)) (cZ:1<=n) (A:Bb) (ca:Nat) (a:List Bool) (ha:a.length=n) (w:Ba) (hA:BAt w w.heap.size A a)
include hk hK hM nP hn ha hA
theorem tnextL_any:An Al 67 #[.agg (s.vs_ AC kc SV ks AV kv AX kx),I A n ca] w (RetB (Qe n K a) w):=
 tnext_any s AC SV AV AX kc ks kv kx K M n hk hK hM nP hn A ca a ha (Qe n K a) (uH ..) (fun _ h=>nexL_at h) w hA
theorem gE(B:Bb)(cb:Nat)(b:List Bool)(hb:b.length=n)(hB:BAt w w.heap.size B b):An Al 70 #[.agg (s.vs_ AC kc SV ks AV kv AX kx),I A n ca,I B n cb] w (RetB (wh n K a b) w):=
 tuntil_any s AC SV AV AX kc ks kv kx K M n hk hK hM nP hn A ca a ha B cb b hb (wh n K a b) (jN ..) (fun k h=>unt_step (by rw[hn];exact Nat.mul_mod_left ..) h) w hA hB
include cZ
theorem QK:An Al 69 #[.agg (s.vs_ AC kc SV ks AV kv AX kx),I A n ca] w (RetB (wU n K a) w):=by
 obtain⟨w1,ab,d0,av,aV⟩:=zn w (s.vs_ AC kc SV ks AV kv AX kx) 39;obtain⟨w2,bh,d1,cM,bE⟩:=Qa w1 #[Ah Av] 4;have l8:n<=10100:=by rw[hn];exact LU nP (show K+1<=101 by omega)
 have mA:Am w1.heap.size w1 w2:=bE;rw[av] at d1;have HR:=zH (gP n (w.heap.size+1) cZ (by omega) Av w2 d1);have HU:=zH (fun (g:Nat) (X:Ba) (hX:Am w2.heap.size w2 X) (hg:BRow X g (List.replicate n Av))=>gE s AC SV AV AX kc ks kv kx K M n hk hK hM nP hn (J ⟨g,0,Z⟩) n (List.replicate n Av) (by simp) X (hg.at_ hg.lt) A ca a ha (((((hA.keep aV).more aV.size).keep mA).more mA.size).keep hX |>.more hX.size));have aS:As (∀X,Am w1.heap.size w1 X->X.heap[w.heap.size]?=J (Ag (s.vs_ AC kc SV ks AV kv AX kx) 39 (0,0))):=fun X hX=>Lb hX (by omega) d0
 have HB:=zH aV;have Hh:=zH mA;have ag:=zH ab;have oY:=zH bh;have hl:(wU n K a).length=n:=vd ..;unfold RetB at HU ⊢;rw[show wh n K (List.replicate n Av) a=wU n K a from rfl] at HU;rw[hl] at HU ⊢;obtain⟨R,hR⟩:=Kj (wU n K a);rw[hR] at HU ⊢;unfold Sy.vs_ at ag HU aS ⊢;clear ab bh d0 d1 cM aV bE mA hA hR hl hk hM hn;go_enter func69,ntmps69;go_upto_region 1 with fail
 rw[ag.out];refine zr [(0,Av),(2,Av),(3,Av),(5,Av),(1,Aw),(4,Aw),(6,Aw),(7,Aw)] (fun X=>X.heap[w.heap.size]?=J (Ag #[O U s.p.t.n,O U s.p.t.ins,O U s.p.t.outs,I AC s.p.t.cases.length kc,O U s.p.a.n,I SV s.p.a.sts.length ks,O U s.p.k,O U s.n,I AV s.vs.length kv,I AX s.xs.length kx] 39 (0,0))) (by kernel_rfl) (by kernel_rfl) (aS.out _ (Ll _ _).drew) ?_
 repeat
  apply zk rfl
  . rintro K' aa X u1
    obtain⟨x0,x1,x2,x3,x4,x5,x6,x7,x8,x9⟩:=zM (u1);clear u1;go_simp;exact aa
 refine zu rfl ?_;intro K' aa;go_simp;rw[oY.out];refine aa _ _ (aS.out _ Hh.out) ?_;clear aa K';refine zu rfl ?_;intro K' aa;go_simp;refine HR.out.mono ?_;rintro e w3 ⟨g3,rfl,oR,iR,ak⟩;have SI:=zH iR;have aC:=zH ak;have ew:=zH (Lc Hh.out ak);refine aa _ _ (aS.out _ ew.out) ?_;clear aa K' ak iR;refine zu rfl ?_;intro K' aa;go_simp;refine(HU.out g3 w3 aC.out SI.out).mono ?_;rintro e w4 ⟨g4,rfl,sk,l7,aD⟩;have rW:=zH l7;have la:=zH (Lc ew.out aD)
 have hz4:w.heap.size<=g4:=by
  have h1:=ew.out.size;omega
 refine aa _ _ (aS.out _ la.out) ?_;clear aa K' aD l7;refine zu rfl ?_;intro K' aa;go_simp;refine aa _ _ (aS.out _ la.out) ?_;refine zz ?_;clear aa K';go_wp2_with fail;go_ret;exact⟨g4,rfl,hz4,rW.out,Lc HB.out la.out⟩
theorem talw_any:An Al 68 #[.agg (s.vs_ AC kc SV ks AV kv AX kx),I A n ca] w (RetB (alwL n K a) w):=by
 obtain⟨w1,ab,d0,av,aV⟩:=zn w (s.vs_ AC kc SV ks AV kv AX kx) 39;have l8:n<=10100:=by rw[hn];exact LU nP (show K+1<=101 by omega)
 have nj:=zH (ZP A ca n (by omega) a ha w1.drew ((hA.keep aV).more aV.size));have HE:=zH (fun (g:Nat) (X:Ba) (hg:BRow X g (jH n a))=>QK s AC SV AV AX kc ks kv kx K M n hk hK hM nP hn cZ (J ⟨g,0,Z⟩) n (jH n a) (ku ..) X (hg.at_ hg.lt));have iP:=zH (fun (g:Nat) (X:Ba) (hg:BRow X g (wU n K (jH n a)))=>ZP (J ⟨g,0,Z⟩) n n (by omega) (wU n K (jH n a)) (vd ..) X (hg.at_ hg.lt));have aS:As (∀X,Am w1.heap.size w1 X->X.heap[w.heap.size]?=J (Ag (s.vs_ AC kc SV ks AV kv AX kx) 39 (0,0))):=fun X hX=>Lb hX (by omega) d0
 have HB:=zH aV;have ag:=zH ab;unfold RetB at nj HE iP ⊢;rw[ku] at nj;rw[show jH n (wU n K (jH n a))=alwL n K a from rfl] at iP;simp only[vd,YM] at HE iP ⊢;obtain⟨R1,te⟩:=Kj (jH n a);rw[te] at nj HE iP;obtain⟨R2,fd⟩:=Kj (wU n K R1);rw[fd] at HE iP;obtain⟨R,hR⟩:=Kj (alwL n K a);rw[hR] at iP ⊢;unfold Sy.vs_ at ag HE aS ⊢;clear ab d0 aV hA hR te fd hk hM hn;go_enter func68,ntmps68;go_upto_region 1 with fail
 rw[ag.out];refine zr [(0,Av),(1,Av),(2,Aw),(3,Aw),(4,Aw),(5,Aw)] (fun X=>X.heap[w.heap.size]?=J (Ag #[O U s.p.t.n,O U s.p.t.ins,O U s.p.t.outs,I AC s.p.t.cases.length kc,O U s.p.a.n,I SV s.p.a.sts.length ks,O U s.p.k,O U s.n,I AV s.vs.length kv,I AX s.xs.length kx] 39 (0,0))) (by kernel_rfl) (by kernel_rfl) (aS.out _ (Ll _ _).drew) ?_
 repeat
  apply zk rfl
  . rintro K' aa X u1
    obtain⟨x0,x1,x2,x3,x4,x5,x6,x7,x8,x9⟩:=zM (u1);clear u1;go_simp;exact aa
 refine zu rfl ?_;intro K' aa;go_simp;refine nj.out.mono ?_;rintro e w3 ⟨g3,rfl,oR,iR,ak⟩;have SI:=zH iR;have ew:As (Am w1.heap.size w1 w3):=(Ll _ w1).drew.trans ak;refine aa _ _ (aS.out _ ew.out) ?_;clear aa K' ak iR;refine zu rfl ?_;intro K' aa;go_simp;refine(HE.out g3 w3 SI.out).mono ?_;rintro e w4 ⟨g4,rfl,sk,l7,aD⟩;have rW:=zH l7;have la:=zH (Lc ew.out aD);refine aa _ _ (aS.out _ la.out) ?_;clear aa K' aD l7;refine zu rfl ?_;intro K' aa;go_simp;refine(iP.out g4 w4 rW.out).mono ?_;rintro e w5 ⟨g5,rfl,bY,cP,am⟩;have io:=zH cP
 have hz5:w.heap.size<=g5:=by
  have h1:=la.out.size;omega
 have Hg:=zH (Lc la.out am);refine aa _ _ (aS.out _ Hg.out) ?_;clear aa K' am cP;refine zu rfl ?_;intro K' aa;go_simp;refine aa _ _ (aS.out _ Hg.out) ?_;refine zz ?_;clear aa K';go_wp2_with fail;go_ret;exact⟨g5,rfl,hz5,io.out,Lc HB.out Hg.out⟩
end
section
variable {s:Sy} (hs:LowS s) (hf:yU s.p) (hv:yc s=0) {N:Nat} (ez:s.n=(N:Int)) {n:Nat} (hp:ptn s=n) (l8:n<=700) (a:List Bool) (ha:a.length=n) (AC SV AV AX A:Bb) (kc ks kv kx ca:Nat) (w:Ba) (hS:SyAt w w.heap.size AC SV AV AX s) (hA:BAt w w.heap.size A a)
include hv ez hp ha
theorem ZO{g:Int}(hg:0<=g/\g<=(2:Int)^N-1):zw s g a=0:=by
 have h2:zQ s g=0:=by
  unfold zQ;rw[Lg (by simpa using hv),Lg];rw[ez,Lm];omega
 unfold zw;rw[h2,Lg (by simp),Lg];rw[ha,hp];simp
include hs hf l8 hS hA
theorem tv_knows(q:Int)(hq:0<=q/\q<=(N:Int)-1):An Al 71 #[.agg (s.vs_ AC kc SV ks AV kv AX kx),O U q,I A n ca] w (vg n (xR n (ya s q.toNat) a) w):=by
 have hC:=Jo s hs hf q a AC SV AV AX A kc ks kv kx ca (by omega) w hS hA
 have e1:knwE s q a=(xR n (ya s q.toNat) a,0):=by
  unfold knwE;rw[Lg (by simpa using hv),Lg (by rw[ez];omega),Lg (by rw[ha,hp];simp),hp]
 rw[e1,ha] at hC;refine hC.mono ?_;rintro e w' ⟨A',c',rfl,hb,hf,hw⟩;have hz:((xR n (ya s q.toNat) a,(0:Int)).1).length=n:=xb ..;rw[hz];exact⟨A',c',rfl,hb,hf,hw⟩
theorem tv_every(g:Int)(hg:0<=g/\g<=(2:Int)^N-1):An Al 72 #[.agg (s.vs_ AC kc SV ks AV kv AX kx),O U g,I A n ca] w (vg n (evG s g a) w):=by
 have hC:=Yo s hs hf g a AC SV AV AX A kc ks kv kx ca (by omega) w hS hA
 have e1:evyE s g a=(evG s g a,0):=by
  unfold evyE;rw[Lg (by simpa using ZO hv ez hp a ha hg)]
 rw[e1,ha] at hC;refine hC.mono ?_;rintro e w' ⟨A',c',rfl,hb,hf,hw⟩;have hz:((evG s g a,(0:Int)).1).length=n:=by rw[<-hp];exact qS ..
 rw[hz];exact⟨A',c',rfl,hb,hf,hw⟩
theorem tv_dist(g:Int)(hg:0<=g/\g<=(2:Int)^N-1):An Al 73 #[.agg (s.vs_ AC kc SV ks AV kv AX kx),O U g,I A n ca] w (vg n (xR n (kI s g) a) w):=by
 have hC:=uM s hs hf g a AC SV AV AX A kc ks kv kx ca (by omega) w hS hA
 have e1:dstE s g a=(xR n (kI s g) a,0):=by
  unfold dstE;rw[Lg (by simpa using ZO hv ez hp a ha hg),hp]
 rw[e1,ha] at hC;refine hC.mono ?_;rintro e w' ⟨A',c',rfl,hb,hf,hw⟩;have hz:((xR n (kI s g) a,(0:Int)).1).length=n:=xb ..;rw[hz];exact⟨A',c',rfl,hb,hf,hw⟩
theorem tv_common(g:Int)(hg:0<=g/\g<=(2:Int)^N-1):An Al 74 #[.agg (s.vs_ AC kc SV ks AV kv AX kx),O U g,I A n ca] w fun e w'=>∃(M gr:Nat),e=Ak (.tuple #[I (J ⟨gr,0,Z⟩) n n,O U (M:Int),O U 0])/\w.heap.size<=gr/\BRow w' gr (yq n (evG s g) a n)/\Am w.heap.size w w':=by
 have hC:=Jp s hs hf g a AC SV AV AX A kc ks kv kx ca (by omega) w hS hA;have sn:=ZO hv ez hp a ha hg;rw[ha] at hC;refine hC.mono ?_;rintro e w' ⟨hw,bN⟩;rw[hp] at bN;rcases bN with ⟨hx,_⟩ | ⟨_,M,gr,rfl,hM,eZ,_,hge,hr⟩
 . exact absurd sn hx
 refine⟨M,gr,rfl,hge,?_,hw⟩
 have e1:yq n (evG s g) a n=yq n (evG s g) a M:=by
  unfold evG at eZ ⊢;rw[hp] at eZ ⊢;exact now_up eZ hM
 rw[e1];exact hr
end
end
section
open Go.RowKit
theorem tv_ops{N:Nat}{h:Fh}{k:Nat}(he:qI N h k=0)(hk:k≠0):(7<=h.op/\h.op<=17)/\(((h.op=8\/h.op=9\/h.op=17)/\k=2)\/(¬(h.op=8\/h.op=9\/h.op=17)/\k=1)):=by
 obtain⟨h0,h1,_⟩:=Xm he
 have h17:h.op<=17:=by
  unfold qI at he
  by_cases e:h.op<0\/17<h.op
  . rw[Lj e] at he;cases he
  omega
 unfold arN at h1
 by_cases e:h.op=8\/h.op=9\/h.op=17
 . rw[Lj e] at h1
   exact⟨by omega,.inl ⟨e,by omega⟩⟩
 rw[Lg e] at h1
 by_cases e2:h.op<=6
 . rw[Lj e2] at h1;omega
 rw[Lg e2] at h1;exact⟨by omega,.inr ⟨e,by omega⟩⟩
theorem tvlS_one{s:Sy}{h:Fh}{a b b':List Bool}(hr:7<=h.op/\h.op<=17)(h1:¬(h.op=8\/h.op=9\/h.op=17)):vU s h a b=vU s h a b':=by
 unfold vU evlS
 repeat' split
 all_goals first | rfl | omega
def tevE(s:Sy)(out:List Int)(d:Nat)(f:Fm):List Bool×Int:=
 if yc s≠0 then ([],yc s) else if 0<out.length/\out.length≠s.vs.length then ([],15) else if qy s.p.t.n d f≠0 then ([],qy s.p.t.n d f) else (qk s out d f,0)
end
section
open Go.RowKit Go.Shelf
attribute [local go_sem] Oper.semAt_some
theorem RetB.vo{n:Nat}{R:List Bool}{w w':Ba}{e:Ending}(h:RetB R w e w')(hl:R.length=n):∃g:Nat,e=Ak (I (J ⟨g,0,Z⟩) n n)/\BAt w' w'.heap.size (J ⟨g,0,Z⟩) R/\w.heap.size<=g/\Am w.heap.size w w':=by
 obtain⟨g,rfl,h1,h2,h3⟩:=h;rw[hl];exact⟨g,rfl,h2.at_ h2.lt,h1,h3⟩
theorem gD(s:Sy)(hs:LowS s)(hf:yU s.p)(hv:yc s=0)(K N:Nat)(hF:Fine s K N)(cZ:1<=ptn s)(l8:ptn s<=700)(out:List Int)(iT:¬(0<out.length/\out.length≠s.vs.length))(cr:Nat)(AR AC SV AV AX:Bb)(kc ks kv kx:Nat)(f:Fm)(AF:Bb)(cf:Nat)(dW:qI N f.h f.args.length=0)(RA:Fm->List Bool)(hRA:∀x,(RA x).length=ptn s)(w:Ba)(hS:SyAt w w.heap.size AC SV AV AX s)(hO:IAt w w.heap.size AR out)
  (dz:∀i (hi:i<f.args.length),∃b o A' c',AF=J ⟨b,o,Z⟩/\b<w.heap.size/\(∀j v,(f.args[i].vs A' c')[j]?=J v->w.cell? ⟨b,o+i*6+j,Z⟩=J v) /\
   ∀X,Am w.heap.size w X->An Al 38 #[.agg (s.vs_ AC kc SV ks AV kv AX kx),Ai #[I AR out.length cr],.agg (f.args[i].vs A' c')] X (vg (ptn s) (RA f.args[i]) X)) :
  An Al 38 #[.agg (s.vs_ AC kc SV ks AV kv AX kx),Ai #[I AR out.length cr],.agg (f.vs AF cf)] w (vg (ptn s) (if f.args.length=0 then jK s out f.h else vU s f.h (RA (f.args.getD 0 default)) (RA (f.args.getD 1 default))) w):=by
 obtain⟨TT,sw⟩:∃TT,(if f.args.length=0 then jK s out f.h else vU s f.h (RA (f.args.getD 0 default)) (RA (f.args.getD 1 default)))=TT:=⟨_,rfl⟩;rw[sw];have HT0:As (f.args.length=0->TT=jK s out f.h):=fun h=>by rw[<-sw,Lj h]
 have HT1:As (f.args.length≠0->TT=vU s f.h (RA (f.args.getD 0 default)) (RA (f.args.getD 1 default))):=fun h=>by rw[<-sw,Lg h]
 clear sw;obtain⟨wa,ic,da,mY,oW⟩:=zn w (s.vs_ AC kc SV ks AV kv AX kx) 39;obtain⟨wb,ld,db,mX,p'⟩:=zn wa #[I AR out.length cr] 52;obtain⟨w1,ab,dc,oM,oC⟩:=zn wb (f.vs AF cf) 32;have hB:Am w.heap.size w w1:=(oW.trans (p'.mono (by omega))).trans (oC.mono (by omega));have da:w1.heap[w.heap.size]?=J (Ag (s.vs_ AC kc SV ks AV kv AX kx) 39 (0,0)):=Lb oC (by omega) (Lb p' (by omega) da);have db:w1.heap[w.heap.size+1]?=J (Ag #[I AR out.length cr] 52 (0,0)):=by rw[<-mY];exact Lb oC (by omega) db
 have dc:w1.heap[w.heap.size+1+1]?=J (Ag (f.vs AF cf) 32 (0,0)):=by rw[<-mY,<-mX];exact dc
 have ce:w1.heap.size=w.heap.size+3:=by omega
 have fH:As (∀X,Am w1.heap.size w1 X->SyAt X X.heap.size AC SV AV AX s):=fun X hX=>(hS.up hB).up hX
 have Cb:As (∀X,Am w1.heap.size w1 X->IAt X X.heap.size AR out):=fun X hX=>(((hO.keep hB).more hB.size).keep hX).more hX.size
 have aL:As (∀i (hi:i<f.args.length),∃b o A' c',AF=J ⟨b,o,Z⟩/\(∀X,Am w1.heap.size w1 X->∀j v,(f.args[i].vs A' c')[j]?=J v->X.cell? ⟨b,o+i*6+j,Z⟩=J v)/\∀X,Am w1.heap.size w1 X->An Al 38 #[.agg (s.vs_ AC kc SV ks AV kv AX kx),Ai #[I AR out.length cr],.agg (f.args[i].vs A' c')] X (vg (ptn s) (RA f.args[i]) X)):=fun i hi=>by
  obtain⟨b,o,A',c',e,hb,h1,h2⟩:=dz i hi;exact⟨b,o,A',c',e,fun X hX j v hv=>((Lc hB hX).cell (p:=⟨b,_,Z⟩) hb).trans (h1 j v hv),fun X hX=>h2 X (Lc hB hX)⟩
 have MZ:=Xm dW;have CE:=hF.n;obtain⟨n,hn⟩:=Kj (ptn s);have Mo:n=s.xs.length*(K+1):=by rw[<-hn];unfold ptn;rw[hF.k,Lm]
 have hKN:=And.intro hF.k6 (And.intro hF.lx hF.n5);have ep:=zH hB
 have bD:As (∀X,Am w1.heap.size w1 X->X.heap[w.heap.size]?=J (Ag #[O U s.p.t.n,O U s.p.t.ins,O U s.p.t.outs,I AC s.p.t.cases.length kc,O U s.p.a.n,I SV s.p.a.sts.length ks,O U s.p.k,O U s.n,I AV s.vs.length kv,I AX s.xs.length kx] 39 (0,0))/\X.heap[w.heap.size+1]?=J (Ag #[I AR out.length cr] 52 (0,0))/\X.heap[w.heap.size+1+1]?=J (Ag #[O U f.h.op,O U f.h.p,O U f.h.o,O U f.h.v,O U f.h.g,I AF f.args.length cf] 32 (0,0))):=
  fun X hX=>⟨Lb hX (by omega) da,Lb hX (by omega) db,Lb hX (by omega) dc⟩
 have dl:As (f.args.length=0->An Al 62 #[.agg (s.vs_ AC kc SV ks AV kv AX kx),Ai #[I AR out.length cr],.agg (f.vs AF cf)] w1 (vg n (jK s out f.h) w1)):=fun hk=>by
  have hA:=atomN_any s hs hf out 0 f (by unfold zR;rw[RE.1 hk];decide) AC SV AV AX AF AR kc ks kv kx cf cr w1 (fH.out _ (Ll _ _)) (Cb.out _ (Ll _ _)) (show f.args=[] from RE.1 hk);rw[atm_fine hF hv iT dW hk] at hA;refine hA.mono ?_;rintro e w' ⟨A,c,rfl,ho,hb⟩;have hl:(jK s out f.h).length=n:=by rw[YL];exact hn
  dsimp only at ho ⊢;rw[hl] at ho ⊢;obtain⟨g,rfl,hg,aU⟩:=OwnB.of hl (by omega) ho;exact⟨_,c,rfl,aU.at_ aU.lt,fun a e=>by cases e;exact hg,hb⟩
 have TK:=zH (fun (X:Ba) (hX:Am w1.heap.size w1 X) (a:List Bool) (ha:a.length=n) (A:Bb) (ca:Nat) (hA:BAt X X.heap.size A a)=>tv_knows hs hf hv CE hn (by omega) a ha AC SV AV AX A kc ks kv kx ca X (fH.out X hX) hA);have TE:=zH (fun (X:Ba) (hX:Am w1.heap.size w1 X) (a:List Bool) (ha:a.length=n) (A:Bb) (ca:Nat) (hA:BAt X X.heap.size A a)=>tv_every hs hf hv CE hn (by omega) a ha AC SV AV AX A kc ks kv kx ca X (fH.out X hX) hA);have TD:=zH (fun (X:Ba) (hX:Am w1.heap.size w1 X) (a:List Bool) (ha:a.length=n) (A:Bb) (ca:Nat) (hA:BAt X X.heap.size A a)=>tv_dist hs hf hv CE hn (by omega) a ha AC SV AV AX A kc ks kv kx ca X (fH.out X hX) hA);have TC:=zH (fun (X:Ba) (hX:Am w1.heap.size w1 X) (a:List Bool) (ha:a.length=n) (A:Bb) (ca:Nat) (hA:BAt X X.heap.size A a)=>tv_common hs hf hv CE hn (by omega) a ha AC SV AV AX A kc ks kv kx ca X (fH.out X hX) hA);have TN:=zH (fun (X:Ba) (a:List Bool) (ha:a.length=n) (A:Bb) (ca:Nat) (hA:BAt X X.heap.size A a)=>tnextL_any s AC SV AV AX kc ks kv kx K s.xs.length n hF.k (by omega) rfl (by omega) Mo A ca a ha X hA);have TU:=zH (fun (X:Ba) (a:List Bool) (ha:a.length=n) (A:Bb) (ca:Nat) (hA:BAt X X.heap.size A a)=>gE s AC SV AV AX kc ks kv kx K s.xs.length n hF.k (by omega) rfl (by omega) Mo A ca a ha X hA)
 have TV:=zH (fun (X:Ba) (a:List Bool) (ha:a.length=n) (A:Bb) (ca:Nat) (hA:BAt X X.heap.size A a)=>QK s AC SV AV AX kc ks kv kx K s.xs.length n hF.k (by omega) rfl (by omega) Mo (by omega) A ca a ha X hA);have TW:=zH (fun (X:Ba) (a:List Bool) (ha:a.length=n) (A:Bb) (ca:Nat) (hA:BAt X X.heap.size A a)=>talw_any s AC SV AV AX kc ks kv kx K s.xs.length n hF.k (by omega) rfl (by omega) Mo (by omega) A ca a ha X hA);have TG:=zH (fun (X:Ba) (a:List Bool) (ha:a.length=n) (A:Bb) (ca:Nat) (hA:BAt X X.heap.size A a)=>ZP A ca n (by omega) a ha X hA)
 have iO:As (∀a b,vU s f.h a b=if f.h.op=14 then Qe n K a else if f.h.op=15 then alwL n K a else if f.h.op=16 then wU n K a else if f.h.op=17 then wh n K a b else if f.h.op=10 then xR n (ya s f.h.p.toNat) a else if f.h.op=11 then evG s f.h.g a else if f.h.op=12 then xR n (kI s f.h.g) a else if f.h.op=13 then yq n (evG s f.h.g) a n else if f.h.op=7 then jH n a else if f.h.op=8 then kV n a b else orL n a b):=fun a b=>by
  unfold vU evlS;rw[hn,hF.k,Lm]
 have Bu:As (∀g a,(evG s g a).length=n):=fun g a=>by rw[<-hn];exact qS ..
 have oE:As (∀x,(RA x).length=n):=fun x=>by rw[<-hn];exact hRA x
 have Re:As (f.args.length≠0->_):=fun hk=>tv_ops dW hk
 have fz:=zH MZ;have rl:As (∀a b b',7<=f.h.op/\f.h.op<=17->¬(f.h.op=8\/f.h.op=9\/f.h.op=17)->vU s f.h a b=vU s f.h a b'):=fun a b b' h1 h2=>tvlS_one h1 h2
 rw[hn];rw[hn] at cZ l8 aL;unfold vg at aL dl TK TE TD ⊢;unfold Sy.vs_ at ic aL dl TK TE TD TC TN TU TV TW ⊢;unfold Fm.vs at ab dl ⊢;have AZ:=zH ic;have AU:=zH ld;have AS:=zH ab;have ib:As (Am w1.heap.size w1 w1):=Ll _ _;obtain⟨D0,D1,D2⟩:=bD.out _ ib.out;clear ic ld ab da db dc mY mX oM oW p' oC hB hS hO dz hRA MZ hs hf hv hF iT dW hn CE Mo fH Cb;obtain⟨p0,p1,p2,p3,p4,p5,p6,p7,p8,p9⟩:=zM (D0);have r0:=zh (D1) 0 rfl;obtain⟨f0,f1,f2,f3,f4,f5,_⟩:=Ki (D2);clear D0 D1 D2;go_enter func38,ntmps38;go_upto_region 1 with fail
 rw[AZ.out,AU.out,AS.out]
 by_cases hk:f.args.length=0
 case pos=>
  have e0:((f.args.length:Int)==0)=Av:=by rw[hk];rfl
  have HC:=zH (dl.out hk);rw[hk] at HC;go_wp2_with fail;refine HC.out.mono ?_;rintro e w4 ⟨A4,c4,rfl,CC,FN,aD⟩;have mN:=zH CC;have pC:=zH FN;have fB:=zH (Lc ep.out aD);clear CC FN aD HC;go_wp2_with fail
  go_ret2
  exact⟨A4,c4,rfl,by rw[HT0.out hk];exact mN.out,fun a e=>Lu ep.out.size (pC.out a e),fB.out⟩
 have e0:((f.args.length:Int)==0)=Aw:=by rw[P6];omega
 obtain⟨AJ,oz⟩:=Re.out hk;have iF:f.args.length<=2:=by omega
 have ry:=zH (And.intro AJ oz);have Pg:As (VaIn w1.heap.size n (fun j=>RA (f.args.getD j default)) w1 w1 Z 0 0 []):=VaIn.start (Ll _ _);clear oz AJ dl Re;go_wp2_with fail
 go_loopw [8,31] (fun v8 i wr=>∃j:Nat,j<=f.args.length/\i=O U (j:Int)/\∃P c cs,v8=I P j c/\As (VaIn w1.heap.size n (fun j=>RA (f.args.getD j default)) w1 wr P j c cs)) (fun v8 i _=>f.args.length-(Ar i).toNat)
 case atStart=>exact⟨0,by omega,rfl,Z,0,[],rfl,Pg⟩
 obtain⟨j,hj,rfl,P,c,cs,rfl,hI⟩:=hrel;have hwj:IntKind.i64.wrap ((j:Int)+1)=((j+1:Nat):Int):=by rw[Lo];omega
 by_cases hlt:j<f.args.length
 . obtain⟨bf,of,A',c',rfl,rM,TX⟩:=aL.out j hlt
   obtain⟨x,hx⟩:=Kj (f.args[j]);have iI:f.args.getD j default=x:=by rw[zA hlt];exact hx
   rw[hx] at rM TX;have hrx:=oE.out x;have Ez:As ((fun j=>RA (f.args.getD j default)) j=RA x):=by rw[As];dsimp only;rw[iI]
   obtain⟨RX,Iq⟩:=Kj (RA x);rw[Iq] at TX hrx Ez;obtain⟨⟨h0,h1,h2,h3,h4⟩,xl⟩:=x;have hc:∀j' v,#[O U h0,O U h1,O U h2,O U h3,O U h4,I A' xl.length c'][j']?=J v->wr.cell? ⟨bf,of+j*6+j',Z⟩=J v:=rM wr hI.out.below;have z0:wr.cell? ⟨bf,of+j*6,Z⟩=J (O U h0):=hc 0 _ rfl;have z1:wr.cell? ⟨bf,of+j*6+1,Z⟩=J (O U h1):=hc 1 _ rfl;have z2:wr.cell? ⟨bf,of+j*6+2,Z⟩=J (O U h2):=hc 2 _ rfl;have z3:wr.cell? ⟨bf,of+j*6+3,Z⟩=J (O U h3):=hc 3 _ rfl;have z4:wr.cell? ⟨bf,of+j*6+4,Z⟩=J (O U h4):=hc 4 _ rfl;have z5:wr.cell? ⟨bf,of+j*6+5,Z⟩=J (I A' xl.length c'):=hc 5 _ rfl;have dg:(0:Int)<=(j:Int):=by omega
   have aM:(j:Int)<(f.args.length:Int):=by omega
   have bz:bf<wr.heap.size:=N4 wr _ z0;have HC:=zH TX;simp only[Fm.vs,Fm.args,Fm.h] at HC;have pj:w1.heap.size<=wr.heap.size:=hI.out.below.size;clear rM TX hx Iq hc iI p0 p1 p2 p3 p4 p5 p6 p7 p8 p9 r0 f0 f1 f2 f3 f4 f5;go_upto_region 7 with fail
   obtain⟨W5,dQ,d5,cY,am⟩:=zn wr #[O U h0,O U h1,O U h2,O U h3,O U h4,I A' xl.length c'] 32;rw[dQ];have aT:=zH (hI.out.below.trans (am.mono pj));have rV:=zH (hI.out.on pj am);have dv:=zH (HC.out W5 aT.out);obtain⟨D0,D1,D2⟩:=bD.out _ aT.out;obtain⟨p0,p1,p2,p3,p4,p5,p6,p7,p8,p9⟩:=zM (D0);have r0:=zh (D1) 0 rfl;obtain⟨y0,y1,y2,y3,y4,y5,_⟩:=Ki d5;have hs5r:wr.heap.size<=W5.heap.size:=by omega
   clear D0 D1 D2 dQ d5 am z0 z1 z2 z3 z4 z5 HC cY;go_wp2_with fail;refine dv.out.mono ?_;rintro e w6 ⟨A3,c3,rfl,rD,hf6,cB⟩;have HI6:=zH (rV.out.on (by omega) cB);have tg:=zH rD;have HF6:=zH hf6;have fD:W5.heap.size<=w6.heap.size:=cB.size;clear rD hf6 cB dv aT p0 p1 p2 p3 p4 p5 p6 p7 p8 p9 r0 y0 y1 y2 y3 y4 y5;go_upto_region 10 with fail
   obtain⟨W7,po,d7,fC,dE⟩:=zn w6 #[I A3 n c3] 58;have HI7:=zH (HI6.out.on (by omega) dE);have Bf:=zH ((tg.out.keep dE).more dE.size);have tk:=zH HI7.out.own;have hb7s:w1.heap.size<=W7.heap.size:=by omega
   have Eu:=zH po;clear po dE
   go_wp2_with (at_builtin; go_must (rw [Eu.out]; refine yE kBs_ok rfl _ _ (by rfl) w1.heap.size (I P j c) j cs (by rfl) tk.out w6.heap.size #[I A3 n c3] (by rfl) d7 rfl (by simp [Value.oneCell']) (by omega) hb7s _ rfl ?_); intro g' ap w8 Fj WI Ob My
                have HR8:=zH Fj;have HG8:=zH WI;have HAT8:=zH Ob
                clear Fj WI Ob My)
   have De:=zH (HI7.out.push (by omega) (by rw[Ez.out];exact Bf.out) (fun a e=>by
    obtain⟨b0,off0,e0,V7,_⟩:=Bf.out (by omega);have e1:=HF6.out a e;rw[e0] at e;obtain rfl:=NS e;refine⟨V7,fun e2=>?_⟩;have:=(hI.out.own.lt _ e2).2;have e1:W5.heap.size<=b0:=e1;have:b0<wr.heap.size:=this
    omega) HR8.out HG8.out HAT8.out)
   go_roundw
   case rel=>exact⟨j+1,by omega,by go_num,_,_,_,rfl,De⟩
   simp[Ar];omega
 obtain rfl:f.args.length=j:=by omega
 have aM:¬(f.args.length:Int)<(f.args.length:Int):=by omega
 obtain⟨AJ,oz⟩:=ry.out;obtain⟨A0,c0,x0,sP,_⟩:=hI.out.rows 0 (by omega);obtain⟨A1,c1,x1,iA,_⟩:=hI.out.rows (f.args.length-1) (by omega)
 try dsimp only at sP iA
 obtain⟨P',c',eV,_,_,aA⟩:=hI.out.own.form;simp only[Value.slice.injEq,true_and] at eV;obtain⟨rfl,rfl⟩:=eV;obtain⟨g,rfl,_,dC,dp⟩:=aA (by omega);have z0:=dp 0 _ x0;have z1:=dp (f.args.length-1) _ x1;obtain⟨a,ha⟩:=Kj (RA (f.args.getD 0 default));obtain⟨b,hb⟩:=Kj (RA (f.args.getD (f.args.length-1) default));have mi:As (a.length=n):=by rw[<-ha];exact oE.out _
 have pd:As (b.length=n):=by rw[<-hb];exact oE.out _
 have eG:As (TT=vU s f.h a b):=by
  rw[As,HT1.out hk,ha];rcases oz with ⟨_,h2⟩ | ⟨h1,_⟩
  . rw[<-hb,h2]
  exact rl.out _ _ _ AJ h1
 rw[ha] at sP;rw[hb] at iA;have pj:w1.heap.size<=wr.heap.size:=hI.out.below.size;have Tp:IntKind.i64.wrap ((f.args.length:Int)-1)=(f.args.length:Int)-1:=by rw[Lo];omega
 have FF:(0:Int)<(f.args.length:Int):=by omega
 have hi0n:0<f.args.length:=by omega
 have hi1n:(1:Int)<=(f.args.length:Int):=by omega
 have Wy:(0:Int)<=(f.args.length:Int)-1:=by omega
 have rK:(f.args.length:Int)-1<(f.args.length:Int):=by omega
 have hti:((f.args.length:Int)-1).toNat=f.args.length-1:=by omega
 have Ij:Am wr.heap.size wr wr.drew:=(Ll _ wr).drew;have dV:As (Am w1.heap.size w1 wr.drew):=hI.out.below.trans (Ij.mono pj);have nH:=(sP.keep Ij).more Ij.size;have Ik:=(iA.keep Ij).more Ij.size;have aS:=zH (And.intro z0 z1);have Ui:f.h.op=7\/f.h.op=8\/f.h.op=9\/f.h.op=14\/f.h.op=15\/f.h.op=16\/f.h.op=17\/f.h.op=10\/f.h.op=11\/f.h.op=12\/f.h.op=13:=by omega
 clear ha hb sP iA aA dp x0 x1 oz AJ HT0 HT1 Pg p0 p1 p2 p3 p4 p5 p6 p7 p8 p9 r0 f0 f1 f2 f3 f4 f5;go_upto_region 12 with fail
 refine zr [(0,Av),(1,Av),(2,Av),(3,Av),(4,Av),(5,Av),(6,Av),(7,Av),(8,Av),(9,Av),(10,Av)] (fun X=>X.cell? ⟨g,0,Z⟩=J (I A0 n c0)/\X.cell? ⟨g,f.args.length-1,Z⟩=J (I A1 n c1)) (by kernel_rfl) (by kernel_rfl) aS.out ?_
 repeat
  apply zk rfl
  . rintro K' aa X ⟨u1,u2⟩
    go_simp;exact aa
 refine zz ?_;obtain⟨wd,oe⟩:=Kj wr.drew;rw[oe] at dV nH Ik ⊢;obtain⟨D0,D1,D2⟩:=bD.out _ dV.out;obtain⟨p0,p1,p2,p3,p4,p5,p6,p7,p8,p9⟩:=zM (D0);have r0:=zh (D1) 0 rfl;obtain⟨f0,f1,f2,f3,f4,f5,_⟩:=Ki (D2);clear D0 D1 D2 aS z0 z1 Ij oe dC;go_upto_region 14 with fail
 rcases Ui with h | h | h | h | h | h | h | h | h | h | h
 . have e7:(f.h.op==7)=Av:=by rw[h];rfl
   have eb:As (TT=jH n a):=by rw[As,eG.out,iO.out,h];rfl
   have HC:=zH ((TG.out wd a mi.out A0 c0 nH).mono fun _ _ h=>h.vo (ku ..));clear h eG iO TK TE TD TC TN TU TV TW TG fz ry rl Bu oE aL;go_wp2_with fail;refine HC.out.mono ?_;rintro e w5 ⟨g5,rfl,cP,bY,am⟩;have dU:=zH cP;have io:=zH bY;have aT:=zH (ep.out.trans ((Lc dV.out am).mono ep.out.size));clear cP bY am HC;go_wp2_with fail
   go_ret2
   have hz:=Lu ep.out.size dV.out.size;exact⟨J ⟨g5,0,Z⟩,n,rfl,by rw[eb.out];exact dU.out,fun a e=>by cases e;exact Lu hz io.out,aT.out⟩
 . have e7:(f.h.op==7)=Aw:=by rw[h];rfl
   have e8:(f.h.op==8)=Av:=by rw[h];rfl
   have eb:As (TT=kV n a b):=by rw[As,eG.out,iO.out,h];rfl
   have HC:=zH ((tpw_any (fun x y=>x&&y) _ (NA func65 (by kernel_rfl) rfl) (fun x y X=>tand_any x y X) A0 A1 c0 c1 n (by omega) a b mi.out pd.out (kV n a b) (xr ..) (fun k hk=>by rw[ZG hk,zA (by rw[mi.out];exact hk),zA (by rw[pd.out];exact hk)]) wd nH Ik).mono fun _ _ h=>h.vo (xr ..));clear h eG iO TK TE TD TC TN TU TV TW TG fz ry rl Bu oE aL;go_wp2_with fail;refine HC.out.mono ?_;rintro e w5 ⟨g5,rfl,cP,bY,am⟩;have dU:=zH cP;have io:=zH bY;have aT:=zH (ep.out.trans ((Lc dV.out am).mono ep.out.size));clear cP bY am HC;go_wp2_with fail
   go_ret2
   have hz:=Lu ep.out.size dV.out.size;exact⟨J ⟨g5,0,Z⟩,n,rfl,by rw[eb.out];exact dU.out,fun a e=>by cases e;exact Lu hz io.out,aT.out⟩
 . have e7:(f.h.op==7)=Aw:=by rw[h];rfl
   have e8:(f.h.op==8)=Aw:=by rw[h];rfl
   have e9:(f.h.op==9)=Av:=by rw[h];rfl
   have eb:As (TT=orL n a b):=by rw[As,eG.out,iO.out,h];rfl
   have HC:=zH ((tpw_any (fun x y=>x||y) _ (NA func66 (by kernel_rfl) rfl) (fun x y X=>tor_any x y X) A0 A1 c0 c1 n (by omega) a b mi.out pd.out (orL n a b) (Zx ..) (fun k hk=>by rw[orL_at hk,zA (by rw[mi.out];exact hk),zA (by rw[pd.out];exact hk)]) wd nH Ik).mono fun _ _ h=>h.vo (Zx ..));clear h eG iO TK TE TD TC TN TU TV TW TG fz ry rl Bu oE aL;go_wp2_with fail;refine HC.out.mono ?_;rintro e w5 ⟨g5,rfl,cP,bY,am⟩;have dU:=zH cP;have io:=zH bY;have aT:=zH (ep.out.trans ((Lc dV.out am).mono ep.out.size));clear cP bY am HC;go_wp2_with fail
   go_ret2
   have hz:=Lu ep.out.size dV.out.size;exact⟨J ⟨g5,0,Z⟩,n,rfl,by rw[eb.out];exact dU.out,fun a e=>by cases e;exact Lu hz io.out,aT.out⟩
 . have e7:(f.h.op==7)=Aw:=by rw[h];rfl
   have e8:(f.h.op==8)=Aw:=by rw[h];rfl
   have e9:(f.h.op==9)=Aw:=by rw[h];rfl
   have Gl:(f.h.op==14)=Av:=by rw[h];rfl
   have eb:As (TT=Qe n K a):=by rw[As,eG.out,iO.out,h];rfl
   have HC:=zH ((TN.out wd a mi.out A0 c0 nH).mono fun _ _ h=>h.vo (uH ..));clear h eG iO TK TE TD TC TN TU TV TW TG fz ry rl Bu oE aL;go_wp2_with fail;refine HC.out.mono ?_;rintro e w5 ⟨g5,rfl,cP,bY,am⟩;have dU:=zH cP;have io:=zH bY;have aT:=zH (ep.out.trans ((Lc dV.out am).mono ep.out.size));clear cP bY am HC;go_wp2_with fail
   go_ret2
   have hz:=Lu ep.out.size dV.out.size;exact⟨J ⟨g5,0,Z⟩,n,rfl,by rw[eb.out];exact dU.out,fun a e=>by cases e;exact Lu hz io.out,aT.out⟩
 . have e7:(f.h.op==7)=Aw:=by rw[h];rfl
   have e8:(f.h.op==8)=Aw:=by rw[h];rfl
   have e9:(f.h.op==9)=Aw:=by rw[h];rfl
   have Gl:(f.h.op==14)=Aw:=by rw[h];rfl
   have Iy:(f.h.op==15)=Av:=by rw[h];rfl
   have eb:As (TT=alwL n K a):=by rw[As,eG.out,iO.out,h];rfl
   have HC:=zH ((TW.out wd a mi.out A0 c0 nH).mono fun _ _ h=>h.vo (YM ..));clear h eG iO TK TE TD TC TN TU TV TW TG fz ry rl Bu oE aL;go_wp2_with fail;refine HC.out.mono ?_;rintro e w5 ⟨g5,rfl,cP,bY,am⟩;have dU:=zH cP;have io:=zH bY;have aT:=zH (ep.out.trans ((Lc dV.out am).mono ep.out.size));clear cP bY am HC;go_wp2_with fail
   go_ret2
   have hz:=Lu ep.out.size dV.out.size;exact⟨J ⟨g5,0,Z⟩,n,rfl,by rw[eb.out];exact dU.out,fun a e=>by cases e;exact Lu hz io.out,aT.out⟩
 . have e7:(f.h.op==7)=Aw:=by rw[h];rfl
   have e8:(f.h.op==8)=Aw:=by rw[h];rfl
   have e9:(f.h.op==9)=Aw:=by rw[h];rfl
   have Gl:(f.h.op==14)=Aw:=by rw[h];rfl
   have Iy:(f.h.op==15)=Aw:=by rw[h];rfl
   have Gk:(f.h.op==16)=Av:=by rw[h];rfl
   have eb:As (TT=wU n K a):=by rw[As,eG.out,iO.out,h];rfl
   have HC:=zH ((TV.out wd a mi.out A0 c0 nH).mono fun _ _ h=>h.vo (vd ..));clear h eG iO TK TE TD TC TN TU TV TW TG fz ry rl Bu oE aL;go_wp2_with fail;refine HC.out.mono ?_;rintro e w5 ⟨g5,rfl,cP,bY,am⟩;have dU:=zH cP;have io:=zH bY;have aT:=zH (ep.out.trans ((Lc dV.out am).mono ep.out.size));clear cP bY am HC;go_wp2_with fail
   go_ret2
   have hz:=Lu ep.out.size dV.out.size;exact⟨J ⟨g5,0,Z⟩,n,rfl,by rw[eb.out];exact dU.out,fun a e=>by cases e;exact Lu hz io.out,aT.out⟩
 . have e7:(f.h.op==7)=Aw:=by rw[h];rfl
   have e8:(f.h.op==8)=Aw:=by rw[h];rfl
   have e9:(f.h.op==9)=Aw:=by rw[h];rfl
   have Gl:(f.h.op==14)=Aw:=by rw[h];rfl
   have Iy:(f.h.op==15)=Aw:=by rw[h];rfl
   have Gk:(f.h.op==16)=Aw:=by rw[h];rfl
   have Ul:(f.h.op==17)=Av:=by rw[h];rfl
   have eb:As (TT=wh n K a b):=by rw[As,eG.out,iO.out,h];rfl
   have HC:=zH ((TU.out wd a mi.out A0 c0 nH A1 c1 b pd.out Ik).mono fun _ _ h=>h.vo (jN ..));clear h eG iO TK TE TD TC TN TU TV TW TG fz ry rl Bu oE aL;go_wp2_with fail;refine HC.out.mono ?_;rintro e w5 ⟨g5,rfl,cP,bY,am⟩;have dU:=zH cP;have io:=zH bY;have aT:=zH (ep.out.trans ((Lc dV.out am).mono ep.out.size));clear cP bY am HC;go_wp2_with fail
   go_ret2
   have hz:=Lu ep.out.size dV.out.size;exact⟨J ⟨g5,0,Z⟩,n,rfl,by rw[eb.out];exact dU.out,fun a e=>by cases e;exact Lu hz io.out,aT.out⟩
 . have e7:(f.h.op==7)=Aw:=by rw[h];rfl
   have e8:(f.h.op==8)=Aw:=by rw[h];rfl
   have e9:(f.h.op==9)=Aw:=by rw[h];rfl
   have Gl:(f.h.op==14)=Aw:=by rw[h];rfl
   have Iy:(f.h.op==15)=Aw:=by rw[h];rfl
   have Gk:(f.h.op==16)=Aw:=by rw[h];rfl
   have Ul:(f.h.op==17)=Aw:=by rw[h];rfl
   have rO:(f.h.op==10)=Av:=by rw[h];rfl
   have eb:As (TT=xR n (ya s f.h.p.toNat) a):=by rw[As,eG.out,iO.out,h];rfl
   have HC:=zH (TK.out wd dV.out a mi.out A0 c0 nH f.h.p (fz.out.2.2.1 h));clear h eG iO TK TE TD TC TN TU TV TW TG fz ry rl Bu oE aL;go_wp2_with fail;refine HC.out.mono ?_;rintro e w5 ⟨A5,c5,rfl,cP,bY,am⟩;have dU:=zH cP;have io:=zH bY;have aT:=zH (ep.out.trans ((Lc dV.out am).mono ep.out.size));clear cP bY am HC;go_wp2_with fail
   go_ret2
   have hz:=Lu ep.out.size dV.out.size;exact⟨A5,c5,rfl,by rw[eb.out];exact dU.out,fun a e=>Lu hz (io.out a e),aT.out⟩
 . have e7:(f.h.op==7)=Aw:=by rw[h];rfl
   have e8:(f.h.op==8)=Aw:=by rw[h];rfl
   have e9:(f.h.op==9)=Aw:=by rw[h];rfl
   have Gl:(f.h.op==14)=Aw:=by rw[h];rfl
   have Iy:(f.h.op==15)=Aw:=by rw[h];rfl
   have Gk:(f.h.op==16)=Aw:=by rw[h];rfl
   have Ul:(f.h.op==17)=Aw:=by rw[h];rfl
   have rO:(f.h.op==10)=Aw:=by rw[h];rfl
   have Gm:(f.h.op==11)=Av:=by rw[h];rfl
   have eb:As (TT=evG s f.h.g a):=by rw[As,eG.out,iO.out,h];rfl
   have HC:=zH (TE.out wd dV.out a mi.out A0 c0 nH f.h.g (fz.out.2.2.2 (.inl h)));clear h eG iO TK TE TD TC TN TU TV TW TG fz ry rl Bu oE aL;go_wp2_with fail;refine HC.out.mono ?_;rintro e w5 ⟨A5,c5,rfl,cP,bY,am⟩;have dU:=zH cP;have io:=zH bY;have aT:=zH (ep.out.trans ((Lc dV.out am).mono ep.out.size));clear cP bY am HC;go_wp2_with fail
   go_ret2
   have hz:=Lu ep.out.size dV.out.size;exact⟨A5,c5,rfl,by rw[eb.out];exact dU.out,fun a e=>Lu hz (io.out a e),aT.out⟩
 . have e7:(f.h.op==7)=Aw:=by rw[h];rfl
   have e8:(f.h.op==8)=Aw:=by rw[h];rfl
   have e9:(f.h.op==9)=Aw:=by rw[h];rfl
   have Gl:(f.h.op==14)=Aw:=by rw[h];rfl
   have Iy:(f.h.op==15)=Aw:=by rw[h];rfl
   have Gk:(f.h.op==16)=Aw:=by rw[h];rfl
   have Ul:(f.h.op==17)=Aw:=by rw[h];rfl
   have rO:(f.h.op==10)=Aw:=by rw[h];rfl
   have Gm:(f.h.op==11)=Aw:=by rw[h];rfl
   have Ep:(f.h.op==12)=Av:=by rw[h];rfl
   have eb:As (TT=xR n (kI s f.h.g) a):=by rw[As,eG.out,iO.out,h];rfl
   have HC:=zH (TD.out wd dV.out a mi.out A0 c0 nH f.h.g (fz.out.2.2.2 (.inr (.inl h))));clear h eG iO TK TE TD TC TN TU TV TW TG fz ry rl Bu oE aL;go_wp2_with fail;refine HC.out.mono ?_;rintro e w5 ⟨A5,c5,rfl,cP,bY,am⟩;have dU:=zH cP;have io:=zH bY;have aT:=zH (ep.out.trans ((Lc dV.out am).mono ep.out.size));clear cP bY am HC;go_wp2_with fail
   go_ret2
   have hz:=Lu ep.out.size dV.out.size;exact⟨A5,c5,rfl,by rw[eb.out];exact dU.out,fun a e=>Lu hz (io.out a e),aT.out⟩
 have e7:(f.h.op==7)=Aw:=by rw[h];rfl
 have e8:(f.h.op==8)=Aw:=by rw[h];rfl
 have e9:(f.h.op==9)=Aw:=by rw[h];rfl
 have Gl:(f.h.op==14)=Aw:=by rw[h];rfl
 have Iy:(f.h.op==15)=Aw:=by rw[h];rfl
 have Gk:(f.h.op==16)=Aw:=by rw[h];rfl
 have Ul:(f.h.op==17)=Aw:=by rw[h];rfl
 have rO:(f.h.op==10)=Aw:=by rw[h];rfl
 have Gm:(f.h.op==11)=Aw:=by rw[h];rfl
 have Ep:(f.h.op==12)=Aw:=by rw[h];rfl
 have eb:As (TT=yq n (evG s f.h.g) a n):=by rw[As,eG.out,iO.out,h];rfl
 have HC:=zH (TC.out wd dV.out a mi.out A0 c0 nH f.h.g (fz.out.2.2.2 (.inr (.inr h))));clear h eG iO TK TE TD TC TN TU TV TW TG fz ry rl Bu oE aL;go_wp2_with fail;refine HC.out.mono ?_;rintro e w5 ⟨M5,g5,rfl,bY,cP,am⟩;have dU:=zH cP;have io:=zH bY;have aT:=zH (ep.out.trans ((Lc dV.out am).mono ep.out.size));clear cP bY am HC;go_wp2_with fail
 go_ret2
 have hz:=Lu ep.out.size dV.out.size;exact⟨J ⟨g5,0,Z⟩,n,rfl,by rw[eb.out];exact dU.out.at_ dU.out.lt,fun a e=>by cases e;exact Lu hz io.out,aT.out⟩
end
section
open Go.RowKit Go.Shelf
theorem ZN(s:Sy)(hs:LowS s)(hf:yU s.p)(hv:yc s=0)(K N:Nat)(hF:Fine s K N)(cZ:1<=ptn s)(l8:ptn s<=700)(out:List Int)(iT:¬(0<out.length/\out.length≠s.vs.length))(cr:Nat)(AR AC SV AV AX:Bb)(kc ks kv kx:Nat):∀(d:Nat) (f:Fm) (AF:Bb) (cf:Nat) (w:Ba),yW N d f=0->FsAt w w.heap.size d AF f.args->SyAt w w.heap.size AC SV AV AX s->IAt w w.heap.size AR out ->
  An Al 38 #[.agg (s.vs_ AC kc SV ks AV kv AX kx),Ai #[I AR out.length cr],.agg (f.vs AF cf)] w (vg (ptn s) (qk s out d f) w)
 | 0,f,AF,cf,w,dJ,hA,hS,hO=>by
  have h0:f.args.length=0:=by rw[show f.args=[] from hA];rfl
  have:=gD s hs hf hv K N hF cZ l8 out iT cr AR AC SV AV AX kc ks kv kx f AF cf (wH dJ).1 (fun _=>List.replicate (ptn s) Aw) (fun _=>LO) w hS hO (fun i hi=>by omega);rw[Lj h0] at this;exact this
 | d+1,f,AF,cf,w,dJ,hA,hS,hO=>
  gD s hs hf hv K N hF cZ l8 out iT cr AR AC SV AV AX kc ks kv kx f AF cf (wH (R:=yW N d) dJ).1 (qk s out d) (ZM s out d) w hS hO (fun i hi=>by
   obtain⟨b,o,e,hlt,hr⟩:=hA (by omega);obtain⟨A',c',h1,h2⟩:=hr i hi
   exact⟨b,o,A',c',e,hlt,h1,fun X hX=>ZN s hs hf hv K N hF cZ l8 out iT cr AR AC SV AV AX kc ks kv kx d _ A' c' X ((wH (R:=yW N d) dJ).2 _ (Lh hi)) ((h2.keep hX).more hX.size) (hS.up hX) ((hO.keep hX).more hX.size)⟩)
end
section
open Go.RowKit Go.Shelf
attribute [local go_sem] Oper.semAt_some
theorem XD{n:Int}{d:Nat}{f:Fm}(h:qy n d f=0):yW n.toNat d f=0:=by
 unfold qy at h
 split at h
 . cases h
 split at h
 . rename_i h2;exact absurd h h2
 exact h
theorem Xb(s:Sy)(hs:LowS s)(hf:yU s.p)(out:List Int)(d:Nat)(f:Fm)(aP:(zR d f).1<=1000000)(A SV AV AX AF AR:Bb)(kc ks kv kx cf cr:Nat)(w:Ba)(hS:SyAt w w.heap.size A SV AV AX s)(hO:IAt w w.heap.size AR out)(hA:FsAt w w.heap.size d AF f.args) :
  An Al 24 #[.agg (s.vs_ A kc SV ks AV kv AX kx),Ai #[I AR out.length cr],.agg (f.vs AF cf)] w (Zp (tevE s out d f) w):=by
 obtain⟨wa,ic,da,mY,oW⟩:=zn w (s.vs_ A kc SV ks AV kv AX kx) 39;obtain⟨wb,ld,db,mX,p'⟩:=zn wa #[I AR out.length cr] 52;obtain⟨w1,ab,dc,oM,oC⟩:=zn wb (f.vs AF cf) 32;have hB:Am w.heap.size w w1:=(oW.trans (p'.mono (by omega))).trans (oC.mono (by omega));have da:w1.heap[w.heap.size]?=J (Ag (s.vs_ A kc SV ks AV kv AX kx) 39 (0,0)):=Lb oC (by omega) (Lb p' (by omega) da);have db:w1.heap[w.heap.size+1]?=J (Ag #[I AR out.length cr] 52 (0,0)):=by rw[<-mY];exact Lb oC (by omega) db
 have dc:w1.heap[w.heap.size+1+1]?=J (Ag (f.vs AF cf) 32 (0,0)):=by rw[<-mY,<-mX];exact dc
 have ce:w1.heap.size=w.heap.size+3:=by omega
 have HV:=zH (vi s hs hf A SV AV AX kc ks kv kx w1 (hS.up hB));have HE:As (tevE s out d f=if yc s≠0 then ([],yc s) else if 0<out.length/\out.length≠s.vs.length then ([],15) else if qy s.p.t.n d f≠0 then ([],qy s.p.t.n d f) else (qk s out d f,0)):=rfl;have S9:As (∀X,Am w1.heap.size w1 X->FsAt X X.heap.size d AF f.args):=fun X hX=>(((hA.keep hB).more hB.size).keep hX).more hX.size
 have pB:=zH (fun (X:Ba) (hX:Am w1.heap.size w1 X)=>ug s.p.t.n d f AF cf X (S9.out X hX) aP)
 have eb:=zH (fun (h:yc s=0) (iT:¬(0<out.length/\out.length≠s.vs.length)) (hE:qy s.p.t.n d f=0)=>(by
  obtain⟨_,K,N,hF⟩:=yF hf h;have hp:=hF.n1;have hn:=hF.n
  obtain⟨f1,f2,_⟩:=xC (s:=s) (g:=0) hf (by
   unfold zQ;rw[Lg (by rw[h];simp),Lg];have:(0:Int)<2^s.n.toNat:=Int.pow_pos (by decide)
   omega)
  have hN:s.p.t.n.toNat=N:=by have:=hF.pn;omega
  have dJ:yW N d f=0:=by rw[<-hN];exact XD hE
  exact fun X hX=>ZN s hs hf h K N hF f1 f2 out iT cr AR A SV AV AX kc ks kv kx d f AF cf X dJ (S9.out X hX) ((hS.up hB).up hX) ((((hO.keep hB).more hB.size).keep hX).more hX.size):∀(X:Ba),Am w1.heap.size w1 X ->
   An Al 38 #[.agg (s.vs_ A kc SV ks AV kv AX kx),Ai #[I AR out.length cr],.agg (f.vs AF cf)] X (vg (ptn s) (qk s out d f) X)))
 have HNS:As ((qk s out d f).length=ptn s):=ZM s out d f;obtain⟨E,hE⟩:=Kj (tevE s out d f);unfold Zp;unfold vg at eb;rw[hE] at HE ⊢;obtain⟨r,hr⟩:=Kj (yc s);rw[hr] at HV HE eb;unfold Sy.vs_ at ic da HV eb ⊢;unfold Fm.vs at ab dc pB eb ⊢;have AZ:=zH ic;have AU:=zH ld;have AS:=zH ab;have HB:=zH hB
 have bD:As (∀X,Am w1.heap.size w1 X->X.heap[w.heap.size]?=J (Ag #[O U s.p.t.n,O U s.p.t.ins,O U s.p.t.outs,I A s.p.t.cases.length kc,O U s.p.a.n,I SV s.p.a.sts.length ks,O U s.p.k,O U s.n,I AV s.vs.length kv,I AX s.xs.length kx] 39 (0,0))/\X.heap[w.heap.size+1]?=J (Ag #[I AR out.length cr] 52 (0,0))/\X.heap[w.heap.size+1+1]?=J (Ag #[O U f.h.op,O U f.h.p,O U f.h.o,O U f.h.v,O U f.h.g,I AF f.args.length cf] 32 (0,0))):=
  fun X hX=>⟨Lb hX (by omega) da,Lb hX (by omega) db,Lb hX (by omega) dc⟩
 obtain⟨p0,p1,p2,p3,p4,p5,p6,p7,p8,p9⟩:=zM (da);clear ic ld ab da db dc mY mX oM oW p' oC hB hS hO hA aP hE hr hs hf;go_enter func24,ntmps24;go_upto_region 1 with fail
 rw[AZ.out,AU.out,AS.out];go_wp2_with fail;refine HV.out.mono ?_;rintro e w2 ⟨rfl,ae⟩;have G2:=zH ae
 by_cases h0:r=0
 case neg=>
  have e0:(r != 0)=Av:=by simpa using h0
  have hR:As (E=([],r)):=HE.out.trans (Lj h0);have ck:=zH (Lc HB.out G2.out);go_wp2_with fail
  go_ret2
  rw[hR.out];exact⟨Z,0,rfl,fun h=>absurd h (by simp),fun _ e=>(by cases e),ck.out⟩
 subst h0;have aj:=zH (HE.out.trans (Lg (by simp)));have SQ:=zH (eb.out rfl);obtain⟨D0,D1,D2⟩:=bD.out _ G2.out;have p8:=zh D0 8 rfl;have r0:=zh D1 0 rfl;go_upto_region 5 with fail
 by_cases dh:0<out.length/\out.length≠s.vs.length
 case pos=>
  have e0:((out.length:Int) != 0)=Av:=by simp;intro h;rw[h] at dh;simp at dh
  have e1:((out.length:Int) != (s.vs.length:Int))=Av:=by simp;omega
  have e3:¬(out.length:Int)=0:=by omega
  have e4:¬(out.length:Int)=(s.vs.length:Int):=by omega
  have e2:¬out=[]:=by rintro rfl;simp at dh
  have e5:¬out.length=s.vs.length:=by omega
  have hR:As (E=([],15)):=aj.out.trans (Lj dh);have ck:=zH (Lc HB.out G2.out);clear dh;go_wp2_with fail
  go_ret2
  rw[hR.out];exact⟨Z,0,rfl,fun h=>absurd h (by simp),fun _ e=>(by cases e),ck.out⟩
 have ax:=zH (aj.out.trans (Lg dh));have Bs:=zH (SQ.out dh)
 go_cut [28] from 19 (fun s28 wx=>s28=Ah Aw/\wx=w2)
 case first=>
  have ae:out.length=0\/out.length=s.vs.length:=by omega
  by_cases h1:out.length=0
  . have e0:((out.length:Int) != 0)=Aw:=by simp[h1]
    clear dh ae h1 pB S9 HNS bD ax Bs;go_wp2_with fail
    go_meet
    exact⟨rfl,rfl⟩
  have e0:((out.length:Int) != 0)=Av:=by simp;intro h;rw[h] at h1;simp at h1
  have e1:((out.length:Int) != (s.vs.length:Int))=Aw:=by simp;omega
  clear dh ae h1 pB S9 HNS bD ax Bs;go_wp2_with fail
  go_meet
  exact⟨rfl,rfl⟩
 case rest=>
 obtain⟨rfl,rfl⟩:=hcut;have HC:=zH (pB.out _ G2.out);obtain⟨q,hq⟩:=Kj (qy s.p.t.n d f);rw[hq] at HC ax Bs;obtain⟨D0,D1,D2⟩:=bD.out _ G2.out;have p0:=zh D0 0 rfl;obtain⟨q0,q1,q2,q3,q4,q5,_⟩:=Ki (D2);go_wp2_with fail;refine HC.out.mono ?_;rintro e w3 ⟨rfl,ak⟩;have G3:=zH (Lc G2.out ak);clear ak HC p0 q0 q1 q2 q3 q4 q5 p8 r0 D0 D1 D2
 by_cases h0:q=0
 case neg=>
  have e0:(q != 0)=Av:=by simpa using h0
  have hR:As (E=([],q)):=ax.out.trans (Lj h0);have ck:=zH (Lc HB.out G3.out);go_wp2_with fail
  go_ret2
  rw[hR.out];exact⟨Z,0,rfl,fun h=>absurd h (by simp),fun _ e=>(by cases e),ck.out⟩
 subst h0;have cK:=zH (ax.out.trans (Lg (by simp)));have HC:=zH (Bs.out rfl _ G3.out);obtain⟨D0,D1,D2⟩:=bD.out _ G3.out;obtain⟨p0,p1,p2,p3,p4,p5,p6,p7,p8,p9⟩:=zM (D0);have r0:=zh D1 0 rfl;obtain⟨q0,q1,q2,q3,q4,q5,_⟩:=Ki (D2);clear D0 D1 D2 pB S9 bD ax Bs SQ aj eb HE;go_wp2_with fail;refine HC.out.mono ?_;rintro e w4 ⟨A4,c4,rfl,l7,FN,aD⟩;have mL:=zH l7;have pC:=zH FN;have Bd:As (w.heap.size<=w3.heap.size):=Lu HB.out.size G3.out.size;have ck:=zH (HB.out.trans ((Lc G3.out aD).mono HB.out.size));clear l7 FN aD HC;go_wp2_with fail
 go_ret2
 rw[cK.out];refine⟨A4,c4,?_,mL.out,fun a e=>Lu Bd.out (pC.out a e),ck.out⟩;dsimp only;rw[HNS.out]
 rfl
end
section
open Go.RowKit Go.Shelf
attribute [local go_sem] Oper.semAt_some
theorem ZH(f:Fm)(R:Fm->Nat×Nat)(A:Bb)(c:Nat)(w:Ba)(hl:f.args.length<=1000000)(hb:(zP R f.args).1<=1000000/\(zP R f.args).2<=1000000)
  (dz:RecAt w A f.args fun cs x X=>An Al 35 #[.agg cs] X fun e w'=>e=Ak (.tuple #[O U ((R x).1:Int),O U ((R x).2:Int)])/\Am X.heap.size X w') :
  An Al 35 #[.agg (f.vs A c)] w fun e w'=>e=Ak (.tuple #[O U ((zP R f.args).1:Int),O U (((zP R f.args).2+1:Nat):Int)])/\Am w.heap.size w w':=by
 obtain⟨w1,ab,d0,av,hB⟩:=zn w (f.vs A c) 32;have aL:=zH dz;have mg:=zH (fun k=>qU R f.args k);have rR:=zH (fun k (h:k<f.args.length)=>(by rw[Ls h,qV]:zP R (f.args.take (k+1))=((zP R (f.args.take k)).1+(R f.args[k]).1,max (zP R (f.args.take k)).2 (R f.args[k]).2)));have dX:As (zP R (f.args.take f.args.length)=zP R f.args):=by rw[As,LK]
 have rq:=zH hb;unfold Fm.vs at ab d0 aL ⊢;obtain⟨l,aJ⟩:=Kj f.args;rw[aJ] at ab d0 aL mg rR dX rq hl ⊢;obtain⟨T,hT⟩:=Kj (zP R l);rw[hT] at mg dX rq ⊢;obtain⟨n,hn⟩:=Kj l.length;have HN:=zH hn;rw[hn] at ab d0 dX hl ⊢;have ag:=zH ab;have HB:=zH hB;clear ab d0 hB dz hb aJ hT hn;go_enter func35,ntmps35;go_wp2_with fail;rw[ag.out];go_wp2_with fail
 go_loopw [4,5,13] (fun a b i wr=>∃k:Nat,k<=n/\i=O U (k:Int)/\a=O U ((zP R (l.take k)).1:Int)/\b=O U ((zP R (l.take k)).2:Int)/\As (Am w1.heap.size w1 wr)) (fun _ _ i _=>n-(Ar i).toNat)
 case atStart=>exact⟨0,by omega,rfl,rfl,rfl,Ll _ _⟩
 obtain⟨k,hk,rfl,rfl,rfl,aK⟩:=hrel;obtain⟨a,ha⟩:=Kj ((zP R (l.take k)).1);obtain⟨b,hb⟩:=Kj ((zP R (l.take k)).2)
 have T0:a<=1000000/\b<=1000000:=by
  have h1:=mg.out k;have h2:=rq.out;omega
 by_cases hlt:k<n
 . have cJ:k<l.length:=by have:=HN.out;omega
   have ez:=rR.out k cJ;have sM:=mg.out (k+1);obtain⟨bb,o,A',c',eA,bj,al,aB⟩:=aL.out k cJ;subst eA;obtain⟨x,hx⟩:=Kj (l[k]);rw[hx] at al aB ez;obtain⟨Rx,C2⟩:=Kj (R x);dsimp only at aB;rw[C2] at aB ez;rw[ha,hb] at ez;have iZ:(zP R (l.take (k+1))).1=a+Rx.1:=by rw[ez]
   have oB:(zP R (l.take (k+1))).2=max b Rx.2:=by rw[ez]
   have ai:=zH iZ;have aj:=zH oB
   have fD:a+Rx.1<=1000000/\max b Rx.2<=1000000:=by
    have h2:=rq.out;omega
   obtain⟨xh,xl⟩:=x;obtain⟨h0,h1,h2,h3,h4⟩:=xh;have hc:∀j v,#[O U h0,O U h1,O U h2,O U h3,O U h4,I A' xl.length c'][j]?=J v->wr.cell? ⟨bb,o+k*6+j,Z⟩=J v:=al wr (HB.out.trans (aK.out.mono (by have:=HB.out.size;omega)));have z0:wr.cell? ⟨bb,o+k*6,Z⟩=J (O U h0):=hc 0 _ rfl;have z1:wr.cell? ⟨bb,o+k*6+1,Z⟩=J (O U h1):=hc 1 _ rfl;have z2:wr.cell? ⟨bb,o+k*6+2,Z⟩=J (O U h2):=hc 2 _ rfl;have z3:wr.cell? ⟨bb,o+k*6+3,Z⟩=J (O U h3):=hc 3 _ rfl;have z4:wr.cell? ⟨bb,o+k*6+4,Z⟩=J (O U h4):=hc 4 _ rfl;have z5:wr.cell? ⟨bb,o+k*6+5,Z⟩=J (I A' xl.length c'):=hc 5 _ rfl;have dg:(0:Int)<=(k:Int):=by omega
   have aM:(k:Int)<(n:Int):=by omega
   have HC:=zH aB;have Dl:=zH aK.out;simp only[Fm.vs,Fm.args,Fm.h] at HC;go_upto_region 5 with fail
   obtain⟨W2,dZ,d2,cM,ae⟩:=zn wr #[O U h0,O U h1,O U h2,O U h3,O U h4,I A' xl.length c'] 32;rw[dZ];have aO:=HB.out.size;have au:=zH (Lc Dl.out ae);have dv:=zH (HC.out W2 (HB.out.trans (au.out.mono aO)));obtain⟨y0,y1,y2,y3,y4,y5,_⟩:=Ki d2;obtain⟨r1,r2⟩:=Rx;dsimp only at dv ai aj fD;go_wp2_with fail;refine dv.out.mono ?_;rintro e w3 ⟨rfl,ak⟩;have aC:=zH (Lc au.out ak);have ab:IntKind.i64.wrap ((a:Int)+(r1:Int))=((a+r1:Nat):Int):=by rw[Lo];omega
   go_wp2_with fail
   go_roundw
   case rel=>exact⟨k+1,by omega,by go_num,by first | (rw[ai.out];done) | (rw[ai.out];go_num),by first | (rw[aj.out];done) | (rw[aj.out];go_num),aC⟩
   simp[Ar];omega
 obtain rfl:k=n:=by omega
 have h1:As (a=T.1):=by rw[As,<-ha,dX.out]
 have h2:As (b=T.2):=by rw[As,<-hb,dX.out]
 have mF:=zH (HB.out.trans (aK.out.mono (by have:=HB.out.size;omega)));have ab:IntKind.i64.wrap ((b:Int)+1)=((b+1:Nat):Int):=by rw[Lo];omega
 go_wp2_with fail
 go_ret2
 refine⟨?_,mF.out⟩;show Ak (.tuple #[O U ((zP R (l.take k)).1:Int),O U ((b:Int)+1)])=_;rw[<-h1.out,<-h2.out,ha];rfl
theorem Y3:∀(d:Nat) (f:Fm) (A:Bb) (c:Nat) (w:Ba),FsAt w w.heap.size d A f.args->(zR d f).1<=1000000 ->
  An Al 35 #[.agg (f.vs A c)] w fun e w'=>e=Ak (.tuple #[O U ((zR d f).1:Int),O U ((zR d f).2:Int)])/\Am w.heap.size w w'
 | 0,f,A,c,w,hA,hb=>by
  have h0:f.args=[]:=hA;exact ZH f (fun _=>(0,0)) A c w (by rw[h0];decide) (by rw[h0];decide) (RecAt.none hA)
 | d+1,f,A,c,w,hA,hb=>by
  have h1:(zP (zR d) f.args).1<=1000000:=hb;have h2:(zP (zR d) f.args).2+1<=(zP (zR d) f.args).1:=jb (d+1) f;have h3:=qW (zR d) (kd d) f.args;refine ZH f (zR d) A c w (by omega) (by omega) (RecAt.of hA fun x A' c' X hx hX=>Y3 d x A' c' X hX ?_);exact Lu (uu (zR d) hx) h1
theorem few38_any(d:Nat)(f:Fm)(A:Bb)(c:Nat)(w:Ba)(hA:FsAt w w.heap.size d A f.args) :
  An Al 33 #[.agg (f.vs A c)] w fun e w'=>∃b,e=Ak (Ah b)/\(b=Av->(zR d f).1<140)/\Am w.heap.size w w':=by
 obtain⟨w1,ab,d0,av,hB⟩:=zn w (f.vs A c) 32;have H1:=zH (QV d f A c w1 ((hA.keep hB).more hB.size));have H2:=zH (fun (hz:(zR d f).1<140) (X:Ba) (hX:Am w1.heap.size w1 X)=>light_any d f A c X ((((hA.keep hB).more hB.size).keep hX).more hX.size) (by omega));unfold uZ at H2;unfold Fm.vs at ab d0 H1 H2 ⊢;obtain⟨z,hz⟩:=Kj ((zR d f).1);rw[hz] at H1 H2 ⊢;have ag:=zH ab;have HB:=zH hB;have HD:=zH d0;obtain⟨q0,q1,q2,q3,q4,q5,_⟩:=Ki (d0);clear ab d0 hB hA hz;go_enter func33,ntmps33;go_upto_region 1 with fail
 rw[ag.out];go_wp2_with fail;refine H1.out.mono ?_;rintro e w2 ⟨rfl,ae⟩;have au:=zH (Lc HB.out ae);have ff:=La ae HD.out;obtain⟨q0,q1,q2,q3,q4,q5,_⟩:=Ki (ff)
 by_cases Hr:z<140
 . have HC:=zH (H2.out Hr w2 ae)
   rw[Lw Hr];clear ae ff;go_wp2_with fail;refine HC.out.mono ?_;rintro e w3 ⟨b3,rfl,ak⟩;have aC:=zH (Lc au.out ak);clear ak HC;go_wp2_with fail;go_ret;exact⟨b3,rfl,fun _=>Hr,aC.out⟩
 rw[Lv Hr];clear ae ff;go_wp2_with fail;go_ret;exact⟨Aw,rfl,fun h=>(by cases h),au.out⟩
section
variable {P:Program}
theorem yf{fn:Func}{p u:Tmp}{ty:TypeId}(h:fn.results=#[.cell p ty,.tmp u])(tmps:Array Au)(w:Ba)(g:Nat)(t:TypeId)(cs:Array Au)(fr:Nat×Nat)(d:TypeDesc)
  (hp:tmps.getD p undef=Aj (J ⟨g,0,Z⟩)) (hg:w.heap[g]?=J (Ag cs t fr))
  (hu:P.underlying ty=J d) (hd:(match d with | .struct _ | .array _ _=>Av | _=>Aw)=Av) (hi:(P.info? ty).map (·.size)=J cs.size) (x:Au) (hx:tmps.getD u undef=x) :
  (results fn tmps).run P w=.ok (.tuple #[.agg cs,x]) w:=by
 rw[results_cell_tmp h,hp,hx];simp[asAddr,Result.andThen,run_loadVar_row w g t ty cs fr d hg hu hd hi]
end
end
end Go.Proofs.YtkmbdfdaffmhjaaGreat
