/- Merged. -/
import Derived.Test.YtjedjoeidcbffaaGreatDoorEi
open Go.Proofs.Tryz
open Go.Value renaming int->O,slice->I,bool->Aj,agg->Ak
open Go.IntKind renaming i64->U
open Option renaming none->Z,some->J
open Go.Obj renaming cells->Ai
open Go.Ending renaming returned->Am
open Go.Proofs.Tryz renaming prog->Aq
open Go.RowKit renaming Below->Ar,intOf->Au,Hid->Aw
open Go renaming Calls->As,Value->Ax
open Bool renaming true->AA,false->AC
open List renaming pairwise_cons->Np
namespace Go.Proofs.YtjedjoeidcbffaaGreatDoor
abbrev RG:=@decide_eq_decide
set_option maxRecDepth 100000
set_option maxHeartbeats 4000000
section
open Go.RowKit
attribute [local go_sem] Oper.semAt_some
def kFm:Kd:=⟨41,39,6,64,Ak #[O U 0,O U 0,O U 0,O U 0,O U 0,I Z 0 0]⟩
theorem kFm_ok:KdOk Aq kFm:=⟨underlying39,by kernel_rfl,by rfl,by decide,by decide⟩
def flC(qs:List FmE):List Ax:=qs.flatMap FmE.cs
theorem flC_at:∀(qs:List FmE) (i:Nat) (hi:i<qs.length) (j:Nat) (v:Ax),(qs[i].cs)[j]?=J v->(flC qs)[i*6+j]?=J v
 | q::qs,0,_,j,v,h=>by
  have hj:j<q.cs.length:=(Lv.1 h).1;show(q.cs++flC qs)[0*6+j]?=J v;rw[PD,LO,LY hj];exact h
 | q::qs,i+1,hi,j,v,h=>by
  show(q.cs++flC qs)[(i+1)*6+j]?=J v;have h6:q.cs.length=6:=rfl;rw[LW (by omega),h6,show(i+1)*6+j-6=i*6+j by omega];exact flC_at qs i (by simpa using hi) j v h
theorem flC_snoc(qs:List FmE)(q:FmE):flC (qs++[q])=flC qs++q.cs:=by simp[flC]
theorem fl_own{w:Ba}{base:Nat}{A:Bb}{n c:Nat}{qs:List FmE}(h:OwnR kFm w base (I A n c) n (flC qs))(hn:qs.length=n):FlAt w w.heap.size A qs:=fun h0=>by
 obtain⟨A',c',e,_,_,hr⟩:=h.form
 cases e
 obtain⟨g,rfl,_,hg,hc⟩:=hr (by omega);exact⟨g,0,rfl,hg,fun i hi j v hv=>by rw[LO];exact hc _ _ (flC_at qs i hi j v hv)⟩
def RetFs(S B0:Nat)(w:Ba)(e:Ending)(w':Ba):Prop:=∃(qs:List FmE) (A:Bb) (c:Nat),e=Am (I A qs.length c)/\qs.length<=S/\OwnR kFm w' w.heap.size (I A qs.length c) qs.length (flC qs)/\(∀q∈qs,q.ok w' B0)/\Ar w.heap.size w w'
def RecB(B0:Nat)(w:Ba)(A:Bb)(l:List Fm)(F:Array Ax->Fm->Ba->Prop):Prop:=∀i (hi:i<l.length),∃b o A' c',A=J ⟨b,o,Z⟩/\b<B0 /\
 (∀W,Ar B0 w W->∀j v,(l[i].vs A' c')[j]?=J v->W.cell? ⟨b,o+i*6+j,Z⟩=J v)/\∀X,Ar B0 w X->B0<=X.heap.size->F (l[i].vs A' c') l[i] X
theorem RecB.of{d B0:Nat}{w:Ba}{A:Bb}{l:List Fm}{F:Array Ax->Fm->Ba->Prop}(h:FsAt w B0 (d+1) A l)
  (hF:∀(x:Fm) (A':Bb) (c':Nat) (X:Ba),x∈l->B0<=X.heap.size->FsAt X B0 d A' x.args->F (x.vs A' c') x X):RecB B0 w A l F:=fun i hi=>by
 obtain⟨b,o,e,aa,hr⟩:=h (by omega);obtain⟨A',c',h1,h2⟩:=hr i hi;exact⟨b,o,A',c',e,aa,fun W hW j v hv=>(hW.cell aa).trans (h1 j v hv),fun X hX hs=>hF _ A' c' X (Ld hi) hs (h2.keep hX)⟩
theorem RecB.none{B0:Nat}{w:Ba}{A:Bb}{l:List Fm}{F:Array Ax->Fm->Ba->Prop}(h:FsAt w B0 0 A l):RecB B0 w A l F:=fun i hi=>by
 rw[show l=[] from h] at hi;cases hi
theorem QZ(f:Fm)(R:Fm->Nat×Nat)(A:Bb)(c B0:Nat)(w:Ba)(ce:B0<=w.heap.size)(hl:f.args.length<=1000000)(hb:(zX R f.args).1<=1000000)
  (hf:FmE.ok w B0 ⟨f,A,c⟩)
  (bU:RecB B0 w A f.args fun cs x X=>As Aq 14 #[.agg cs] X (RetFs (R x).1 B0 X)) :
  As Aq 14 #[.agg (f.vs A c)] w (RetFs (zX R f.args).1 B0 w):=by
 obtain⟨w1,ab,d0,aK,hB⟩:=zk w (f.vs A c) 41;have aB:=zH bU;have iC:=zH (fun k=>kR R f.args k);have ni:=zH (fun k (h:k<f.args.length)=>(by rw[Lr h,kS]:zX R (f.args.take (k+1))=((zX R (f.args.take k)).1+(R f.args[k]).1,max (zX R (f.args.take k)).2 (R f.args[k]).2)));have eH:Aw (zX R (f.args.take f.args.length)=zX R f.args):=by rw[Aw,LC]
 have iX:=zH hb
 have tB:Aw (∀(qs:List FmE) (A2:Bb) (c2:Nat) (q:FmE) (X:Ba),qs.length<=1000000->FlAt X X.heap.size A2 qs->(∀q∈qs,q.ok X B0)->q.ok X B0->B0<=X.heap.size->As Aq 37 #[I A2 qs.length c2,Ak #[O U q.f.h.op,O U q.f.h.p,O U q.f.h.o,O U q.f.h.v,O U q.f.h.g,I q.A q.f.args.length q.c]] X (RetIx X)):=fun qs A2 c2 q X h1 h2 h3 h4 h5=>by
  obtain⟨d,h6,_⟩:=h4;exact rindexF_any qs qs.length rfl h1 A2 c2 q.f q.A q.c d X h2 (fun q hq=>(h3 q hq).more h5) (h6.more h5)
 have Md:=zH hf;have iZ:=zH ce;unfold Fm.vs at ab d0 aB ⊢;unfold RetFs at aB ⊢;unfold RetIx at tB;obtain⟨f0,f1⟩:=f;obtain⟨a0,a1,a2,a3,a4⟩:=f0;dsimp only[Fm.h,Fm.args] at ab d0 aB iC ni eH iX hl ⊢;obtain⟨l,aU⟩:=Ki f1;rw[aU] at ab d0 aB iC ni eH iX hl Md ⊢;obtain⟨T,hT⟩:=Ki ((zX R l).1);have eH:Aw ((zX R (l.take l.length)).1=T):=by rw[Aw,eH.out];exact hT
 rw[hT] at iX ⊢;have iC:Aw (∀k,(zX R (l.take k)).1<=T):=fun k=>by rw[<-hT];exact(iC.out k).1
 obtain⟨n,hn⟩:=Ki l.length;have HN:=zH hn;rw[hn] at ab d0 eH hl ⊢;have ai:=zH ab;have HB:=zH hB;have D0:Aw (∀X,Ar w1.heap.size w1 X->X.heap[w.heap.size]?=J (Ai #[O U a0,O U a1,O U a2,O U a3,O U a4,I A n c] 41 (0,0))):=fun X hX=>La hX d0
 have sX:Aw (∀X,Ar w1.heap.size w1 X->FmE.ok X B0 ⟨⟨⟨a0,a1,a2,a3,a4⟩,l⟩,A,c⟩):=fun X hX=>Md.out.keep ((Lc hB hX).mono iZ.out)
 have HLO:Aw (∀X,Ar w1.heap.size w1 X->Ar B0 w X):=fun X hX=>(Lc hB hX).mono iZ.out
 clear ab d0 hB bU hb aU hT hn hf;go_enter func14,ntmps14;go_wp2_with fail;rw[ai.out];go_wp2_with fail
 go_loopw [3,4] (fun o i wr=>∃(k:Nat) (qs:List FmE) (Ao:Bb) (co:Nat),k<=n/\i=O U (k:Int)/\o=I Ao qs.length co/\Aw (qs.length+1<=(zX R (l.take k)).1)/\Aw (OwnR kFm wr w1.heap.size (I Ao qs.length co) qs.length (flC qs))/\Aw (∀q∈qs,q.ok wr B0)/\Aw (Ar w1.heap.size w1 wr)) (fun _ i _=>n-(Au i).toNat)
 case atStart=>exact⟨0,[],Z,0,by omega,rfl,rfl,by show _<=_;simp[zX],OwnR.nil _ _ _,fun q h=>(by cases h),Ll _ _⟩
 obtain⟨k,qs,Ao,co,hk,rfl,rfl,oB,hO,CL,ay⟩:=hrel;have mO:IntKind.i64.wrap ((k:Int)+1)=((k+1:Nat):Int):=by rw[Ls];omega
 have dd:=D0.out _ ay.out;obtain⟨p0,p1,p2,p3,p4,p5,_⟩:=Kg (dd)
 by_cases aa:k<n
 . have bY:k<l.length:=by rw[HN.out];exact aa
   have eo:=ni.out k bY;have iG:=iC.out (k+1);obtain⟨bb,ob,A',c',eA,aY,ah,ak⟩:=aB.out k bY;subst eA;obtain⟨x,hx⟩:=Ki (l[k]);rw[hx] at ah ak eo;obtain⟨r1,lk⟩:=Ki ((R x).1);obtain⟨a,ha⟩:=Ki ((zX R (l.take k)).1);have tw:(zX R (l.take (k+1))).1=a+r1:=by rw[eo,<-ha,<-lk]
   rw[tw] at iG;have az:=zH tw;have HQL:Aw (qs.length+1<=a):=by rw[<-ha];exact oB.out
   have cX:=iX.out;have h6:a+r1<=1000000:=by omega
   have hC:=ak wr (HLO.out _ ay.out) (by have:=(HLO.out _ ay.out).size;have:=iZ.out;omega);simp only[lk] at hC;have hc:=ah wr (HLO.out _ ay.out);obtain⟨⟨h0,h1,h2,h3,h4⟩,xl⟩:=x;have hc:∀j v,#[O U h0,O U h1,O U h2,O U h3,O U h4,I A' xl.length c'][j]?=J v->wr.cell? ⟨bb,ob+k*6+j,Z⟩=J v:=hc;simp only[Fm.vs,Fm.args,Fm.h] at hC;have HC:=zH hC;have z0:wr.cell? ⟨bb,ob+k*6,Z⟩=J (O U h0):=hc 0 _ rfl;have z1:wr.cell? ⟨bb,ob+k*6+1,Z⟩=J (O U h1):=hc 1 _ rfl;have z2:wr.cell? ⟨bb,ob+k*6+2,Z⟩=J (O U h2):=hc 2 _ rfl;have z3:wr.cell? ⟨bb,ob+k*6+3,Z⟩=J (O U h3):=hc 3 _ rfl;have z4:wr.cell? ⟨bb,ob+k*6+4,Z⟩=J (O U h4):=hc 4 _ rfl;have z5:wr.cell? ⟨bb,ob+k*6+5,Z⟩=J (I A' xl.length c'):=hc 5 _ rfl;have dh:(0:Int)<=(k:Int):=by omega
   have aW:(k:Int)<(n:Int):=by omega
   obtain⟨wE,rfl⟩:∃x,x=wr:=⟨_,rfl⟩;go_wp2_with fail;refine HC.out.mono ?_;rintro e w3 ⟨ps,A5,c5,rfl,DD,Tj,MH,aj⟩;have hsE:=ay.out.size;have fw:=zH (hO.out.below aj (Le _));have UF:=zH (Tj.low (base':=w1.heap.size) hsE);have HQ3:Aw (∀q∈qs,q.ok w3 B0):=fun q hq=>(CL.out q hq).keep (aj.mono (by have:=(HLO.out _ ay.out).size;have:=iZ.out;omega))
   have HP3:=zH MH;have aJ:=zH (ay.out.trans (aj.mono hsE))
   have pb:Aw (∀b,(I Ao qs.length co).ownBlock=J b->(I A5 ps.length c5).ownBlock≠J b):=fun b h1 h2=>by
    have h3:=(hO.out.lt b h1).2;have h4:=(Tj.lt b h2).1;omega
   have Hg:=zH DD;obtain⟨m,hm⟩:=Ki ps.length;have HM:=zH hm;rw[hm] at UF pb Hg ⊢;have hm6:m<=1000000:=by have:=Hg.out;omega
   go_wp2_with fail
   go_loopw [3,6] (fun o i wr=>∃(j:Nat) (qs:List FmE) (Ao:Bb) (co:Nat),j<=m/\i=O U (j:Int)/\o=I Ao qs.length co/\Aw (qs.length+1<=a+j)/\Aw (OwnR kFm wr w1.heap.size (I Ao qs.length co) qs.length (flC qs))/\Aw (∀q∈qs,q.ok wr B0)/\Aw (Ar w1.heap.size w1 wr)/\Aw (OwnR kFm wr w1.heap.size (I A5 m c5) m (flC ps))/\Aw (∀q∈ps,q.ok wr B0)/\Aw (∀b,(I Ao qs.length co).ownBlock=J b->(I A5 m c5).ownBlock≠J b)) (fun _ i _=>m-(Au i).toNat)
   case atStart=>exact⟨0,qs,Ao,co,by omega,rfl,rfl,HQL,fw,HQ3,aJ,UF,HP3,pb⟩
   obtain⟨j,qs,Ao,co,hj,rfl,rfl,oB,hO,CL,ay,Tj,MH,bj⟩:=hrel;have hwj:IntKind.i64.wrap ((j:Int)+1)=((j+1:Nat):Int):=by rw[Ls];omega
   have H':=ay.out.size
   by_cases hjt:j<m
   . have CP:(0:Int)<=(j:Int):=by omega
     have rN:(j:Int)<(m:Int):=by omega
     have hjp:j<ps.length:=by rw[HM.out];exact hjt
     obtain⟨bp,op,e5,mX,tp⟩:=(fl_own Tj.out HM.out) (by omega);have tp:=tp j hjp;obtain⟨q,VQ⟩:=Ki (ps[j]);rw[VQ] at tp;have hqo:q.ok wr B0:=MH.out q (by rw[<-VQ];exact Ld hjp);have HC:=zH (tB.out qs Ao co q wr (by have:=oB.out;have:=Hg.out;omega) (fl_own hO.out rfl) CL.out hqo (by omega));have HQO:=zH hqo;obtain⟨⟨⟨h0,h1,h2,h3,h4⟩,xl⟩,A',c'⟩:=q;dsimp only[Fm.h,Fm.args] at HC;have tp:∀j' v,[O U h0,O U h1,O U h2,O U h3,O U h4,I A' xl.length c'][j']?=J v->wr.cell? ⟨bp,op+j*6+j',Z⟩=J v:=tp;subst e5;have z0:wr.cell? ⟨bp,op+j*6,Z⟩=J (O U h0):=tp 0 _ rfl;have z1:wr.cell? ⟨bp,op+j*6+1,Z⟩=J (O U h1):=tp 1 _ rfl;have z2:wr.cell? ⟨bp,op+j*6+2,Z⟩=J (O U h2):=tp 2 _ rfl;have z3:wr.cell? ⟨bp,op+j*6+3,Z⟩=J (O U h3):=tp 3 _ rfl;have z4:wr.cell? ⟨bp,op+j*6+4,Z⟩=J (O U h4):=tp 4 _ rfl;have z5:wr.cell? ⟨bp,op+j*6+5,Z⟩=J (I A' xl.length c'):=tp 5 _ rfl;go_wp2_with fail;refine HC.out.mono ?_;rintro e w4 ⟨r,rfl,aG⟩;have lg:=zH (hO.out.below aG (Le _));have HP4:=zH (Tj.out.below aG (Le _));have KV:Aw (∀q∈qs,q.ok w4 B0):=fun q hq=>(CL.out q hq).keep (aG.mono (by omega))
     have HK4:Aw (∀q∈ps,q.ok w4 B0):=fun q hq=>(MH.out q hq).keep (aG.mono (by omega))
     have HX4:=zH (HQO.out.keep (aG.mono (by omega)));have dT:=zH (ay.out.trans (aG.mono H'));have y0:=(aG.cell (p:=⟨bp,op+j*6,Z⟩) mX).trans z0;have y1:=(aG.cell (p:=⟨bp,op+j*6+1,Z⟩) mX).trans z1;have y2:=(aG.cell (p:=⟨bp,op+j*6+2,Z⟩) mX).trans z2;have y3:=(aG.cell (p:=⟨bp,op+j*6+3,Z⟩) mX).trans z3;have y4:=(aG.cell (p:=⟨bp,op+j*6+4,Z⟩) mX).trans z4;have y5:=(aG.cell (p:=⟨bp,op+j*6+5,Z⟩) mX).trans z5;have oA:=dT.out.size
     by_cases hr:r<0
     case neg=>
      have HQL4:Aw (qs.length+1<=a+(j+1)):=by have:=oB.out;show _<=_;omega
      go_wp2_with fail
      go_roundw
      case rel=>exact⟨j+1,qs,Ao,co,by omega,by go_num,rfl,HQL4,lg,KV,dT,HP4,HK4,bj⟩
      simp[Au];omega
     case pos=>
     go_upto_region 10 with fail
     obtain⟨W4,rk,d4,lL,aA⟩:=zk w4 #[O U h0,O U h1,O U h2,O U h3,O U h4,I A' xl.length c'] 41;have lE:=zH (lg.out.below aA (Le _));have HP5:=zH (HP4.out.below aA (Le _));have cj:=zH (dT.out.trans (aA.mono oA));have HQ5:Aw (∀q∈qs,q.ok W4 B0):=fun q hq=>(KV.out q hq).keep (aA.mono (by omega))
     have fX:Aw (∀q∈ps,q.ok W4 B0):=fun q hq=>(HK4.out q hq).keep (aA.mono (by omega))
     have HX5:=zH (HX4.out.keep (aA.mono (by omega)));have lY:=cj.out.size;have mp:=zH rk;have hq6:qs.length<=1000000:=by have:=oB.out;have:=Hg.out;omega
     clear rk aA lg HP4 KV HK4 HX4 dT
     go_wp2_with (at_builtin; go_must (rw [mp.out]; refine xb kFm_ok rfl _ _ (by rfl) w1.heap.size (I Ao qs.length co) qs.length (flC qs) (by rfl) lE.out w4.heap.size #[O U h0, O U h1, O U h2, O U h3, O U h4, I A' xl.length c'] (by rfl) d4 rfl (by simp [Value.oneCell']) (by omega) lY _ rfl ?_); intro g' aD w5 fO dv oX nO
                  have iM:=zH fO;have fA:=zH (cj.out.grown dv lY (fun k e=>(lE.out.lt k e).1));have pH:Aw (Ar B0 W4 w5):=(Ll B0 W4).grown dv (by have:=lY;omega) (fun k e=>by have:=(lE.out.lt k e).1;omega)
                  have El:Aw ((I (J ⟨bp,op,Z⟩) m c5).ownBlock=Z\/(I (J ⟨bp,op,Z⟩) m c5).ownBlock≠(I Ao qs.length co).ownBlock):=by
                   cases hv:(I (J ⟨bp,op,Z⟩) m c5).ownBlock with
                   | none=>exact .inl rfl
                   | some b=>exact .inr fun e=>bj.out b e.symm hv
                  have HP6:=zH (HP5.out.kept dv El.out);have fg:Aw ((I Ao qs.length co).ownBlock=J g'\/g'=W4.heap.size):=oX
                  clear fO dv oX nO El)
     have rz:Aw (OwnR kFm w5 w1.heap.size (.slice (J ⟨g',0,Z⟩) (qs++[(⟨⟨⟨h0,h1,h2,h3,h4⟩,xl⟩,A',c'⟩:FmE)]).length aD) (qs++[(⟨⟨⟨h0,h1,h2,h3,h4⟩,xl⟩,A',c'⟩:FmE)]).length (flC (qs++[⟨⟨⟨h0,h1,h2,h3,h4⟩,xl⟩,A',c'⟩]))):=by rw[flC_snoc,Lw];exact iM.out
     have HQ6:Aw (∀q∈qs++[⟨⟨⟨h0,h1,h2,h3,h4⟩,xl⟩,A',c'⟩],q.ok w5 B0):=fun q hq=>by
      rcases Nh.1 hq with hq | hq
      . exact(HQ5.out q hq).keep pH.out
      . rw[L4] at hq;subst hq;exact HX5.out.keep pH.out
     have oJ:Aw (∀q∈ps,q.ok w5 B0):=fun q hq=>(fX.out q hq).keep pH.out
     have HQL6:Aw ((qs++[(⟨⟨⟨h0,h1,h2,h3,h4⟩,xl⟩,A',c'⟩:FmE)]).length+1<=a+(j+1)):=by have:=oB.out;show _<=_;rw[Lw];simp only[List.length_cons,List.length_nil];omega
     have HNE6:Aw (∀b,(I (J ⟨g',0,Z⟩) (qs++[(⟨⟨⟨h0,h1,h2,h3,h4⟩,xl⟩,A',c'⟩:FmE)]).length aD).ownBlock=J b->(I (J ⟨bp,op,Z⟩) m c5).ownBlock≠J b):=fun b h1 h2=>by
      have e1:g'=b:=by simpa[Value.ownBlock] using h1
      subst e1;rcases fg.out with e | e
      . exact bj.out g' e h2
      . have:=(HP5.out.lt g' h2).2;omega
     have aS:(qs++[(⟨⟨⟨h0,h1,h2,h3,h4⟩,xl⟩,A',c'⟩:FmE)]).length=qs.length+1:=by simp
     have iN:=zH aS
     go_roundw
     case rel=>exact⟨j+1,_,J ⟨g',0,Z⟩,aD,by omega,by go_num,by rw[iN.out],HQL6,rz,HQ6,fA,HP6,oJ,HNE6⟩
     simp[Au];omega
   obtain rfl:j=m:=by omega
   have rN:¬(j:Int)<(j:Int):=by omega
   have HQLE:Aw (qs.length+1<=(zX R (l.take (k+1))).1):=by rw[az.out];have:=oB.out;have:=Hg.out;show _<=_;omega
   go_wp2_with fail
   go_roundw
   case rel=>exact⟨k+1,qs,Ao,co,by omega,by go_num,rfl,HQLE,hO,CL,ay⟩
   simp[Au];omega
 obtain rfl:k=n:=by omega
 have aW:¬(k:Int)<(k:Int):=by omega
 have H':=ay.out.size;have UA:Aw (qs.length+1<=T):=by have:=oB.out;rw[eH.out] at this;exact this
 have hT6:=iX.out;have hq6:qs.length<=1000000:=by have:=UA.out;omega
 have HC:=zH (tB.out qs Ao co ⟨⟨⟨a0,a1,a2,a3,a4⟩,l⟩,A,c⟩ wr hq6 (fl_own hO.out rfl) CL.out (sX.out _ ay.out) (by omega));dsimp only[Fm.h,Fm.args] at HC;rw[HN.out] at HC;go_wp2_with fail;refine HC.out.mono ?_;rintro e w4 ⟨r,rfl,aG⟩;have lg:=zH (hO.out.below aG (Le _));have KV:Aw (∀q∈qs,q.ok w4 B0):=fun q hq=>(CL.out q hq).keep (aG.mono (by omega))
 have dT:=zH (ay.out.trans (aG.mono H'));have oA:=dT.out.size
 by_cases hr:r<0
 case neg=>
  have bQ:=zH (Lc HB.out dT.out);have HOF:=zH (lg.out.low (base':=w.heap.size) HB.out.size);go_wp2_with fail;go_ret;exact⟨qs,Ao,co,rfl,by have:=UA.out;omega,HOF.out,KV.out,bQ.out⟩
 case pos=>
 have dd:=D0.out _ dT.out;obtain⟨p0,p1,p2,p3,p4,p5,_⟩:=Kg (dd);go_upto_region 12 with fail
 obtain⟨W4,rk,d4,lL,aA⟩:=zk w4 #[O U a0,O U a1,O U a2,O U a3,O U a4,I A k c] 41;have lE:=zH (lg.out.below aA (Le _));have cj:=zH (dT.out.trans (aA.mono oA));have HQ5:Aw (∀q∈qs,q.ok W4 B0):=fun q hq=>(KV.out q hq).keep (aA.mono (by omega))
 have lY:=cj.out.size;have mp:=zH rk;clear rk aA lg KV dT tB
 go_wp2_with (at_builtin; go_must (rw [mp.out]; refine xb kFm_ok rfl _ _ (by rfl) w1.heap.size (I Ao qs.length co) qs.length (flC qs) (by rfl) lE.out w4.heap.size #[O U a0, O U a1, O U a2, O U a3, O U a4, I A k c] (by rfl) d4 rfl (by simp [Value.oneCell']) (by omega) lY _ rfl ?_); intro g' aD w5 fO dv oX nO
              have iM:=zH fO;have fA:=zH (cj.out.grown dv lY (fun k e=>(lE.out.lt k e).1));have pH:Aw (Ar B0 W4 w5):=(Ll B0 W4).grown dv (by have:=lY;omega) (fun k e=>by have:=(lE.out.lt k e).1;omega)
              clear fO dv oX nO)
 have rz:Aw (OwnR kFm w5 w.heap.size (I (J ⟨g',0,Z⟩) (qs.length+1) aD) (qs.length+1) (flC (qs++[⟨⟨⟨a0,a1,a2,a3,a4⟩,l⟩,A,c⟩]))):=by
  rw[flC_snoc];have:=iM.out;rw[<-HN.out] at this;exact this.low HB.out.size
 have HQ6:Aw (∀q∈qs++[⟨⟨⟨a0,a1,a2,a3,a4⟩,l⟩,A,c⟩],q.ok w5 B0):=fun q hq=>by
  rcases Nh.1 hq with hq | hq
  . exact(HQ5.out q hq).keep pH.out
  . rw[L4] at hq;subst hq;exact sX.out _ fA.out
 have bQ:=zH (Lc HB.out fA.out);go_wp2_with fail;go_ret;have aS:(qs++[(⟨⟨⟨a0,a1,a2,a3,a4⟩,l⟩,A,c⟩:FmE)]).length=qs.length+1:=by simp
 refine⟨qs++[⟨⟨⟨a0,a1,a2,a3,a4⟩,l⟩,A,c⟩],J ⟨g',0,Z⟩,aD,?_,?_,?_,HQ6.out,bQ.out⟩
 . rw[aS];rfl
 . rw[aS];exact UA.out
 rw[aS];exact rz.out
theorem allF_any(B0:Nat):∀(d:Nat) (f:Fm) (A:Bb) (c:Nat) (w:Ba),B0<=w.heap.size->FsAt w B0 d A f.args->(yd d f).1<=1000000 ->
  As Aq 14 #[.agg (f.vs A c)] w (RetFs (yd d f).1 B0 w)
 | 0,f,A,c,w,h0,hA,hb=>by
  have e:f.args=[]:=hA;have:=QZ f (fun _=>(0,0)) A c B0 w h0 (by rw[e];decide) (by rw[e];decide) ⟨0,hA,hb⟩ (RecB.none hA);exact this
 | d+1,f,A,c,w,h0,hA,hb=>by
  have h1:(zX (yd d) f.args).1<=1000000:=hb;have h3:=qf (yd d) (qm d) f.args;exact QZ f (yd d) A c B0 w h0 (by omega) h1 ⟨d+1,hA,hb⟩ (RecB.of hA fun x A' c' X hx hs hX=>allF_any B0 d x A' c' X hs hX (wn hb hx))
theorem repis_any(op:Int)(w:Ba):As Aq 38 #[O U op] w fun e w'=>e=Am (Aj (decide (10<=op/\op<=13)))/\w'=w:=by
 by_cases h1:(10:Int)<=op
 . by_cases h2:op<=13
   . rw[Lm ⟨h1,h2⟩]
     go_enter func38,ntmps38;go_wp2_with fail;go_ret;exact⟨rfl,rfl⟩
   rw[Lj (fun h=>h2 h.2)];go_enter func38,ntmps38;go_wp2_with fail;go_ret;exact⟨rfl,rfl⟩
 rw[Lj (fun h=>h1 h.1)];go_enter func38,ntmps38;go_wp2_with fail;go_ret;exact⟨rfl,rfl⟩
theorem rtimed_any(op:Int)(w:Ba):As Aq 64 #[O U op] w fun e w'=>e=Am (Aj (decide (14<=op/\op<=17)))/\w'=w:=by
 by_cases h1:(14:Int)<=op
 . by_cases h2:op<=17
   . rw[Lm ⟨h1,h2⟩]
     go_enter func64,ntmps64;go_wp2_with fail;go_ret;exact⟨rfl,rfl⟩
   rw[Lj (fun h=>h2 h.2)];go_enter func64,ntmps64;go_wp2_with fail;go_ret;exact⟨rfl,rfl⟩
 rw[Lj (fun h=>h1 h.1)];go_enter func64,ntmps64;go_wp2_with fail;go_ret;exact⟨rfl,rfl⟩
theorem Qp(f:Fm)(R:Fm->Nat)(M:Nat)(hM:M<=1000000)(hR:∀x∈f.args,R x<=M)(A:Bb)(c:Nat)(w:Ba)(hl:f.args.length<=1000000)
  (bU:RecAt w A f.args fun cs x X=>As Aq 15 #[.agg cs] X fun e w'=>∃m:Nat,e=Am (O U (m:Int))/\m<=R x/\Ar X.heap.size X w') :
  As Aq 15 #[.agg (f.vs A c)] w fun e w'=>∃m:Nat,e=Am (O U (m:Int))/\m<=M+1/\Ar w.heap.size w w':=by
 obtain⟨w1,ab,d0,aK,hB⟩:=zk w (f.vs A c) 41;have aB:=zH bU;have HR:=zH hR;unfold Fm.vs at ab d0 aB ⊢;obtain⟨⟨a0,a1,a2,a3,a4⟩,f1⟩:=f;dsimp only[Fm.h,Fm.args] at ab d0 aB hl HR ⊢;obtain⟨l,aU⟩:=Ki f1;rw[aU] at ab d0 aB hl HR ⊢;obtain⟨n,hn⟩:=Ki l.length;have HN:=zH hn;rw[hn] at ab d0 hl
 try rw[hn]
 have ai:=zH ab;have HB:=zH hB;have D0:Aw (∀X,Ar w1.heap.size w1 X->X.heap[w.heap.size]?=J (Ai #[O U a0,O U a1,O U a2,O U a3,O U a4,I A n c] 41 (0,0))):=fun X hX=>La hX d0
 clear ab d0 hB bU aU hn;go_enter func15,ntmps15;go_wp2_with fail;rw[ai.out];go_wp2_with fail
 go_loopw [3,4] (fun o i wr=>∃k m:Nat,k<=n/\i=O U (k:Int)/\o=O U (m:Int)/\m<=M/\Aw (Ar w1.heap.size w1 wr)) (fun _ i _=>n-(Au i).toNat)
 case atStart=>exact⟨0,0,by omega,rfl,rfl,by omega,Ll _ _⟩
 obtain⟨k,m,hk,rfl,rfl,hm,ay⟩:=hrel;clear ai;have mO:IntKind.i64.wrap ((k:Int)+1)=((k+1:Nat):Int):=by rw[Ls];omega
 obtain⟨p0,p1,p2,p3,p4,p5,_⟩:=Kg (D0.out _ ay.out)
 by_cases aa:k<n
 . skip
   have bY:k<l.length:=by rw[HN.out];exact aa
   obtain⟨bb,ob,A',c',eA,aY,ah,ak⟩:=aB.out k bY;subst eA;obtain⟨x,hx⟩:=Ki (l[k]);rw[hx] at ah ak;have hC:=ak wr (Lc HB.out ay.out);have hc:=ah wr (Lc HB.out ay.out);have HX:=zH hx;obtain⟨⟨h0,h1,h2,h3,h4⟩,xl⟩:=x;have hc:∀j v,#[O U h0,O U h1,O U h2,O U h3,O U h4,I A' xl.length c'][j]?=J v->wr.cell? ⟨bb,ob+k*6+j,Z⟩=J v:=hc;simp only[Fm.vs,Fm.args,Fm.h] at hC;have HC:=zH hC;have z0:wr.cell? ⟨bb,ob+k*6,Z⟩=J (O U h0):=hc 0 _ rfl;have z1:wr.cell? ⟨bb,ob+k*6+1,Z⟩=J (O U h1):=hc 1 _ rfl;have z2:wr.cell? ⟨bb,ob+k*6+2,Z⟩=J (O U h2):=hc 2 _ rfl;have z3:wr.cell? ⟨bb,ob+k*6+3,Z⟩=J (O U h3):=hc 3 _ rfl;have z4:wr.cell? ⟨bb,ob+k*6+4,Z⟩=J (O U h4):=hc 4 _ rfl;have z5:wr.cell? ⟨bb,ob+k*6+5,Z⟩=J (I A' xl.length c'):=hc 5 _ rfl;have dh:(0:Int)<=(k:Int):=by omega
   have aW:(k:Int)<(n:Int):=by omega
   clear ah ak hC hc hx;go_wp2_with fail;refine HC.out.mono ?_;rintro e w3 ⟨r,rfl,hr,aj⟩;have hrM:r<=M:=Lz hr (by rw[<-HX.out];exact HR.out _ (Ld bY));have aJ:=zH (Lc ay.out aj);clear aj ay HC hr z0 z1 z2 z3 z4 z5
   by_cases hrm:(m:Int)<(r:Int)
   . go_wp2_with fail
     go_roundw
     case rel=>exact⟨k+1,r,by omega,by go_num,rfl,hrM,aJ⟩
     simp[Au];omega
   go_wp2_with fail
   go_roundw
   case rel=>exact⟨k+1,m,by omega,by go_num,rfl,hm,aJ⟩
   simp[Au];omega
 obtain rfl:k=n:=by omega
 have aW:¬(k:Int)<(k:Int):=by omega
 have dR:=zH (Lc HB.out ay.out);clear aB HR;go_wp2_with fail;refine(repis_any a0 wr).mono ?_;rintro e w4 ⟨rfl,fN⟩;obtain rfl:wr=w4:=fN.symm;obtain⟨b,sJ⟩:∃b,decide (10<=a0/\a0<=13)=b:=⟨_,rfl⟩;rw[sJ];have oz:IntKind.i64.wrap ((m:Int)+1)=((m+1:Nat):Int):=by rw[Ls];omega
 cases b with
 | false=>
  go_wp2_with fail;go_ret;exact⟨m,rfl,by omega,dR.out⟩
 | true=>
  go_wp2_with fail;go_ret;exact⟨m+1,by first | rfl | (push_cast;rfl),by omega,dR.out⟩
theorem siz_dep(R:Fm->Nat×Nat){l:List Fm}{x:Fm}(h:x∈l):(R x).2<=(zX R l).2:=by
 obtain⟨i,hi,rfl⟩:=LI h;have h1:=(kR R l (i+1)).2;rw[Lr hi,kS] at h1;have:(R l[i]).2<=max (zX R (l.take i)).2 (R l[i]).2:=Nat.le_max_right _ _;omega
theorem nest_any:∀(d:Nat) (f:Fm) (A:Bb) (c:Nat) (w:Ba),FsAt w w.heap.size d A f.args->(yd d f).1<=1000000 ->
  As Aq 15 #[.agg (f.vs A c)] w fun e w'=>∃m:Nat,e=Am (O U (m:Int))/\m<=(yd d f).2/\Ar w.heap.size w w'
 | 0,f,A,c,w,hA,hb=>by
  have h0:f.args=[]:=hA;exact Qp f (fun _=>0) (zX (fun _=>(0,0)) f.args).2 (by rw[h0];decide) (fun x hx=>NF _) A c w (by rw[h0];decide) (RecAt.none hA)
 | d+1,f,A,c,w,hA,hb=>by
  have h1:(zX (yd d) f.args).1<=1000000:=hb;have h2:(zX (yd d) f.args).2+1<=(zX (yd d) f.args).1:=jz (d+1) f;have h3:=qf (yd d) (qm d) f.args;exact Qp f (fun x=>(yd d x).2) (zX (yd d) f.args).2 (by omega) (fun x hx=>siz_dep _ hx) A c w (by omega) (RecAt.of hA fun x A' c' X hx hX=>nest_any d x A' c' X hX (wn hb hx))
theorem Qg(f:Fm)(R:Fm->Bool)(A:Bb)(c:Nat)(w:Ba)(hl:f.args.length<=1000000)
  (bU:RecAt w A f.args fun cs x X=>As Aq 31 #[.agg cs] X fun e w'=>e=Am (Aj (R x))/\Ar X.heap.size X w') :
  As Aq 31 #[.agg (f.vs A c)] w fun e w'=>e=Am (Aj (Q4 R f))/\Ar w.heap.size w w':=by
 obtain⟨w1,ab,d0,aK,hB⟩:=zk w (f.vs A c) 41;have aB:=zH bU;have Us:Aw (jS f.h.op=AA->Q4 R f=AA):=fun h=>by show(jS f.h.op||_)=AA;rw[h];rfl
 have Ny:Aw (jS f.h.op=AC->∀k (h:k<f.args.length),R f.args[k]=AA->Q4 R f=AA):=fun h k hk hr=>by show(jS f.h.op||f.args.any R)=AA;rw[h,RE];exact tem_any hk hr
 have Da:Aw (jS f.h.op=AC->(∀j (hj:j<f.args.length),R f.args[j]=AC)->Q4 R f=AC):=fun h hr=>by show(jS f.h.op||f.args.any R)=AC;rw[h,RE];exact JY hr
 obtain⟨V,hV⟩:=Ki (Q4 R f);rw[hV] at Us Ny Da ⊢;unfold Fm.vs at ab d0 aB ⊢;obtain⟨⟨a0,a1,a2,a3,a4⟩,f1⟩:=f;dsimp only[Fm.h,Fm.args] at ab d0 aB hl Us Ny Da ⊢;obtain⟨l,aU⟩:=Ki f1;rw[aU] at ab d0 aB hl Ny Da ⊢;obtain⟨n,hn⟩:=Ki l.length;have HN:=zH hn;rw[hn] at ab d0 hl
 try rw[hn]
 have ai:=zH ab;have HB:=zH hB;have D0:Aw (∀X,Ar w1.heap.size w1 X->X.heap[w.heap.size]?=J (Ai #[O U a0,O U a1,O U a2,O U a3,O U a4,I A n c] 41 (0,0))):=fun X hX=>La hX d0
 clear ab d0 hB bU aU hn;have tx:Aw (jS a0=decide (14<=a0/\a0<=17)):=rfl;rw[tx.out] at Us Ny Da;go_enter func31,ntmps31;go_wp2_with fail;rw[ai.out];go_wp2_with fail;refine(rtimed_any a0 w1).mono ?_;rintro e w4 ⟨rfl,fN⟩;obtain rfl:w1=w4:=fN.symm;obtain⟨b,sJ⟩:∃b,decide (14<=a0/\a0<=17)=b:=⟨_,rfl⟩;rw[sJ] at Us Ny Da ⊢
 cases b with
 | true=>
  have hV:=zH (Us.out rfl);go_wp2_with fail;go_ret;exact⟨by rw[hV.out];rfl,HB.out⟩
 | false=>
 have iB:=zH (Ny.out rfl);have sQ:=zH (Da.out rfl);go_wp2_with fail
 go_loopw [3] (fun i wr=>∃k:Nat,k<=n/\i=O U (k:Int)/\Aw (∀j (hj:j<l.length),j<k->R l[j]=AC)/\Aw (Ar w1.heap.size w1 wr)) (fun i _=>n-(Au i).toNat)
 case atStart=>exact⟨0,by omega,rfl,fun j _ h=>by omega,Ll _ _⟩
 obtain⟨k,hk,rfl,SF,ay⟩:=hrel;have mO:IntKind.i64.wrap ((k:Int)+1)=((k+1:Nat):Int):=by rw[Ls];omega
 have p4:=zh (D0.out _ ay.out) 4 rfl;have p5:=zh (D0.out _ ay.out) 5 rfl
 by_cases aa:k<n
 . skip
   have bY:k<l.length:=by rw[HN.out];exact aa
   obtain⟨bb,ob,A',c',eA,aY,ah,ak⟩:=aB.out k bY;subst eA;obtain⟨x,hx⟩:=Ki (l[k]);rw[hx] at ah ak;have hC:=ak wr (Lc HB.out ay.out);have hc:=ah wr (Lc HB.out ay.out);have HX:=zH hx;obtain⟨⟨h0,h1,h2,h3,h4⟩,xl⟩:=x;have hc:∀j v,#[O U h0,O U h1,O U h2,O U h3,O U h4,I A' xl.length c'][j]?=J v->wr.cell? ⟨bb,ob+k*6+j,Z⟩=J v:=hc;simp only[Fm.vs,Fm.args,Fm.h] at hC;have HC:=zH hC;have z0:wr.cell? ⟨bb,ob+k*6,Z⟩=J (O U h0):=hc 0 _ rfl;have z1:wr.cell? ⟨bb,ob+k*6+1,Z⟩=J (O U h1):=hc 1 _ rfl;have z2:wr.cell? ⟨bb,ob+k*6+2,Z⟩=J (O U h2):=hc 2 _ rfl;have z3:wr.cell? ⟨bb,ob+k*6+3,Z⟩=J (O U h3):=hc 3 _ rfl;have z4:wr.cell? ⟨bb,ob+k*6+4,Z⟩=J (O U h4):=hc 4 _ rfl;have z5:wr.cell? ⟨bb,ob+k*6+5,Z⟩=J (I A' xl.length c'):=hc 5 _ rfl;have dh:(0:Int)<=(k:Int):=by omega
   have aW:(k:Int)<(n:Int):=by omega
   obtain⟨rv,Ey⟩:=Ki (R l[k]);have Ej:=zH Ey;rw[hx] at Ey;rw[Ey] at HC;clear ah ak hC hc hx Ey;go_wp2_with fail;refine HC.out.mono ?_;rintro e w3 ⟨rfl,aj⟩;have aJ:=zH (Lc ay.out aj)
   cases rv with
   | true=>
    have hV:=zH (iB.out k bY Ej.out);have dR:=zH (Lc HB.out aJ.out);clear aB iB sQ SF HX Ej;go_wp2_with fail;go_ret;exact⟨by rw[hV.out];rfl,dR.out⟩
   | false=>
    have HFA:Aw (∀j (hj:j<l.length),j<k+1->R l[j]=AC):=fun j hj h=>by
     by_cases e:j=k
     . subst e;exact Ej.out
     . exact SF.out j hj (by omega)
    clear SF HX Ej;go_wp2_with fail
    go_roundw
    case rel=>exact⟨k+1,by omega,by go_num,HFA,aJ⟩
    case measure=>simp[Au];omega
 obtain rfl:k=n:=by omega
 have aW:¬(k:Int)<(k:Int):=by omega
 have dR:=zH (Lc HB.out ay.out);have hV:=zH (sQ.out fun j hj=>SF.out j hj (by have:=HN.out;omega));clear aB iB sQ SF;go_wp2_with fail;go_ret;exact⟨by rw[hV.out];rfl,dR.out⟩
theorem J9:∀(d:Nat) (f:Fm) (A:Bb) (c:Nat) (w:Ba),FsAt w w.heap.size d A f.args->(yd d f).1<=1000000 ->
  As Aq 31 #[.agg (f.vs A c)] w fun e w'=>e=Am (Aj (uE d f))/\Ar w.heap.size w w'
 | 0,f,A,c,w,hA,hb=>by
  have h0:f.args=[]:=hA;exact Qg f (fun _=>AC) A c w (by rw[h0];decide) (RecAt.none hA)
 | d+1,f,A,c,w,hA,hb=>by
  have h1:(zX (yd d) f.args).1<=1000000:=hb;have h3:=qf (yd d) (qm d) f.args;exact Qg f (uE d) A c w (by omega) (RecAt.of hA fun x A' c' X hx hX=>J9 d x A' c' X hX (wn hb hx))
theorem light_any(d:Nat)(f:Fm)(A:Bb)(c:Nat)(w:Ba)(hA:FsAt w w.heap.size d A f.args)(hb:(yd d f).1<=1000000):As Aq 7 #[.agg (f.vs A c)] w (wY w):=by
 obtain⟨w1,ab,d0,aK,hB⟩:=zk w (f.vs A c) 41;have H1:=zH (allF_any w1.heap.size d f A c w1 (Le _) ((hA.keep hB).more hB.size) hb);have H2:=zH (fun (X:Ba) (hX:Ar w1.heap.size w1 X)=>nest_any d f A c X ((((hA.keep hB).more hB.size).keep hX).more hX.size) hb);unfold Fm.vs at ab d0 H1 H2 ⊢;unfold RetFs at H1;obtain⟨⟨a0,a1,a2,a3,a4⟩,f1⟩:=f;dsimp only[Fm.h,Fm.args] at ab d0 H1 H2 ⊢;obtain⟨n,hn⟩:=Ki f1.length;rw[hn] at ab d0 H1 H2 ⊢;have ai:=zH ab;have HB:=zH hB;have D0:Aw (∀X,Ar w1.heap.size w1 X->X.heap[w.heap.size]?=J (Ai #[O U a0,O U a1,O U a2,O U a3,O U a4,I A n c] 41 (0,0))):=fun X hX=>La hX d0
 have HRT:Aw (∀(b:Bool) (X:Ba),Ar w1.heap.size w1 X->wY w (Am (Aj b)) X):=fun b X hX=>⟨b,rfl,Lc HB.out hX⟩
 clear ab d0 hB hn hb hA;go_enter func7,ntmps7;go_wp2_with fail;rw[ai.out];go_wp2_with fail;refine H1.out.mono ?_;rintro e w2 ⟨qs,A2,c2,rfl,_,_,_,ag⟩;have aw:=zH ag
 by_cases hq:(qs.length:Int)<=14
 . have HC:=zH (H2.out w2 aw.out)
   obtain⟨p0,p1,p2,p3,p4,p5,_⟩:=Kg (D0.out _ aw.out);clear H2;go_wp2_with fail;refine HC.out.mono ?_;rintro e w3 ⟨m,rfl,_,aj⟩;have aJ:=zH (Lc aw.out aj)
   by_cases hm:(m:Int)<=5
   . go_wp2_with fail
     go_ret;exact HRT.out AA _ aJ.out
   have fC:decide ((m:Int)<=5)=AC:=Lj hm;go_wp2_with fail;go_ret;exact HRT.out AC _ aJ.out
 clear H2;go_wp2_with fail;go_ret;exact HRT.out AC _ aw.out
end
section
open Go.RowKit
def xU(n:Nat)(R:List Bool)(w:Ba)(e:Ending)(w':Ba):Prop:=∃A c,e=Am (I A n c)/\BAt w' w'.heap.size A R/\Ar w.heap.size w w'
theorem RetB.st{n:Nat}{R:List Bool}{w w':Ba}{e:Ending}(hl:R.length=n)(h:RetB R w e w'):xU n R w e w':=by
 obtain⟨g,rfl,_,hr,hb⟩:=h;rw[hl];exact⟨_,_,rfl,hr.at_ hr.lt,hb⟩
theorem Jp(A:Bb)(c n:Nat)(hn:n<=700)(a:List Bool)(ha:a.length=n)(w:Ba)(hA:BAt w w.heap.size A a):As Aq 66 #[I A n c] w (xU n (ja n a) w):=
 (YA A c n (by omega) a ha w hA).mono fun _ _ h=>h.st (qa ..)
theorem and_ok(A B:Bb)(c d n:Nat)(hn:n<=700)(a b:List Bool)(ha:a.length=n)(hb:b.length=n)(w:Ba)(hA:BAt w w.heap.size A a)(hB:BAt w w.heap.size B b):As Aq 67 #[I A n c,I B n d] w (xU n (kj n a b) w):=
 (uK A B c d n (by omega) a b ha hb w hA hB).mono fun _ _ h=>h.st (yP ..)
end
section
open Go.RowKit Go.Shelf
attribute [local go_sem] Oper.semAt_some
theorem rcut_any(A B:Bb)(cap aD:Nat)(am:List K2)(hl:am.length<=100000)(w:Ba)(hA:IAt w w.heap.size A (am.map (·.a)))(nd:IAt w w.heap.size B (am.map (·.b))) :
  As Aq 120 #[I A am.length cap,I B am.length aD] w (Xz (yE am) w):=by
 have HA:=zH hA;have HA':=zH nd;have lk1:(am.map (·.a)).length=am.length:=by simp
 have lk2:(am.map (·.b)).length=am.length:=by simp
 have LK:=zH (And.intro lk1 lk2);go_enter func120,ntmps120;go_wp2_with fail
 go_loopw [5,6,7] (fun o nx i wr=>∃k:Nat,k<=am.length/\i=O U (k:Int)/\nx=O U (((yC (am.take k)).length:Nat):Int)/\Aw (Own wr w.heap.size o (yE (am.take k)))/\Aw (Ar w.heap.size w wr)) (fun _ _ i _=>am.length-(Au i).toNat)
 case atStart=>exact⟨0,by omega,rfl,rfl,Own.nil _ _,Ll _ _⟩
 obtain⟨k,hk,rfl,rfl,HO,hb⟩:=hrel;obtain⟨Ao,co,rfl,_,_,M7⟩:=HO.out.form;have aU:(yE (am.take k)).length=k:=by rw[yv];simp;omega
 rw[aU] at HO ⊢
 by_cases aa:k<am.length
 . have so:(yC (am.take k)).length<=100000:=by have:=X3 (am.take k);simp at this;omega
   obtain⟨b,off,eA,aL,z0⟩:=(HA.out.keep hb.out).at_ k (by rw[LK.out.1];exact aa);subst eA;obtain⟨b',eh,eA',hbl',Oj⟩:=(HA'.out.keep hb.out).at_ k (by rw[LK.out.2];exact aa);subst eA';rw[LS] at z0 Oj;obtain⟨y,hy⟩:=Ki (am[k]);rw[hy] at z0 Oj;obtain⟨ya,yb⟩:=y;dsimp only at z0 Oj;have HI:=zH (HA.out.keep hb.out);have HI':=zH (HA'.out.keep hb.out);have UM:=zH M7;have HKY:=zH hy;have bY:(k:Int)<(am.length:Int):=by omega
   have eo:=qZ (am.take k) (⟨ya,yb⟩:K2);have fF:=qt (am.take k) (⟨ya,yb⟩:K2);have iG:am.take k++[⟨ya,yb⟩]=am.take (k+1):=by rw[Lr aa,hy]
   rw[iG] at eo fF;have ni:=zH eo;have Ur:=zH fF;have aQ:b<wr.heap.size:=by have:=hb.out.size;omega
   have rh:b'<wr.heap.size:=by have:=hb.out.size;omega
   obtain⟨NX,pE⟩:=Ki ((yC (am.take k)).length);rw[pE] at so ⊢;have pL:=zH pE;obtain⟨wo,Oy⟩:∃wo,wo=wr:=⟨_,rfl⟩;rw[<-Oy] at HO hb HI HI' UM z0 Oj aQ rh ⊢;clear M7 eo fF iG aU pE Oy;have hk00:(0:Int)<=(k:Int):=by omega
   go_wp2_with fail
   go_loopw [8,9] (fun lb j wq=>∃m q:Nat,m<=k/\j=O U (m:Int)/\Aw (wq=wo.drewN q)/\((lb=O U (-1)/\Aw (∀i,i<m->am.getD i ⟨0,0⟩≠⟨ya,yb⟩))\/∃x:Nat,lb=O U (x:Int)/\Aw ((⟨ya,yb⟩:K2)∈am.take k/\x=(yC (am.take k)).idxOf ⟨ya,yb⟩/\x<=100000))) (fun _ j _=>k-(Au j).toNat)
   case atStart=>exact⟨0,0,by omega,rfl,rfl,.inl ⟨rfl,fun i hi=>absurd hi (by omega)⟩⟩
   obtain⟨m,q,hm,rfl,hw,oE⟩:=hrel;rcases oE with ⟨rfl,eM⟩ | ⟨x,rfl,hx⟩
   . by_cases eq:m<k
     . obtain⟨b1,On,TF,SS,z1⟩:=HI.out.at_ m (by rw[LK.out.1];omega)
       cases TF
       obtain⟨b1,On,TF,SS,z1'⟩:=HI'.out.at_ m (by rw[LK.out.2];omega)
       cases TF
       rw[LS] at z1 z1';obtain⟨b2,off2,TE,iT,z2⟩:=UM.out.at_ m (by rw[yv];simp;omega);subst TE;have nz:Aw (∀p,wr.cell? p=wo.cell? p):=fun p=>by rw[hw.out];rfl
       have u0:=(nz.out _).trans z0;have u1:=(nz.out _).trans z1;have u0':=(nz.out _).trans Oj;have u1':=(nz.out _).trans z1';have u2:=(nz.out _).trans z2;obtain⟨t,ht⟩:=Ki (am[m]'(by omega));rw[ht] at u1 u1';obtain⟨ta,tb⟩:=t;dsimp only at u1 u1'
       have Ip:(yE (am.take k))[m]'(by rw[yv];simp;omega)=(((yC (am.take k)).idxOf ⟨ta,tb⟩:Nat):Int):=by
        rw[jY _ m (by simp;omega)];rw[Ph,ht]
       rw[Ip] at u2;have lO:(0:Int)<=(m:Int):=by omega
       have po:(m:Int)<(k:Int):=by omega
       have fC:(m:Int)<(am.length:Int):=by omega
       have hgm:am.getD m ⟨0,0⟩=⟨ta,tb⟩:=by rw[zt (by omega)];exact ht
       have HGM:=zH hgm
       have htm:(⟨ta,tb⟩:K2)∈am.take k:=by
        rw[<-ht];exact N4.2 ⟨m,by omega,rfl⟩
       have tx:=zH htm;obtain⟨ix,DM⟩:=Ki ((yC (am.take k)).idxOf ⟨ta,tb⟩);rw[DM] at u2;have tB:=zH DM
       by_cases H8:(⟨ta,tb⟩:K2)=⟨ya,yb⟩
       . have e1:ta=ya:=congrArg K2.a H8
         have e2:tb=yb:=congrArg K2.b H8;subst e1 e2
         have hxx:Aw ((⟨ta,tb⟩:K2)∈am.take k/\ix=(yC (am.take k)).idxOf ⟨ta,tb⟩/\ix<=100000):=⟨tx.out,tB.out.symm,by
          have h1:=Pm (yp.2 tx.out);rw[tB.out] at h1;have h2:=pL.out
          omega⟩
         go_upto_region 10 with fail
         refine zw [(0,AA),(1,AA),(2,AA),(3,AA),(4,AA),(5,AA),(6,AA),(7,AA),(8,AA),(9,AA),(10,AA),(11,AA),(12,AA),(13,AA),(14,AA),(15,AA),(16,AA),(17,AA),(18,AA),(19,AA)] (fun X=>X=wr.drew) (by kernel_rfl) (by kernel_rfl) rfl ?_
         repeat
          apply zA rfl
          . rintro K' ac X rfl
            go_simp;exact ac
         refine zO ?_;go_wp2_with fail
         go_roundw
         case rel=>exact⟨m+1,q+1,by omega,by go_num,by rw[Aw,hw.out];rfl,.inr ⟨ix,rfl,hxx⟩⟩
         simp[Au];omega
       have oR : Aw (∀ i, i < m + 1 -> am.getD i ⟨0, 0⟩ ≠ ⟨ya, yb⟩) := fun i hi => by
        by_cases e:i=m
        . subst e;rw[HGM.out];exact H8
        . exact eM.out i (by omega)
       by_cases ea:ta=ya
       . have eb:¬tb=yb:=fun e=>H8 (by rw[ea,e])
         subst ea;go_upto_region 10 with fail
         refine zw [(0,AA),(1,AA),(2,AA),(3,AA),(4,AA),(5,AA),(6,AA),(7,AA),(8,AA),(9,AA),(10,AA),(11,AA),(12,AA),(13,AA),(14,AA),(15,AA),(16,AA),(17,AA),(18,AA),(19,AA)] (fun X=>X=wr.drew) (by kernel_rfl) (by kernel_rfl) rfl ?_
         repeat
          apply zA rfl
          . rintro K' ac X rfl
            go_simp;exact ac
         refine zO ?_;go_wp2_with fail
         go_roundw
         case rel=>exact⟨m+1,q+1,by omega,by go_num,by rw[Aw,hw.out];rfl,.inl ⟨rfl,oR⟩⟩
         simp[Au];omega
       have ea2:decide (ta=ya)=AC:=Lj ea;go_upto_region 10 with fail
       refine zw [(0,AA),(1,AA),(2,AA),(3,AA),(4,AA),(5,AA),(6,AA),(7,AA),(8,AA),(9,AA),(10,AA),(11,AA),(12,AA),(13,AA),(14,AA),(15,AA),(16,AA),(17,AA),(18,AA),(19,AA)] (fun X=>X=wr.drew) (by kernel_rfl) (by kernel_rfl) rfl ?_
       repeat
        apply zA rfl
        . rintro K' ac X rfl
          go_simp;exact ac
       refine zO ?_;go_wp2_with fail
       go_roundw
       case rel=>exact⟨m+1,q+1,by omega,by go_num,by rw[Aw,hw.out];rfl,.inl ⟨rfl,oR⟩⟩
       simp[Au];omega
     obtain rfl:m=k:=by omega
     have O5:(⟨ya,yb⟩:K2)∉am.take m:=fun dm=>by
      obtain⟨i,hi,e⟩:=N4.1 dm;exact eM.out i (by omega) (by rw[zt (by omega)];exact e)
     have dS:Aw (yE (am.take (m+1))=yE (am.take m)++[(NX:Int)]):=by rw[Aw,ni.out,Lg O5,pL.out]
     have iB:Aw ((yC (am.take (m+1))).length=NX+1):=by
      rw[Aw,Ur.out];unfold qi;rw[Lg (fun e=>O5 (yp.1 e)),Lw,pL.out];rfl
     have DY:Aw (Own wr w.heap.size (I Ao m co) (yE (am.take m))):=by rw[hw.out];exact HO.out.drewN q
     have aA:Aw (Ar w.heap.size w wr):=by rw[hw.out];exact zP hb.out q
     have nP:(yE (am.take m)).length<=100000:=by rw[yv];simp;omega
     go_wp2_with (at_builtin;go_must (refine xd rfl _ _ rfl w.heap.size (I Ao m co) _ (NX:Int) rfl DY.out rfl (by omega) aA.out.size ?_);intro v' w5 aI fD aq)
     go_roundw
     case rel=>exact⟨m+1,by omega,by go_num,by rw[iB.out];go_num,by rw[dS.out];exact aI,aA.out.trans aq⟩
     simp[Au];omega
   have dS:Aw (yE (am.take (k+1))=yE (am.take k)++[(x:Int)]):=by rw[Aw,ni.out,Li hx.out.1,hx.out.2.1]
   have iB:Aw ((yC (am.take (k+1))).length=NX):=by
    rw[Aw,Ur.out];unfold qi;rw[Li (yp.2 hx.out.1),pL.out]
   have DY:Aw (Own wr w.heap.size (I Ao k co) (yE (am.take k))):=by rw[hw.out];exact HO.out.drewN q
   have aA:Aw (Ar w.heap.size w wr):=by rw[hw.out];exact zP hb.out q
   have nP:(yE (am.take k)).length<=100000:=by rw[yv];simp;omega
   have oK:¬(x:Int)<0:=by omega
   by_cases eq:m<k
   . have po:(m:Int)<(k:Int):=by omega
     go_wp2_with (at_builtin;go_must (refine xd rfl _ _ rfl w.heap.size (I Ao k co) _ (x:Int) rfl DY.out rfl (by omega) aA.out.size ?_);intro v' w5 aI fD aq)
     go_roundw
     case rel=>exact⟨k+1,by omega,by go_num,by rw[iB.out],by rw[dS.out];exact aI,aA.out.trans aq⟩
     simp[Au];omega
   have po:¬(m:Int)<(k:Int):=by omega
   go_wp2_with (at_builtin;go_must (refine xd rfl _ _ rfl w.heap.size (I Ao k co) _ (x:Int) rfl DY.out rfl (by omega) aA.out.size ?_);intro v' w5 aI fD aq)
   go_roundw
   case rel=>exact⟨k+1,by omega,by go_num,by rw[iB.out],by rw[dS.out];exact aI,aA.out.trans aq⟩
   simp[Au];omega
 obtain rfl:k=am.length:=by omega
 have tu:=HO.out;rw[LC] at tu;have HO9:=zH tu;go_wp2_with fail;go_ret;refine⟨Ao,co,by rw[yv];rfl,?_,hb.out⟩;rw[yv];exact HO9.out
theorem zip_a{a b:List Int}(h:a.length=b.length):(List.zipWith K2.mk a b).map (·.a)=a/\(List.zipWith K2.mk a b).map (·.b)=b:=by
 constructor
 . refine NZ (by simp[h]) fun i h1 h2=>by simp
 refine NZ (by simp[h]) fun i h1 h2=>by simp
theorem own_block{w:Ba}{g base n:Nat}{xs:List Int}(h:w.heap[g]?=J (Ai ((xs.map (O U)).toArray) 3 (0,0)))(hb:base<=g)(hn:xs.length=n)(hm:n<=maxLen):Own w base (I (J ⟨g,0,Z⟩) n n) xs:=by
 have h4:=OwnR.of_block (K:=kIn) (base:=base) (n:=n) h hb (by simp[hn];exact(NW n).symm) hm;unfold OwnR at h4;show Own w _ _ _;unfold Own;rw[hn];rw[show((xs.map (O U)).toArray).toList=xs.map (O U) by simp] at h4;exact h4
theorem rall_any(s:Sy)(K N:Nat)(hF:Fine s K N)(G:Nat)(hG:G<2^N)(A SV AV AX:Bb)(kc ks kv kx:Nat)(w:Ba)(hX:XAt w w.heap.size AX s.xs) :
  As Aq 70 #[.agg (s.vs_ A kc SV ks AV kv AX kx),O U (G:Int)] w (Xz (tgP s G N) w):=by
 obtain⟨w1,ab,d0,aK,hB⟩:=zk w (s.vs_ A kc SV ks AV kv AX kx) 35;have iD:=zH (fun (X:Ba)=>gi s K N hF A SV AV AX kc ks kv kx X);have iF:=zH (fun (q:Nat) (hq:q<N) (X:Ba) (hX:XAt X X.heap.size AX s.xs)=>rown_any s K N hF q hq A SV AV AX kc ks kv kx X hX)
 have mQ:ptn s<=700:=by
  have hk:=hF.k;have oF:=hF.k6;have:=LU hF.lx (show s.p.k.toNat+1<=7 by omega);unfold ptn;omega
 have fl:=hF.n5;have Il:=hF.n
 have hT32:2^N<=32:=by
  have:=L6 (n:=2) (by omega) fl;omega
 have eZ:G<32:=by omega
 have HHA:=zH (fun (p:Nat) (hp:p<N) (X:Ba)=>jZ G p eZ (by omega) X);have iN:=zH (fun q=>jL s q);have Cg:=zH (fun q=>ZY s G q);have WX:=zH (tgP_zero s G);have HTN:=zH (fun (q:Nat) (h:G.testBit q=AC)=>tgP_not (s:=s) h);have HTH:=zH (fun (q:Nat) (hq:q<5) (h:G.testBit q=AA)=>tgP_hit (s:=s) h hq);obtain⟨n,hn⟩:=Ki (ptn s);obtain⟨Dj,AZ⟩:=Ki (yB s);obtain⟨TG,hTG⟩:=Ki (tgP s G);rw[AZ] at iF iN HTH;rw[hTG] at Cg WX HTN HTH ⊢;rw[hn] at iD iN Cg WX mQ
 have HCT:=zH (fun (A B:Bb) (ca cb q:Nat) (X:Ba) (hA:IAt X X.heap.size A (TG q)) (hB:IAt X X.heap.size B (Dj q))=>(by
  have hz:=zip_a ((Cg.out q).trans (iN.out q).symm);have hl:(List.zipWith K2.mk (TG q) (Dj q)).length=n:=by rw[List.length_zipWith,Cg.out,iN.out,Nat.min_self]
  have:=rcut_any A B ca cb (List.zipWith K2.mk (TG q) (Dj q)) (by omega) X (by rw[hz.1];exact hA) (by rw[hz.2];exact hB);rw[hl] at this
  exact this:As Aq 120 #[I A n ca,I B n cb] X (Xz (yE (List.zipWith K2.mk (TG q) (Dj q))) X)))
 have HX:=zH (hX.keep hB);unfold Sy.vs_ at ab d0 iD iF ⊢;have ai:=zH ab;have HB:=zH hB;have HD:=zH d0;have HN:=zH Il;clear ab d0 hB hF hX hn AZ hTG Il hG hT32;go_enter func70,ntmps70;go_wp2_with fail;rw[ai.out];go_wp2_with fail;refine(iD.out w1).mono ?_;rintro e w2 ⟨rfl,ag⟩;have eq:=gJ n (by omega);have aw:=zH ag;clear ag ai iD;go_upto_region 2 with fail
 obtain⟨w3,dV,d3,eK,aj⟩:=zk w2 ((List.replicate n 0).map (O U)).toArray 3;rw[show(w2.alloc (Ai (Array.replicate n (O U 0)) 3))=w3 from(by rw[show Array.replicate n (O U 0)=((List.replicate n 0).map (O U)).toArray by simp];exact dV)];have B3:=zH (Lc aw.out aj);have Hi:Aw (Own w3 w1.heap.size (I (J ⟨w2.heap.size,0,Z⟩) n n) (TG 0)):=by rw[WX.out];exact own_block d3 aw.out.size (by simp) (by show n<=maxLen;unfold maxLen;omega)
 clear dV d3 eK aj aw eq WX;go_wp2_with fail
 go_loopw [5,6] (fun o i wr=>∃(p:Nat) (Ap:Bb) (cp:Nat),p<=N/\i=O U (p:Int)/\o=I Ap n cp/\Aw (Own wr w1.heap.size (I Ap n cp) (TG p))/\Aw (Ar w1.heap.size w1 wr)) (fun _ i _=>N-(Au i).toNat)
 case atStart=>exact⟨0,_,_,by omega,rfl,rfl,Hi,B3⟩
 obtain⟨p,Ap,cp,hp,rfl,rfl,Y',mX⟩:=hrel;clear Hi B3;have hszp:=mX.out.size;have dd:=La mX.out HD.out;obtain⟨p0,p1,p2,p3,p4,p5,p6,p7,p8,p9⟩:=zN (dd);clear dd
 by_cases DH:p<N
 . have hpn1:(p:Int)<s.n:=by have:=HN.out;omega
   by_cases dt:G.testBit p=AA
   . have HC:=HHA.out p DH wr
     rw[dt] at HC;have HC:=zH HC;have HE:=zH (HTH.out p (by omega) dt);have cI:=zH (iF.out p DH wr ((HX.out.keep (mX.out.mono (by omega))).more (by omega)));clear dt;go_wp2_with fail;refine HC.out.mono ?_;rintro e w4 ⟨rfl,fN⟩;obtain rfl:=fN;clear HC;go_wp2_with fail;refine cI.out.mono ?_;rintro e w5 ⟨A4,c4,rfl,sw,aG⟩;have pT:=aG.size;rw[iN.out] at sw ⊢
     have Cv:Aw (IAt w5 w5.heap.size A4 (Dj p)):=by
      obtain⟨A',c',e',_,_,tv⟩:=sw.form;simp only[Value.slice.injEq] at e';obtain⟨Kn,-,-⟩:=e';subst Kn;exact tv
     have UE:=zH (Y'.out.below aG (Le _))
     have HIp:Aw (IAt w5 w5.heap.size Ap (TG p)):=by
      obtain⟨A',c',e',_,_,tv⟩:=UE.out.form;simp only[Value.slice.injEq] at e';obtain⟨Kn,-,-⟩:=e';subst Kn;exact tv
     have dT:=zH (mX.out.trans (aG.mono hszp));have pO:=HCT.out Ap A4 cp c4 p w5 HIp.out Cv.out;rw[HE.out] at pO;have pO:=zH pO;clear sw aG cI Cv HIp Y' UE;go_wp2_with fail;refine pO.out.mono ?_;rintro e w6 ⟨A5,c5,rfl,lN,aA⟩;rw[Cg.out] at lN ⊢;have lE:=zH (lN.low (by have:=dT.out.size;omega:w1.heap.size<=w5.heap.size));have cj:=zH (Lc dT.out aA);clear lN aA pO;go_wp2_with fail
     go_roundw
     case rel=>exact⟨p+1,A5,c5,by omega,by go_num,rfl,lE,cj⟩
     simp[Au];omega
   have AJ:G.testBit p=AC:=by simpa using dt
   have hc:=HHA.out p DH wr;rw[AJ] at hc;have HC:=zH hc;have HE:=zH (HTN.out p AJ);clear hc dt AJ;go_wp2_with fail;refine HC.out.mono ?_;rintro e w4 ⟨rfl,fN⟩;obtain rfl:=fN;clear HC;go_wp2_with fail
   go_roundw
   case rel=>exact⟨p+1,Ap,cp,by omega,by go_num,rfl,by rw[HE.out];exact Y',mX⟩
   simp[Au];omega
 obtain rfl:N=p:=by omega
 have Il:¬(N:Int)<s.n:=by have:=HN.out;omega
 go_wp2_with fail;go_ret;refine⟨Ap,cp,by rw[Cg.out];rfl,?_,HB.out.trans (mX.out.mono (by omega))⟩;rw[Cg.out];exact Y'.out.low (by omega)
theorem vo(s:Sy)(K N:Nat)(hF:Fine s K N)(G:Nat)(hG:G<32)(set:List Bool)(f':set.length=ptn s)(A SV AV AX AB:Bb)(kc ks kv kx kb:Nat)(w:Ba)(hS:SyAt w w.heap.size A SV AV AX s)(ce:BAt w w.heap.size AB set) :
  As Aq 68 #[.agg (s.vs_ A kc SV ks AV kv AX kx),O U (G:Int),I AB (ptn s) kb] w (RetB (evL (ptn s) (yB s) (zS G N) set) w):=by
 obtain⟨w1,ab,d0,aK,hB⟩:=zk w (s.vs_ A kc SV ks AV kv AX kx) 35
 have mQ:ptn s<=700:=by
  have hk:=hF.k;have oF:=hF.k6;have:=LU hF.lx (show s.p.k.toNat+1<=7 by omega);unfold ptn;omega
 have fl:=hF.n5;have DW:=hF.n;have aP:∀q,(yB s q).length=ptn s:=fun q=>jL s q
 have iF:=zH (fun (q:Nat) (hq:q<N) (X:Ba) (hX:Ar w1.heap.size w1 X)=>rown_any s K N hF q hq A SV AV AX kc ks kv kx X ((hS.up hB).up hX).fx);have aV:Aw (∀X,Ar w1.heap.size w1 X->BAt X X.heap.size AB set):=fun X hX=>(((ce.keep hB).more hB.size).keep hX).more hX.size
 obtain⟨cls,sG⟩:=Ki (yB s);obtain⟨n,hn⟩:=Ki (ptn s);rw[sG] at iF aP ⊢;rw[hn] at aP mQ f' ⊢;have pf:=zH (fun (q:Nat) (A:Bb) (c:Nat) (X:Ba) (hX:Ar w1.heap.size w1 X) (hI:IAt X X.heap.size A (cls q))=>YC A AB c kb n (by omega) (cls q) set (aP q) f' X hI (aV.out X hX));have Mm:=zH (fun (g g':Nat) (a b:List Bool) (ha:a.length=n) (hb:b.length=n) (X:Ba) (r1:BRow X g a) (r2:BRow X g' b)=>uK (J ⟨g,0,Z⟩) (J ⟨g',0,Z⟩) n n n (by omega) a b ha hb X (r1.at_ r1.lt) (r2.at_ r2.lt));have ph:=zH (fun (X:Ba)=>YG n (by omega) X);unfold RetB at pf Mm ph ⊢;simp only[yO,yP,List.length_replicate,xR] at pf Mm ph ⊢;unfold Xz at iF;simp only[aP] at iF;unfold Sy.vs_ at ab d0 iF ⊢;rw[DW] at ab d0 iF ⊢;have ai:=zH ab;have HB:=zH hB;have bK:=zH d0;have UT:Aw (∀X,Ar w1.heap.size w1 X->X.heap[w.heap.size]?=w1.heap[w.heap.size]?):=fun X hX=>hX.block _ (zj d0)
 clear ab d0 hB hS ce hF aP sG hn DW;go_enter func68,ntmps68;go_wp2_with fail;rw[ai.out];go_wp2_with fail;refine(ph.out w1).mono ?_;rintro e w2 ⟨g2,rfl,ib,ef,ag⟩;have dk:Aw (BRow w2 g2 (evL n cls (zS G 0) set)):=ef;have aw:=zH ag;go_wp2_with fail
 go_loopw [7,8] (fun o i wr=>∃k g:Nat,k<=N/\i=O U (k:Int)/\o=I (J ⟨g,0,Z⟩) n n/\w1.heap.size<=g/\Aw (BRow wr g (evL n cls (zS G k) set))/\Aw (Ar w1.heap.size w1 wr)) (fun _ i _=>N-(Au i).toNat)
 case atStart=>exact⟨0,g2,by omega,rfl,rfl,ib,dk,aw⟩
 obtain⟨k,g,hk,rfl,rfl,hg,hr,aQ⟩:=hrel;have mO:IntKind.i64.wrap ((k:Int)+1)=((k+1:Nat):Int):=by rw[Ls];omega
 have dd:=(UT.out wr aQ.out).trans bK.out;obtain⟨p0,p1,p2,p3,p4,p5,p6,p7,p8,p9⟩:=zN (dd);clear dd
 by_cases aa:k<N
 . have aW:(k:Int)<(N:Int):=by omega
   go_wp2_with fail;refine(jZ G k hG (by omega) wr).mono ?_;rintro e w3 ⟨rfl,dV⟩;obtain rfl:=dV
   by_cases dt:G.testBit k=AA
   case neg=>
    have AJ:G.testBit k=AC:=by simpa using dt
    rw[AJ];have hE:zS G (k+1)=zS G k:=by rw[jn,Lg dt]
    have ef:Aw (BRow wr g (evL n cls (zS G (k+1)) set)):=by rw[hE];exact hr
    clear hr hE dt AJ;go_wp2_with fail
    go_roundw
    case rel=>exact⟨k+1,g,by omega,by go_num,rfl,hg,ef,aQ⟩
    simp[Au];omega
   case pos=>
   rw[dt];have HE:Aw (evL n cls (zS G (k+1)) set=kj n (evL n cls (zS G k) set) (xQ n (cls k) set)):=by rw[Aw,jn,Li dt,Xl]
   have HC:=zH (iF.out k aa wr aQ.out);clear dt;go_wp2_with fail;refine HC.out.mono ?_;rintro e w3 ⟨A3,c3,rfl,mc,aj⟩;have aX:=aQ.out.size;have aJ:=zH (aQ.out.trans (aj.mono aX));have mA:BRow w3 g (evL n cls (zS G k) set):=Lb aj hr.out.lt hr.out;have ir:=zH mA;have cI:=zH (pf.out k A3 c3 w3 aJ.out (YM mc));clear hr aQ mc aj mA HC;go_wp2_with fail;refine cI.out.mono ?_;rintro e w4 ⟨g4,rfl,tm,CK,aG⟩;have iP:=aJ.out.size;have dT:=zH (aJ.out.trans (aG.mono iP));have pk:BRow w4 g (evL n cls (zS G k) set):=Lb aG ir.out.lt ir.out;have UZ:=zH (Mm.out g g4 _ _ (xR n cls set (zS G k)) (yO n (cls k) set) w4 pk CK);rw[<-HE.out] at UZ;clear CK aG pk cI ir aJ;go_wp2_with fail;refine UZ.out.mono ?_;rintro e w5 ⟨g5,rfl,dv,fO,aA⟩;have iM:=zH fO;have cj:=zH (Lc dT.out aA);have hg5':w1.heap.size<=g5:=by have:=dT.out.size;omega
   clear fO aA UZ dT;go_wp2_with fail
   go_roundw
   case rel=>exact⟨k+1,g5,by omega,by go_num,rfl,hg5',iM,cj⟩
   simp[Au];omega
 obtain rfl:N=k:=by omega
 have aW:¬(N:Int)<(N:Int):=by omega
 have aX:=HB.out.size;have bQ:=zH (HB.out.trans (aQ.out.mono aX));have mU:w.heap.size<=g:=by omega
 clear aQ;go_wp2_with fail;go_ret;exact⟨g,rfl,mU,hr.out,bQ.out⟩
theorem bits_one{q N:Nat}(hq:q<N)(hN:N<=5):zS (2^q) N=[q]:=by
 have h:∀N,N<6->∀q,q<5->q<N->zS (2^q) N=[q]:=by decide +kernel
 exact h N (by omega) q (by omega) hq
theorem ev_one(n:Nat)(cls:Nat->List Int)(q:Nat)(set:List Bool):evL n cls [q] set=xQ n (cls q) set:=by
 refine QY (xR ..) (yO ..) fun i hi=>?_
 rw[JI hi,insL_iff hi];exact⟨fun h=>h q (by simp),fun h p hp=>by rw[L4] at hp;subst hp;exact h⟩
theorem rfewR_any(AR:Bb)(n cr:Nat)(w:Ba):As Aq 5 #[Ak #[I AR n cr]] w fun e w'=>e=Am (Aj (decide (n<=2000)))/\Ar w.heap.size w w':=by
 obtain⟨w1,ab,d0,aK,hB⟩:=zk w #[I AR n cr] 38;have hd:decide ((n:Int)<=2000)=decide (n<=2000):=RG.2 (by omega);have HD:=zH hd;have ai:=zH ab;have HB:=zH hB;clear ab d0 hB hd;go_enter func5,ntmps5;go_wp2_with fail;rw[ai.out];go_wp2_with fail;go_ret;rw[<-HD.out];exact⟨rfl,HB.out⟩
theorem rsameB_any(A B:Bb)(ca cb:Nat)(a b:List Bool)(hl:a.length<=100000)(w:Ba)(hA:BAt w w.heap.size A a)(hB:BAt w w.heap.size B b) :
  As Aq 121 #[I A a.length ca,I B b.length cb] w fun e w'=>e=Am (Aj (decide (a=b)))/\Ar w.heap.size w w':=by
 obtain⟨n,hn⟩:=Ki a.length;obtain⟨m,hm⟩:=Ki b.length;have HA:=zH hA;have HB:=zH hB;have HN:=zH hn;have HM:=zH hm;rw[hn,hm];rw[hn] at hl;obtain⟨E,hE⟩:∃E,decide (a=b)=E:=⟨_,rfl⟩;have HE:=zH hE.symm;rw[hE];go_enter func121,ntmps121
 by_cases hnm:n=m
 case neg=>
  have e0:((n:Int) != (m:Int))=AA:=by simpa using(by omega:¬(n:Int)=(m:Int))
  have aH:Aw (E=AC):=by
   rw[Aw,HE.out];exact Lj fun h=>hnm (by rw[<-HN.out,<-HM.out,h])
  go_wp2_with fail;go_ret;rw[aH.out];exact⟨rfl,Ll _ _⟩
 subst hnm;have e0:((n:Int) != (n:Int))=AC:=by simp
 go_wp2_with fail
 go_loopw [5] (fun i wr=>∃k:Nat,k<=n/\i=O U (k:Int)/\Aw (∀j (h1:j<a.length) (h2:j<b.length),j<k->a[j]=b[j])/\Aw (Ar w.heap.size w wr)) (fun i _=>n-(Au i).toNat)
 case atStart=>exact⟨0,by omega,rfl,fun j _ _ h=>absurd h (by omega),Ll _ _⟩
 obtain⟨k,hk,rfl,hs,ay⟩:=hrel
 by_cases aa:k<n
 . have py:k<a.length:=by rw[HN.out];exact aa
   have cP:k<b.length:=by rw[HM.out];exact aa
   obtain⟨b1,o1,rfl,aq,z1⟩:=((HA.out.keep ay.out).more ay.out.size).at_ k py;obtain⟨b2,o2,rfl,ag,z2⟩:=((HB.out.keep ay.out).more ay.out.size).at_ k cP;obtain⟨x,hx⟩:=Ki (a[k]'py);obtain⟨y,hy⟩:=Ki (b[k]'cP);rw[hx] at z1;rw[hy] at z2;have dh:(0:Int)<=(k:Int):=by omega
   have aW:(k:Int)<(n:Int):=by omega
   have mO:IntKind.i64.wrap ((k:Int)+1)=((k+1:Nat):Int):=by rw[Ls];omega
   by_cases Hw:x=y
   . subst Hw
     have eQ:Aw (∀j (h1:j<a.length) (h2:j<b.length),j<k+1->a[j]=b[j]):=fun j h1 h2 h3=>by
      by_cases e:j=k
      . subst e;rw[hx,hy]
      . exact hs.out j h1 h2 (by omega)
     go_wp2_with fail;go_quiet (fail);go_wp2_with fail
     go_roundw
     case rel=>exact⟨k+1,by omega,by go_num,eQ,zP ay.out _⟩
     simp[Au];omega
   have e1:(x != y)=AA:=by simpa using Hw
   have e2:(x==y)=AC:=by simpa using Hw
   have aH:Aw (E=AC):=by
    rw[Aw,HE.out];refine Lj fun h=>Hw ?_
    rw[<-hx,<-hy];subst h;rfl
   go_wp2_with fail;go_quiet (fail);go_wp2_with fail;go_ret;rw[aH.out];exact⟨rfl,by first | exact ay.out | exact zP ay.out _⟩
 obtain rfl:k=n:=by omega
 have aW:¬(k:Int)<(k:Int):=by omega
 have aH:Aw (E=AA):=by
  rw[Aw,HE.out];refine Lm (NZ (by rw[HN.out,HM.out]) fun j h1 h2=>hs.out j h1 h2 (by rw[<-HN.out];exact h1))
 go_wp2_with fail;go_ret;rw[aH.out];exact⟨rfl,ay.out⟩
theorem Jc(s:Sy)(K N:Nat)(hF:Fine s K N)(G:Nat)(hG:G<32)(set:List Bool)(f':set.length=ptn s)(M:Nat)(M5:M<=ptn s)(hM:yg (ptn s) (evL (ptn s) (yB s) (zS G N)) set (M+1)=yg (ptn s) (evL (ptn s) (yB s) (zS G N)) set M)(aa:∀m,m<M->yg (ptn s) (evL (ptn s) (yB s) (zS G N)) set (m+1)≠yg (ptn s) (evL (ptn s) (yB s) (zS G N)) set m)(A SV AV AX AB:Bb)(kc ks kv kx kb:Nat)(w:Ba)(hS:SyAt w w.heap.size A SV AV AX s)(ce:BAt w w.heap.size AB set) :
  As Aq 71 #[.agg (s.vs_ A kc SV ks AV kv AX kx),O U (G:Int),I AB (ptn s) kb] w fun e w'=>∃g':Nat,e=Am (.tuple #[I (J ⟨g',0,Z⟩) (ptn s) (ptn s),O U (M:Int)])/\w.heap.size<=g'/\BRow w' g' (yg (ptn s) (evL (ptn s) (yB s) (zS G N)) set M)/\Ar w.heap.size w w':=by
 obtain⟨w1,ab,d0,aK,hB⟩:=zk w (s.vs_ A kc SV ks AV kv AX kx) 35
 have mQ:ptn s<=700:=by
  have hk:=hF.k;have oF:=hF.k6;have:=LU hF.lx (show s.p.k.toNat+1<=7 by omega);unfold ptn;omega
 have hBX:∀X,Ar w1.heap.size w1 X->BAt X X.heap.size AB set:=fun X hX=>(((ce.keep hB).more hB.size).keep hX).more hX.size
 have dH:=zH (fun (g:Nat) (a:List Bool) (ha:a.length=ptn s) (X:Ba) (hX:Ar w1.heap.size w1 X) (hr:BRow X g a)=>vo s K N hF G hG a ha A SV AV AX (J ⟨g,0,Z⟩) kc ks kv kx (ptn s) X ((hS.up hB).up hX) (hr.at_ hr.lt));obtain⟨cls,sG⟩:=Ki (yB s);obtain⟨n,hn⟩:=Ki (ptn s);rw[sG] at dH hM ⊢;simp only[sG] at aa;rw[hn] at dH hM M5 mQ f' ⊢;simp only[hn] at aa;obtain⟨ps,i9⟩:=Ki (zS G N);rw[i9] at dH hM ⊢;simp only[i9] at aa;have Mm:=zH (fun (g:Nat) (b:List Bool) (hb:b.length=n) (X:Ba) (hX:Ar w1.heap.size w1 X) (r2:BRow X g b)=>uK AB (J ⟨g,0,Z⟩) kb n n (by omega) set b f' hb X (hBX X hX) (r2.at_ r2.lt));have ph:=zH (fun (X:Ba)=>YG n (by omega) X);have Hd:=zH (fun (g g':Nat) (a b:List Bool) (ha:a.length=n) (hb:b.length=n) (X:Ba) (r1:BRow X g a) (r2:BRow X g' b)=>(by have:=rsameB_any (J ⟨g,0,Z⟩) (J ⟨g',0,Z⟩) n n a b (by omega) X (r1.at_ r1.lt) (r2.at_ r2.lt);rw[ha,hb] at this;exact this:As Aq 121 #[I (J ⟨g,0,Z⟩) n n,I (J ⟨g',0,Z⟩) n n] X fun e w'=>e=Am (Aj (decide (a=b)))/\Ar X.heap.size X w'));unfold RetB at dH Mm ph;simp only[yP,List.length_replicate,xR] at dH Mm ph;have HM:=zH hM;have K9:=zH aa;have o9:Aw (∀m,(yg n (evL n cls ps) set m).length=n):=qp;have dq:Aw (∀m,yg n (evL n cls ps) set (m+1)=evL n cls ps (kj n set (yg n (evL n cls ps) set m))):=fun _=>rfl
 unfold Sy.vs_ at ab d0 dH ⊢;have ai:=zH ab;have HB:=zH hB;have UT:Aw (∀X,Ar w1.heap.size w1 X->X.heap[w.heap.size]?=J (Ai #[O U s.p.t.n,O U s.p.t.ins,O U s.p.t.outs,I A s.p.t.cases.length kc,O U s.p.a.n,I SV s.p.a.sts.length ks,O U s.p.k,O U s.n,I AV s.vs.length kv,I AX s.xs.length kx] 35 (0,0))):=fun X hX=>La hX d0
 have p8:=zh (d0) 8 rfl;have p9:=zh (d0) 9 rfl;clear ab d0 hB hS ce hF sG hn i9 hM aa hBX f';go_enter func71,ntmps71;go_wp2_with fail;rw[ai.out];go_wp2_with fail;refine(ph.out w1).mono ?_;rintro e w2 ⟨g2,rfl,ib,ef,ag⟩;have dk:Aw (BRow w2 g2 (yg n (evL n cls ps) set 0)):=ef;have aw:=zH ag;clear ef ag ph ai p8 p9;go_wp2_with fail
 go_loopw [8,9] (fun o i wr=>∃m g:Nat,m<=M/\i=O U (m:Int)/\o=I (J ⟨g,0,Z⟩) n n/\w1.heap.size<=g/\Aw (BRow wr g (yg n (evL n cls ps) set m))/\Aw (Ar w1.heap.size w1 wr)) (fun _ i _=>M-(Au i).toNat)
 case atStart=>exact⟨0,g2,by omega,rfl,rfl,ib,dk,aw⟩
 obtain⟨m,g,hm,rfl,rfl,hg,hr,aQ⟩:=hrel;clear dk;have oz:IntKind.i64.wrap ((m:Int)+1)=((m+1:Nat):Int):=by rw[Ls];omega
 have mM:=zH (Mm.out g _ (o9.out m) wr.drew aQ.out.drew hr.out);go_upto_region 4 with fail
 refine zw [(0,AA),(1,AA),(2,AA),(3,AA),(4,AC),(5,AC),(6,AA)] (fun X=>X.heap[w.heap.size]?=J (Ai #[O U s.p.t.n,O U s.p.t.ins,O U s.p.t.outs,I A s.p.t.cases.length kc,O U s.p.a.n,I SV s.p.a.sts.length ks,O U s.p.k,O U s.n,I AV s.vs.length kv,I AX s.xs.length kx] 35 (0,0))) (by kernel_rfl) (by kernel_rfl) (UT.out _ aQ.out.drew) ?_
 repeat
  apply zA rfl
  . rintro K' ac X u
    obtain⟨p0,p1,p2,p3,p4,p5,p6,p7,p8,p9⟩:=zN (u);clear u;go_simp;exact ac
 refine zx rfl ?_;intro K' ac;go_simp;refine mM.out.mono ?_;rintro e w4 ⟨g4,rfl,tm,CK,aG⟩;have G4:Aw (Ar w1.heap.size w1 w4):=aQ.out.drew.trans (aG.mono aQ.out.size);have cI:=zH (dH.out g4 _ (yP n set _) w4 G4.out CK);have fO:Aw (BRow w4 g (yg n (evL n cls ps) set m)):=Lb aG hr.out.lt hr.out;refine ac _ _ (UT.out _ G4.out) ?_;refine zx rfl ?_;intro K' ac;go_simp;refine cI.out.mono ?_;rintro e w6 ⟨g6,rfl,iI,pV,cX⟩;have G6:Aw (Ar w1.heap.size w1 w6):=Lc G4.out cX;rw[<-dq.out m] at pV;have nK:Aw (BRow w6 g (yg n (evL n cls ps) set m)):=Lb cX fO.out.lt fO.out;have rz:=zH pV;have UZ:=zH (Hd.out g6 g _ _ (o9.out (m+1)) (o9.out m) w6 pV nK.out);have lQ:w1.heap.size<=g6:=by have:=G4.out.size;omega
 refine ac _ _ (UT.out _ G6.out) ?_
 repeat
  apply zA rfl
  . rintro K' ac X u
    go_simp;exact ac
 refine zO ?_;go_wp2_with fail;refine UZ.out.mono ?_;rintro e w8 ⟨rfl,dQ⟩;have G8:=zH (Lc G6.out dQ);have hr8:Aw (BRow w8 g (yg n (evL n cls ps) set m)):=Lb dQ nK.out.lt nK.out;have hr9:Aw (BRow w8 g6 (yg n (evL n cls ps) set (m+1))):=Lb dQ rz.out.lt rz.out
 by_cases hmM:m<M
 . have he:decide (yg n (evL n cls ps) set (m+1)=yg n (evL n cls ps) set m)=AC:=Lj (K9.out m hmM)
   rw[he];go_wp2_with fail
   go_roundw
   case rel=>exact⟨m+1,g6,by omega,by go_num,rfl,lQ,hr9,G8⟩
   simp[Au];omega
 obtain rfl:m=M:=by omega
 have he:decide (yg n (evL n cls ps) set (m+1)=yg n (evL n cls ps) set m)=AA:=Lm HM.out;rw[he];have hg8:w.heap.size<=g:=by have:=HB.out.size;omega
 have bQ:=zH (Lc HB.out G8.out);go_wp2_with fail
 go_ret2
 exact⟨g,rfl,hg8,hr8.out,bQ.out⟩
end
section
open Go.RowKit
theorem rheard_any(n:Nat)(S:Ax)(v:Vw)(w:Ba)(hn:n<=5) :
  As Aq 201 #[Ak #[O U n,S],.agg v.cells] w (ug ((yI v n).map (·.2)) w):=by
 have hch:=v.cells_h;go_enter func201,ntmps201;unfold Vw.cells;go_wp2;refine wp_two ?_;intro W0 b0 b1 aX ce
 go_loopw [5,6] (fun o i wr=>∃k:Nat,k<=n/\i=O U k/\Own wr W0.heap.size o ((yI v k).map (·.2))/\Ar W0.heap.size W0 wr) (fun _ i _=>n-(Au i).toNat)
 case atStart => exact ⟨0, by omega, rfl, by have : yI v 0 = [] := by simp [yI]
                                             rw[this];exact Own.nil _ _,Ll _ _⟩
 obtain⟨k,hk,rfl,an,aL⟩:=hrel;have d0:=jN b0 aL (by omega);have d1:=jN b1 aL (by omega);have t0:=zh d0 0 rfl;have t1:=zh d1 1 rfl
 have eU:(yI v k).length<=5:=by
  unfold yI;split
  . exact Lz (List.length_filterMap_le _ _) (by simp;omega)
  simp
 have HD:=zH d0;have cN:=zH d1;have HO:=zH an;have dE:=zH aL;have H0:=zH ce;have HS:=zH aX
 by_cases aa:k<n
 . by_cases hr:0<v.r
   . have hq:=zh cN.out (3+k) (hch k (by omega))
     by_cases h0:0<=v.h k
     . have hy:=zH (heardTo_yes hr h0)
       go_wp2_with (at_builtin;go_must (refine xd rfl _ _ rfl W0.heap.size u5 _ (v.h k) rfl HO.out rfl (by simp;omega) dE.out.size ?_);intro v' w1 aI fD aq)
       go_roundw
       case rel=>exact⟨k+1,by omega,by go_num,by rw[hy.out,LM];exact aI,dE.out.trans aq⟩
       simp[Au];omega
     have MI:=zH (Y7 (v:=v) (k:=k) (fun h=>h0 h.2));go_wp2
     go_roundw
     case rel=>exact⟨k+1,by omega,by go_num,by rw[MI.out];exact HO.out,dE.out⟩
     simp[Au];omega
   have he:Aw ((yI v n).map (·.2)=(yI v k).map (·.2)):=by show(yI v n).map (·.2)=(yI v k).map (·.2);simp[yI,hr]
   go_wp2;go_ret;exact⟨_,rfl,by rw[he.out];exact HO.out.low (by have:=HS.out;omega),H0.out.trans (dE.out.mono (by have:=HS.out;omega))⟩
 obtain rfl:k=n:=by omega
 go_wp2;go_ret;exact⟨_,rfl,HO.out.low (by have:=HS.out;omega),H0.out.trans (dE.out.mono (by have:=HS.out;omega))⟩
def yN:Nat->List Int->List Int->List Int
 | 0,_,_=>[]
 | _+1,[],[]=>[]
 | f+1,x::us,[]=>x::yN f us []
 | f+1,[],y::bs=>y::yN f [] bs
 | f+1,x::us,y::bs=>if x<y then x::yN f us (y::bs) else if x=y then y::yN f us bs else y::yN f (x::us) bs
def yr(us bs:List Int):List Int:=yN (us.length+bs.length) us bs
theorem JX:∀(f g:Nat) (us bs:List Int),us.length+bs.length<=f->us.length+bs.length<=g->yN f us bs=yN g us bs:=by
 intro f
 induction f with
 | zero=>
  intro g us bs hf hg;have h1:us=[]:=LA (by omega);have h2:bs=[]:=LA (by omega);subst h1;subst h2
  cases g<;>rfl
 | succ f ih=>
  intro g us bs hf hg
  cases g with
  | zero=>
   have h1:us=[]:=LA (by omega);have h2:bs=[]:=LA (by omega);subst h1;subst h2;rfl
  | succ g=>
   cases us with
   | nil=>cases bs with
    | nil=>rfl
    | cons y bs=>simp only[yN];rw[ih g [] bs (by first | omega | (simp;done) | (simp;omega) | (simp at *;omega)) (by first | omega | (simp;done) | (simp;omega) | (simp at *;omega))]
   | cons x us=>cases bs with
    | nil=>simp only[yN];rw[ih g us [] (by first | omega | (simp;done) | (simp;omega) | (simp at *;omega)) (by first | omega | (simp;done) | (simp;omega) | (simp at *;omega))]
    | cons y bs=>
     simp only[yN];simp only[List.length_cons] at hf hg;rw[ih g us (y::bs) (by simp;omega) (by simp;omega),ih g us bs (by omega) (by omega),ih g (x::us) bs (by simp;omega) (by simp;omega)]
theorem unionL_ax(x:Int)(us:List Int):yr (x::us) []=x::yr us []:=by simp[yr,yN]
theorem unionL_bx(y:Int)(bs:List Int):yr [] (y::bs)=y::yr [] bs:=by
 simp only[yr,List.length_nil,List.length_cons,Nat.zero_add];rfl
theorem unionL_lt{x y:Int}{us bs:List Int}(h:x<y):yr (x::us) (y::bs)=x::yr us (y::bs):=by
 unfold yr;rw[show(x::us).length+(y::bs).length=(us.length+(y::bs).length)+1 from by simp;omega];simp only[yN,h,if_true]
theorem unionL_eq{y:Int}{us bs:List Int}:yr (y::us) (y::bs)=y::yr us bs:=by
 unfold yr;rw[show(y::us).length+(y::bs).length=(us.length+bs.length+1)+1 from by simp;omega];simp only[yN,Int.lt_irrefl,if_false,if_true];rw[JX _ (us.length+bs.length) us bs (by omega) (by omega)]
theorem unionL_gt{x y:Int}{us bs:List Int}(h:¬x<y)(h':x≠y):yr (x::us) (y::bs)=y::yr (x::us) bs:=by
 unfold yr;rw[show(x::us).length+(y::bs).length=((x::us).length+bs.length)+1 from by simp;omega];simp only[yN,h,h',if_false]
theorem X5(A A':Bb)(cap aD:Nat)(xs ys:List Int)(w:Ba)(hA:IAt w w.heap.size A xs)(nd:IAt w w.heap.size A' ys)(hc:xs.length<=cap)(MS:ys.length<=aD)(hm:cap<=maxLen)(sy:aD<=maxLen)(hl:xs.length+ys.length<=1000000) :
  As Aq 189 #[I A xs.length cap,I A' ys.length aD] w (ug (yr xs ys) w):=by
 unfold maxLen at hm sy;go_enter func189,ntmps189;go_wp2
 go_loopw [0,1,5] (fun a b o wr=>∃(us bs out:List Int) (P Q:Bb) (c d:Nat),a=I P us.length c/\b=I Q bs.length d/\us.length<=c/\bs.length<=d/\c<=9223372036854775807/\d<=9223372036854775807/\IAt wr w.heap.size P us/\IAt wr w.heap.size Q bs/\Own wr w.heap.size o out /\
   Aw (out++yr us bs=yr xs ys)/\out.length+us.length+bs.length<=1000000/\Ar w.heap.size w wr) (fun a b _ _=>(match a with | I _ n _=>n | _=>0)+(match b with | I _ n _=>n | _=>0))
 case atStart=>exact⟨xs,ys,[],A,A',cap,aD,rfl,rfl,hc,MS,by omega,by omega,hA,nd,Own.nil _ _,rfl,by simp;omega,Ll _ _⟩
 obtain⟨us,bs,out,P,Q,c,d,rfl,rfl,Wp,aT,mV,hdm,hP,hQ,an,bJ,aS,aL⟩:=hrel
 cases us with
 | nil=>
  cases bs with
  | nil=>
   go_wp2;go_ret;exact⟨_,rfl,by have:=bJ.out;rw[<-this];simpa[yr,yN] using an,aL⟩
  | cons y bs=>
   obtain⟨Q',dcut,hQ'⟩:=Yc Q bs.length d (by simpa using aT) (by unfold maxLen;omega);have Wv:=zH (hQ' wr w.heap.size y bs rfl hQ);have hQ0:=zH hQ;obtain⟨b',eh,rfl,di,oU⟩:=hQ.at_ 0 (by simp);have rh:b'<wr.heap.size:=LF di aL.size;have e0:((bs.length:Int)+1==0)=AC:=by simp;omega
   simp only[List.length_cons,List.getElem_cons_zero,Nat.add_zero] at *;have HO:=zH an;have dE:=zH aL;have HR:Aw (out++[y]++yr [] bs=yr xs ys):=by show _=_;have:=bJ.out;rw[unionL_bx] at this;simpa using this
   go_wp2;go_quiet (fail);go_wp2;go_quiet (fail);go_wp2
   go_region_held3 (fun w'=>w'.cell? ⟨b',eh,Z⟩=J (O U y))
    (first | exact oU | (refine(L3 _ _ _ ?_).trans oU;exact rh) | (rw[aq.cell (p:=⟨b',eh,Z⟩) di];exact oU))
    ((refine kW rfl _ _ rfl w.heap.size u5 _ y rfl (HO.out.drewN _) rfl (by omega) dE.out.size ?_;intro v' w1 aI fD aq))
   go_wp2
   go_roundw
   case rel=>exact⟨[],bs,out++[y],_,_,_,_,rfl,rfl,by first | omega | (simp;done) | (simp;omega) | (simp at *;omega),by first | omega | (simp;done) | (simp;omega) | (simp at *;omega),by omega,by omega,IAt.nil _ _ _,Wv.out.keep (vP aq),aI,HR,by first | omega | (simp;done) | (simp;omega) | (simp at *;omega),dE.out.trans (vP aq)⟩
   case measure=>simp
 | cons x us=>
  cases bs with
  | nil=>
   obtain⟨P',hcut,hP'⟩:=Yc P us.length c (by simpa using Wp) (by unfold maxLen;omega);have Ww:=zH (hP' wr w.heap.size x us rfl hP);have hP0:=zH hP;obtain⟨b,off,rfl,hb,pB⟩:=hP.at_ 0 (by simp);have aQ:b<wr.heap.size:=LF hb aL.size;simp only[List.length_cons,List.getElem_cons_zero,Nat.add_zero] at *;have HO:=zH an;have dE:=zH aL;have HR:Aw (out++[x]++yr us []=yr xs ys):=by show _=_;have:=bJ.out;rw[unionL_ax] at this;simpa using this
   go_wp2;go_quiet (fail);go_wp2
   go_region_held3 (fun w'=>w'.cell? ⟨b,off,Z⟩=J (O U x))
    (first | exact pB | (refine(L3 _ _ _ ?_).trans pB;exact aQ) | (rw[aq.cell (p:=⟨b,off,Z⟩) hb];exact pB))
    ((refine kW rfl _ _ rfl w.heap.size u5 _ x rfl (HO.out.drewN _) rfl (by omega) dE.out.size ?_;intro v' w1 aI fD aq))
   go_wp2
   go_roundw
   case rel=>exact⟨us,[],out++[x],_,_,_,_,rfl,rfl,by first | omega | (simp;done) | (simp;omega) | (simp at *;omega),by first | omega | (simp;done) | (simp;omega) | (simp at *;omega),by omega,by omega,Ww.out.keep (vP aq),IAt.nil _ _ _,aI,HR,by first | omega | (simp;done) | (simp;omega) | (simp at *;omega),dE.out.trans (vP aq)⟩
   case measure=>simp
  | cons y bs=>
   obtain⟨P',hcut,hP'⟩:=Yc P us.length c (by simpa using Wp) (by unfold maxLen;omega);have Ww:=zH (hP' wr w.heap.size x us rfl hP);have hP0:=zH hP;obtain⟨b,off,rfl,hb,pB⟩:=hP.at_ 0 (by simp);have aQ:b<wr.heap.size:=LF hb aL.size;obtain⟨Q',dcut,hQ'⟩:=Yc Q bs.length d (by simpa using aT) (by unfold maxLen;omega);have Wv:=zH (hQ' wr w.heap.size y bs rfl hQ);have hQ0:=zH hQ;obtain⟨b',eh,rfl,di,oU⟩:=hQ.at_ 0 (by simp);have rh:b'<wr.heap.size:=LF di aL.size;have e0:((bs.length:Int)+1==0)=AC:=by simp;omega
   simp only[List.length_cons,List.getElem_cons_zero,Nat.add_zero] at *;have HO:=zH an;have dE:=zH aL
   by_cases aa:x<y
   . have HR:Aw (out++[x]++yr us (y::bs)=yr xs ys):=by show _=_;have:=bJ.out;rw[unionL_lt aa] at this;simpa using this
     go_wp2;go_quiet (fail);go_wp2
     go_region_held3 (fun w'=>w'.cell? ⟨b,off,Z⟩=J (O U x))
      (first | exact pB | (refine(L3 _ _ _ ?_).trans pB;exact aQ) | (rw[aq.cell (p:=⟨b,off,Z⟩) hb];exact pB))
      ((refine kW rfl _ _ rfl w.heap.size u5 _ x rfl (HO.out.drewN _) rfl (by omega) dE.out.size ?_;intro v' w1 aI fD aq))
     go_wp2
     go_roundw
     case rel=>exact⟨us,y::bs,out++[x],_,_,_,_,rfl,rfl,by first | omega | (simp;done) | (simp;omega) | (simp at *;omega),by first | omega | (simp;done) | (simp;omega) | (simp at *;omega),by omega,by omega,Ww.out.keep (vP aq),hQ0.out.keep (vP aq),aI,HR,by first | omega | (simp;done) | (simp;omega) | (simp at *;omega),dE.out.trans (vP aq)⟩
     case measure=>simp
   . by_cases iJ:x=y
     . have e1:(x==y)=AA:=by simp[iJ]
       have HR:Aw (out++[y]++yr us bs=yr xs ys):=by show _=_;have:=bJ.out;rw[iJ,unionL_eq] at this;simpa using this
       go_wp2;go_quiet (fail);go_wp2;go_quiet (fail);go_wp2
       go_region_held3 (fun w'=>w'.cell? ⟨b',eh,Z⟩=J (O U y))
        (first | exact oU | (refine(L3 _ _ _ ?_).trans oU;exact rh) | (rw[aq.cell (p:=⟨b',eh,Z⟩) di];exact oU))
        ((refine kW rfl _ _ rfl w.heap.size u5 _ y rfl (HO.out.drewN _) rfl (by omega) dE.out.size ?_;intro v' w1 aI fD aq))
       go_wp2
       go_roundw
       case rel=>exact⟨us,bs,out++[y],_,_,_,_,rfl,rfl,by first | omega | (simp;done) | (simp;omega) | (simp at *;omega),by first | omega | (simp;done) | (simp;omega) | (simp at *;omega),by omega,by omega,Ww.out.keep (vP aq),Wv.out.keep (vP aq),aI,HR,by first | omega | (simp;done) | (simp;omega) | (simp at *;omega),dE.out.trans (vP aq)⟩
       case measure=>simp;omega
     . have e1:(x==y)=AC:=by simp[iJ]
       have HR:Aw (out++[y]++yr (x::us) bs=yr xs ys):=by show _=_;have:=bJ.out;rw[unionL_gt aa iJ] at this;simpa using this
       go_wp2;go_quiet (fail);go_wp2;go_quiet (fail);go_wp2
       go_region_held3 (fun w'=>w'.cell? ⟨b',eh,Z⟩=J (O U y))
        (first | exact oU | (refine(L3 _ _ _ ?_).trans oU;exact rh) | (rw[aq.cell (p:=⟨b',eh,Z⟩) di];exact oU))
        ((refine kW rfl _ _ rfl w.heap.size u5 _ y rfl (HO.out.drewN _) rfl (by omega) dE.out.size ?_;intro v' w1 aI fD aq))
       go_wp2
       go_roundw
       case rel=>exact⟨x::us,bs,out++[y],_,_,_,_,rfl,rfl,by first | omega | (simp;done) | (simp;omega) | (simp at *;omega),by first | omega | (simp;done) | (simp;omega) | (simp at *;omega),by omega,by omega,hP0.out.keep (vP aq),Wv.out.keep (vP aq),aI,HR,by first | omega | (simp;done) | (simp;omega) | (simp at *;omega),dE.out.trans (vP aq)⟩
       case measure=>simp
end
section
def ascN(n:Nat)(p:Nat->Bool):List Nat:=(List.range n).filter p
def xa(l:List Nat):List Int:=l.map fun k:Nat=>(k:Int)
def asc(n:Nat)(p:Nat->Bool):List Int:=xa (ascN n p)
theorem vc(n:Nat)(p:Nat->Bool):(asc n p).Pairwise (·<·):=by
 unfold asc xa ascN;rw[Sn];exact((List.pairwise_lt_range (n:=n)).filter p).imp fun h=>by omega
theorem Z5{n:Nat}{p:Nat->Bool}{x:Int}:x∈asc n p↔∃k:Nat,x=k/\k<n/\p k=AA:=by
 unfold asc xa ascN;rw[LZ];constructor
 . rintro⟨k,hk,rfl⟩
   rw[List.mem_filter,Py] at hk;exact⟨k,rfl,hk.1,hk.2⟩
 rintro⟨k,rfl,h1,h2⟩;exact⟨k,by rw[List.mem_filter,Py];exact⟨h1,h2⟩,rfl⟩
theorem Xx(n:Nat)(p:Nat->Bool):(asc n p).length<=n:=by
 unfold asc xa ascN;rw[LJ];exact Lz (RM _ _) (by simp)
theorem xM(l:List Nat):(xa l).length=l.length:=by simp[xa]
theorem uF:∀ {us vs:List Int},us.Pairwise (·<·)->vs.Pairwise (·<·)->(∀x,x∈us↔x∈vs)->us=vs
 | [],[],_,_,_=>rfl
 | [],v::vs,_,_,h=>absurd ((h v).2 (by simp)) (by simp)
 | u::us,[],_,_,h=>absurd ((h u).1 (by simp)) (by simp)
 | u::us,v::vs,hu,hv,h=>by
  obtain⟨Ds,MD⟩:=Np.1 hu;obtain⟨sn,oL⟩:=Np.1 hv
  have e:u=v:=by
   have h1:=(h u).1 (by simp);have h2:=(h v).2 (by simp);rcases LL.1 h1 with h1 | h1
   . exact h1
   . rcases LL.1 h2 with h2 | h2
     . exact h2.symm
     . have:=sn u h1
       have:=Ds v h2;omega
  subst e
  congr 1
  refine uF MD oL fun x=>?_
  have:=h x;simp only[List.mem_cons] at this;constructor
  . intro hx
    rcases this.1 (.inr hx) with e | e
    . subst e;exact absurd (Ds x hx) (by omega)
    . exact e
  . intro hx
    rcases this.2 (.inr hx) with e | e
    . subst e;exact absurd (sn x hx) (by omega)
    . exact e
theorem qV:∀(f:Nat) (us vs:List Int),us.length+vs.length<=f->∀x,x∈yN f us vs↔x∈us\/x∈vs:=by
 intro f
 induction f with
 | zero=>
  intro us vs h x;have h1:us=[]:=LA (by omega);have h2:vs=[]:=LA (by omega);subst h1;subst h2;simp[yN]
 | succ f ih=>
  intro us vs h x
  cases us with
  | nil=>cases vs with
   | nil=>simp[yN]
   | cons v vs=>simp only[yN,List.mem_cons,ih [] vs (by simp at *;omega) x];simp
  | cons u us=>cases vs with
   | nil=>simp only[yN,List.mem_cons,ih us [] (by simp at *;omega) x];simp
   | cons v vs=>
    simp only[List.length_cons] at h;simp only[yN]
    split
    . simp only[List.mem_cons,ih us (v::vs) (by simp;omega) x]
      constructor
      . rintro(hx | hx | (hx | hx))<;>simp[hx]
      . rintro((hx | hx) | (hx | hx))<;>simp[hx]
    . split
      . rename_i e;subst e
        simp only[List.mem_cons,ih us vs (by omega) x];constructor
        . rintro(hx | hx | hx)<;>simp[hx]
        . rintro((hx | hx) | (hx | hx))<;>simp[hx]
      . simp only[List.mem_cons,ih (u::us) vs (by simp;omega) x]
        constructor
        . rintro(hx | (hx | hx) | hx)<;>simp[hx]
        . rintro((hx | hx) | (hx | hx))<;>simp[hx]
theorem XE:∀(f:Nat) (us vs:List Int),us.length+vs.length<=f->us.Pairwise (·<·)->vs.Pairwise (·<·)->(yN f us vs).Pairwise (·<·):=by
 intro f
 induction f with
 | zero=>intro us vs _ _ _;simp[yN]
 | succ f ih=>
  intro us vs h hu hv
  cases us with
  | nil=>cases vs with
   | nil=>simp[yN]
   | cons v vs=>
    obtain⟨sn,oL⟩:=Np.1 hv;simp only[yN];refine Np.2 ⟨fun x hx=>?_,ih [] vs (by simp at *;omega) hu oL⟩;rw[qV f [] vs (by simp at *;omega)] at hx;exact sn x (by simpa using hx)
  | cons u us=>cases vs with
   | nil=>
    obtain⟨Ds,MD⟩:=Np.1 hu;simp only[yN];refine Np.2 ⟨fun x hx=>?_,ih us [] (by simp at *;omega) MD hv⟩;rw[qV f us [] (by simp at *;omega)] at hx;exact Ds x (by simpa using hx)
   | cons v vs=>
    obtain⟨Ds,MD⟩:=Np.1 hu;obtain⟨sn,oL⟩:=Np.1 hv;simp only[List.length_cons] at h;simp only[yN]
    split
    . rename_i aa
      refine Np.2 ⟨fun x hx=>?_,ih us (v::vs) (by simp;omega) MD hv⟩;rw[qV f us (v::vs) (by simp;omega)] at hx;rcases hx with hx | hx
      . exact Ds x hx
      . rcases LL.1 hx with hx | hx
        . omega
        . have:=sn x hx;omega
    . split
      . rename_i bj e;subst e
        refine Np.2 ⟨fun x hx=>?_,ih us vs (by omega) MD oL⟩;rw[qV f us vs (by omega)] at hx;rcases hx with hx | hx
        . exact Ds x hx
        . exact sn x hx
      . rename_i h1 h2
        refine Np.2 ⟨fun x hx=>?_,ih (u::us) vs (by simp;omega) hu oL⟩;rw[qV f (u::us) vs (by simp;omega)] at hx;rcases hx with hx | hx
        . rcases LL.1 hx with hx | hx
          . omega
          . have:=Ds x hx;omega
        . exact sn x hx
theorem X4(n:Nat)(p q:Nat->Bool):yr (asc n p) (asc n q)=asc n fun x=>p x||q x:=by
 refine uF (XE _ _ _ (Le _) (vc n p) (vc n q)) (vc n _) fun x=>?_
 unfold yr;rw[qV _ _ _ (Le _),Z5,Z5,Z5];constructor
 . rintro(⟨k,rfl,h1,h2⟩ | ⟨k,rfl,h1,h2⟩)
   . exact⟨k,rfl,h1,by simp[h2]⟩
   exact⟨k,rfl,h1,by simp[h2]⟩
 rintro⟨k,rfl,h1,h2⟩;simp only[Bool.or_eq_true] at h2;rcases h2 with h2 | h2
 . exact .inl ⟨k,rfl,h1,h2⟩
 exact .inr ⟨k,rfl,h1,h2⟩
theorem asc_one{n i:Nat}(h:i<n):asc n (fun x=>x==i)=[(i:Int)]:=by
 refine uF (vc n _) (by simp) fun x=>?_
 rw[Z5];simp only[beq_iff_eq,List.mem_singleton];constructor
 . rintro⟨k,rfl,_,rfl⟩;rfl
 rintro rfl;exact⟨i,rfl,h,rfl⟩
theorem qF(vs:List Vw)(l:List Nat):xa (yz vs l)=asc vs.length fun x=>l.any fun c=>kA vs c x:=rfl
theorem past_self{vs:List Vw}(ha:XV vs){i:Nat}(hi:i<vs.length) :
  yr (xa (yz vs (xE (zZ vs i)))) [(i:Int)]=xa (yz vs [i]):=by
 rw[<-asc_one hi,qF,qF,X4]
 congr 1
 funext x
 rw[NG];simp only[Bool.or_eq_true,List.any_eq_true,beq_iff_eq,List.any_cons,List.any_nil,Bool.or_false,qh ha hi];constructor
 . rintro(h | h)
   . exact .inr h
   exact .inl h
 rintro(h | h)
 . exact .inr h
 exact .inl h
theorem past_snoc(vs:List Vw)(l:List Nat)(c:Nat):yr (xa (yz vs l)) (xa (yz vs [c]))=xa (yz vs (l++[c])):=by
 rw[qF,qF,qF,X4]
 congr 1
 funext x
 simp
theorem YK(vs:List Vw)(l:List Nat):(xa (yz vs l)).length<=vs.length:=Xx _ _
end
section
open Go.RowKit
theorem twoboxes(w:Ba)(c1 c2:Array Ax)(t1 t2:TypeId):∃W0,(w.alloc (Ai c1 t1)).alloc (Ai c2 t2)=W0/\W0.heap[w.heap.size]?=J (Ai c1 t1 (0,0))/\W0.heap[w.heap.size+1]?=J (Ai c2 t2 (0,0))/\W0.heap.size=w.heap.size+2/\Ar w.heap.size w W0:=
 ⟨_,rfl,yU (zy _ _) _,by have:=zy (w.alloc (Ai c1 t1)) (Ai c2 t2);rwa[Nk] at this,by simp,kJ w _ _⟩
theorem Wf.row_ok{n:Int}{vs:List Vw}(h:Wf n vs){i:Nat}(hi:i<vs.length):jf n (vs.take i) (zZ vs i)=0:=(Ja (h.2.2 i hi)).1
theorem Wf.kid{n:Int}{vs:List Vw}(h:Wf n vs){i c:Nat}(hi:i<vs.length)(hc:c∈xE (zZ vs i)):c<i/\(zZ vs c).r=(zZ vs i).r-1:=by
 have h1:=h.acyc i hi c hc;have h2:=kid_ok (h.row_ok hi) hc;rw[jI h1] at h2;exact⟨h1,h2.2⟩
theorem Wf.begv{n:Int}{vs:List Vw}(h:Wf n vs){i:Nat}(hi:i<vs.length):begE n (zZ vs i)=0:=(ue (h.row_ok hi)).1
def xn(vs:List Vw)(l:List Nat)(out:List Int):List Int:=l.foldl (fun out x=>if (zZ vs x).r=0 then out.set (zZ vs x).p.toNat (zZ vs x).i else out) out
theorem kN(vs:List Vw):∀(l:List Nat) (out:List Int),(xn vs l out).length=out.length
 | [],_=>rfl
 | x::l,out=>by
  have:=kN vs l (if (zZ vs x).r=0 then out.set (zZ vs x).p.toNat (zZ vs x).i else out);unfold xn at *;rw[Nz,this]
  split<;>simp
theorem knowL_step(vs:List Vw)(l:List Nat)(k:Nat)(hk:k<l.length)(out:List Int):xn vs (l.take (k+1)) out=if (zZ vs l[k]).r=0 then (xn vs (l.take k) out).set (zZ vs l[k]).p.toNat (zZ vs l[k]).i else xn vs (l.take k) out:=by
 unfold xn;rw[List.take_add_one,Ln hk,N2]
 rfl
theorem qD{vs:List Vw}{i x:Nat}:x∈yz vs [i]↔x<vs.length/\kA vs i x=AA:=by simp[kT]
theorem vn{vs:List Vw}(ha:XV vs){m:Nat}:∀(f i x:Nat),i<m->i<vs.length->qJ (vs.take m) f i x=qJ vs f i x
 | 0,_,_,_,_=>rfl
 | f+1,i,x,hm,hi=>by
  simp only[qJ];rw[jI hm]
  congr 1
  rw[NG,NK,NK];constructor
  . rintro⟨c,hc,h⟩
    have:=ha i hi c hc;exact⟨c,hc,by rw[<-vn (m:=m) ha f c x (by omega) (by omega)];exact h⟩
  . rintro⟨c,hc,h⟩
    have:=ha i hi c hc;exact⟨c,hc,by rw[vn (m:=m) ha f c x (by omega) (by omega)];exact h⟩
theorem reach_take{vs:List Vw}(ha:XV vs){m i x:Nat}(hm:i<m)(hi:i<vs.length):kA (vs.take m) i x=kA vs i x:=by
 unfold kA;rw[vn ha _ i x hm hi];have hl:(vs.take m).length=min m vs.length:=by simp
 exact Zq ha i _ _ x hi (by rw[hl];omega) (by omega)
theorem past_cons{n:Int}{vs:List Vw}(h:Wf n vs){i a b:Nat}(hi:i<vs.length)(ha:a∈yz vs [i])(hb:b∈yz vs [i])(hp:(zZ vs a).p=(zZ vs b).p)(hr:(zZ vs a).r=(zZ vs b).r):a=b:=by
 have rnd:∀x,x∈yz vs [i]->x≠i->(zZ vs x).r<(zZ vs i).r:=by
  intro x hx bj;obtain⟨_,h1⟩:=qD.1 hx
  have key:∀i,i<vs.length->kA vs i x=AA->(zZ vs x).r<=(zZ vs i).r:=by
   intro i
   induction i using Nat.strongRecOn with
   | _ i ih=>
    intro hi h1;rcases(qh h.acyc hi).1 h1 with rfl | ⟨c,hc,h2⟩
    . omega
    . have k:=h.kid hi hc
      have:=ih c k.1 (by omega) h2;omega
  rcases(qh h.acyc hi).1 h1 with rfl | ⟨c,hc,h2⟩
  . exact absurd rfl bj
  have k:=h.kid hi hc;have:=key c (by omega) h2;omega
 by_cases ea:a=i
 . by_cases eb:b=i
   . rw[ea,eb]
   have:=rnd b hb eb;rw[<-hr,ea] at this;omega
 by_cases eb:b=i
 . have:=rnd a ha ea;rw[hr,eb] at this;omega
 -- both in the past of what i heard
 obtain⟨la,ra⟩:=qD.1 ha;obtain⟨lb,rb⟩:=qD.1 hb
 have hri:(zZ vs i).r≠0:=by
  intro e;have:=rnd a ha ea;have Wn:=vb (h.begv (show a<vs.length from la));omega
 have hc:=((ue (h.row_ok hi)).2 hri).2.2
 have mem:∀x,x∈yz vs [i]->x≠i->x∈yz (vs.take i) (xE (zZ vs i)):=by
  intro x hx bj;obtain⟨_,h1⟩:=qD.1 hx;rcases(qh h.acyc hi).1 h1 with rfl | ⟨c,hc,h2⟩
  . exact absurd rfl bj
  have k:=h.kid hi hc;have:=reach_lt h.acyc (show c<vs.length by omega) h2;exact kT.2 ⟨by simp;omega,c,hc,by rw[reach_take h.acyc k.1 (by omega)];exact h2⟩
 have ma:=mem a ha ea;have mb:=mem b hb eb
 have pw:∀l:List Nat,Xn (vs.take i) l=AA->l.Pairwise (fun a b=>uB (vs.take i) a b=AC):=by
  intro l
  induction l with
  | nil=>intro _;exact List.Pairwise.nil
  | cons x l ih=>
   intro hx;simp only[Xn,Bool.and_eq_true,List.all_eq_true] at hx;exact List.Pairwise.cons (fun y hy=>by have:=hx.1 y hy;simpa using this) (ih hx.2)
 have tQ:=pw _ hc;rcases Decidable.em (a=b) with e | e
 . exact e
 exfalso
 have sym:∀ {a b},uB (vs.take i) a b=AC->uB (vs.take i) b a=AC:=by
  intro a b h;unfold uB at *;simp only[decide_eq_false_iff_not,not_and] at *;exact fun e1 e2=>h e1.symm e2.symm
 have all:∀l:List Nat,l.Pairwise (fun a b=>uB (vs.take i) a b=AC)->∀a,a∈l->∀b,b∈l->a≠b->uB (vs.take i) a b=AC:=by
  intro l hl
  induction hl with
  | nil=>intro a ha;cases ha
  | cons h1 _ ih=>
   intro a ha b hb bj;rcases LL.1 ha with rfl | ha
   . rcases LL.1 hb with rfl | hb
     . exact absurd rfl bj
     . exact h1 b hb
   . rcases LL.1 hb with e | hb
     . rw[e];exact sym (h1 a ha)
     . exact ih a ha b hb bj
 have aP:=all _ tQ a ma b mb e;have la':a<i:=by have:=(kT.1 ma).1;simp at this;omega
 have lb':b<i:=by have:=(kT.1 mb).1;simp at this;omega
 unfold uB at aP;rw[jI la',jI lb'] at aP;simp[hp,hr] at aP
theorem YY{vs:List Vw}{p:Nat}:∀(l:List Nat) (out:List Int),(∀x,x∈l->(zZ vs x).r=0->(zZ vs x).p.toNat≠p)->(xn vs l out)[p]?=out[p]?
 | [],_,_=>rfl
 | x::l,out,h=>by
  unfold xn at *;rw[Nz];have:=YY (vs:=vs) (p:=p) l (if (zZ vs x).r=0 then out.set (zZ vs x).p.toNat (zZ vs x).i else out) fun y hy=>h y (by simp[hy])
  unfold xn at this;rw[this]
  split
  . rename_i hr
    rw[List.getElem?_set_ne (h x (by simp) hr)]
  . rfl
theorem Qy{vs:List Vw}{c:Nat}:∀(l:List Nat) (out:List Int),c∈l->(zZ vs c).r=0->(zZ vs c).p.toNat<out.length ->
  (∀x,x∈l->(zZ vs x).r=0->(zZ vs x).p.toNat=(zZ vs c).p.toNat->x=c)->(xn vs l out)[(zZ vs c).p.toNat]?=J (zZ vs c).i
 | [],_,h,_,_,_=>by cases h
 | x::l,out,hc,hr,aa,hu=>by
  by_cases hl:c∈l
  . have:=Qy (vs:=vs) l (if (zZ vs x).r=0 then out.set (zZ vs x).p.toNat (zZ vs x).i else out) hl hr (by split<;>simp[aa]) fun y hy=>hu y (by simp[hy])
    unfold xn at *;rw[Nz];exact this
  · have e : x = c := by
     rcases LL.1 hc with h | h
     . exact h.symm
     . exact absurd h hl
    subst e;have:=YY (vs:=vs) (p:=(zZ vs x).p.toNat) l (if (zZ vs x).r=0 then out.set (zZ vs x).p.toNat (zZ vs x).i else out) (fun y hy pl e=>hl (by rw[<-hu y (by simp[hy]) pl e];exact hy));unfold xn at *;rw[Nz,this,Li hr,List.getElem?_set_self aa]
theorem YZ{vs:List Vw}{p:Nat}{u:Int}:∀(l:List Nat) (out:List Int),(xn vs l out)[p]?=J u->out[p]?=J u\/∃x,x∈l/\(zZ vs x).r=0/\(zZ vs x).p.toNat=p/\(zZ vs x).i=u
 | [],_,h=>Or.inl h
 | x::l,out,h=>by
  unfold xn at h;rw[Nz] at h;rcases YZ l _ h with h1 | ⟨y,hy,h2⟩
  . split at h1
    . rename_i hr
      rw[P6] at h1
      split at h1
      . rename_i e
        split at h1
        . exact Or.inr ⟨x,by simp,hr,e,by simpa using h1⟩
        . cases h1
      . exact Or.inl h1
    . exact Or.inl h1
  . exact Or.inr ⟨y,by simp[hy],h2⟩
def knows(N:Nat)(vs:List Vw)(i:Nat):List Int:=xn vs (yz vs [i]) (List.replicate N (-1))
theorem wK(N:Nat)(vs:List Vw)(i:Nat):(knows N vs i).length=N:=by unfold knows;rw[kN];simp
theorem knows_hit{N:Nat}{vs:List Vw}(h:Wf N vs){i c:Nat}(hi:i<vs.length)(hc:c∈yz vs [i])(hr:(zZ vs c).r=0):(knows N vs i)[(zZ vs c).p.toNat]?=J (zZ vs c).i:=by
 have hb:=vb (h.begv (qD.1 hc).1);refine Qy _ _ hc hr (by simp;omega) fun x hx pl e=>?_
 have di:=vb (h.begv (qD.1 hx).1);exact past_cons h hi hx hc (by omega) (by rw[hr,pl])
theorem knows_from{N:Nat}{vs:List Vw}{i p:Nat}{u:Int}(hu:u≠-1)(h:(knows N vs i)[p]?=J u):∃x,x∈yz vs [i]/\(zZ vs x).r=0/\(zZ vs x).p.toNat=p/\(zZ vs x).i=u:=by
 rcases YZ _ _ h with h1 | h1
 . rw[NY] at h1
   split at h1
   . cases h1;exact absurd rfl hu
   cases h1
 exact h1
end
section
def Good(vs:List Vw)(v:Vw):Prop:=v.r=0\/∀q:Nat,q<5->v.h q=-1\/∃u,At vs (v.h q) u/\u.p=(q:Int)/\u.r=v.r-1
theorem Good.mono{vs us:List Vw}{v:Vw}(h:Good vs v):Good (vs++us) v:=by
 rcases h with h | h
 . exact .inl h
 refine .inr fun q hq=>?_
 rcases h q hq with h | ⟨u,h1,h2⟩
 . exact .inl h
 exact .inr ⟨u,h1.mono,h2⟩
def InvT(vs:List Vw):Prop:=∀i (h:i<vs.length),Good (vs.take i) vs[i]
theorem InvT.put{vs:List Vw}{v:Vw}(h:InvT vs)(hv:Good vs v):InvT (qu vs v).1:=by
 unfold qu
 split
 . exact h
 intro i hi;have tl:i<vs.length+1:=by simpa using hi
 by_cases e:i<vs.length
 . have h1:=h i e
   show Good ((vs++[v]).take i) (vs++[v])[i];rw[PA (by omega),PP e];exact h1
 obtain rfl:i=vs.length:=by omega
 show Good ((vs++[v]).take vs.length) (vs++[v])[vs.length];rw[PA (Le _),LC,N5 (Le _)];simpa using hv
theorem InvT.row{vs:List Vw}{f:Nat->Vw}(h:InvT vs):∀m,(∀p,p<m->Good vs (f p))->InvT (yH f vs m).1
 | 0,_=>h
 | m+1,hf=>by
  rw[yH];dsimp only;refine(h.row m fun p hp=>hf p (by omega)).put ?_;obtain⟨us,e⟩:=vm f vs m;rw[e];exact(hf m (by omega)).mono
theorem Xk(vs:List Vw)(n:Nat)(inp:List Int)(word:List Rd)(k q:Nat):(fV vs n inp word k q).p=(q:Int)/\(fV vs n inp word k q).r=(k:Int):=by
 cases k with
 | zero=>exact⟨rfl,rfl⟩
 | succ k=>exact⟨rfl,rfl⟩
theorem fV_h(vs:List Vw)(n:Nat)(inp:List Int)(word:List Rd)(k q j:Nat)(hj:j<5):(fV vs n inp word (k+1) q).h j=-1\/(j<n/\(fV vs n inp word (k+1) q).h j=(uh vs n inp word k).getD j 0):=by
 show(qy (word.getD k default) (k+1) q (uh vs n inp word k)).h j=-1\/_;have e:(fV vs n inp word (k+1) q).h j=yo (word.getD k default) q (uh vs n inp word k) j:=jV _ _ _ _ j hj;rw[jV _ _ _ _ j hj,e];unfold yo
 split
 . rename_i h
   rw[jD] at h;exact .inr ⟨h.1,rfl⟩
 exact .inl rfl
theorem InvT.play{vs:List Vw}(n:Nat)(inp:List Int)(word:List Rd)(h:InvT vs):∀j,InvT (zI vs n inp word j).1
 | 0=>by rw[zI];exact h.row n fun p _=>.inl rfl
 | j+1=>by
  have ih:=h.play n inp word j;rw[zI];refine ih.row n fun p hp=>.inr fun q hq=>?_
  have hh:=fV_h vs n inp word j p q hq;have e:fV vs n inp word (j+1) p=qy (word.getD j default) (j+1) p ((zI vs n inp word j).2.getD j []):=rfl;rw[e] at hh;rcases hh with hh | ⟨h1,h2⟩
  . exact .inl hh
  . refine .inr ⟨fV vs n inp word j q,?_,(Xk ..).1,?_⟩
    . rw[h2];exact vX vs n inp word j j q (Le _) h1
    . rw[(Xk ..).2];show(j:Int)=((j+1:Nat):Int)-1;omega
theorem InvT.run(p:Pb)(l:List (Nat×List Rd)):InvT (zK p l).1:=by
 have key:∀n,n<=l.length->InvT (zK p (l.take n)).1:=by
  intro n
  induction n with
  | zero=>intro _ i hi;simp[jB] at hi
  | succ n ih=>
   intro hn;rw[Lr (by omega),qz];exact(ih (by omega)).play _ _ _ _
 have h:=key l.length (Le _);rwa[LC] at h
theorem wS{t:Tk}:∀ {q:Option Cs} {l:List Cs},kE t q l=0->∀c∈l,zR c.inp t.n t.ins=0
 | _,[],_,c,hc=>by cases hc
 | q,d::l,h,c,hc=>by
  rw[kE] at h
  split at h
  . rename_i h1;exact absurd h h1
  . rename_i h1
    rcases LL.1 hc with rfl | hc
    . have h2:qS t q c=0:=by simpa using h1
      unfold qS at h2
      split at h2
      . rename_i h3;exact absurd h2 h3
      . rename_i h3;simpa using h3
    . exact wS h c hc
theorem task_vec{t:Tk}(h:xD t=0):∀c∈t.cases,(c.inp.length:Int)=t.n/\∀i∈c.inp,0<=i/\i<8:=by
 unfold xD at h
 split at h
 . cases h
 rename_i hb
 split at h
 . cases h
 intro c hc;have h4:=wS (by unfold xS at h;rwa[Nc] at h) c hc;unfold zR at h4
 split at h4
 . cases h4
 rename_i h5
 split at h4
 . cases h4
 rename_i h6;refine⟨by simpa using h5,fun i hi=>?_⟩;have h7:¬kZ t.ins i=AA:=fun e=>h6 (NK.2 ⟨i,hi,e⟩)
 unfold kZ at h7;have h8:¬(i<0\/t.ins<=i):=by simpa using h7
 omega
theorem consB_pw{vs:List Vw}:∀ {l:List Nat},(l.Pairwise fun a b=>uB vs a b=AC)->Xn vs l=AA
 | [],_=>rfl
 | a::l,h=>by
  obtain⟨h1,h2⟩:=Np.1 h;unfold Xn;rw[consB_pw h2,Bool.and_true,LT];exact fun b hb=>by rw[h1 b hb];rfl
theorem wV{vs:List Vw}{i:Int}{v:Vw}(h:At vs i v):zZ vs i.toNat=v:=by
 unfold zZ;rw[Lk,h.2];rfl
theorem pastL_lt(vs:List Vw)(l:List Nat):(yz vs l).Pairwise (·<·):=(List.pairwise_lt_range (n:=vs.length)).filter _
theorem built_wf{p:Pb}{K N:Nat}(h0:zY p=0)(hF:Fine (yu p) K N):Wf (yu p).n (yu p).vs:=by
 obtain⟨mP,su,mQ,dh,oF⟩:=yf h0;have hvec:=task_vec mP;obtain⟨f1,f2,f3⟩:=Yr p (zD p);have Ra:InvT (yu p).vs:=InvT.run p (zD p);have hN:(yu p).n=(N:Int):=hF.n;have IY:p.t.n.toNat=N:=by have:p.t.n=(N:Int):=hF.pn;omega
 have h1N:=hF.n1;have h5N:=hF.n5;refine⟨by omega,by omega,fun i hi=>?_⟩;have hg:zZ (yu p).vs i=(yu p).vs[i]:=j5 hi;obtain⟨v,hv⟩:=Ki ((yu p).vs[i]);have ld:=Ra i hi;rw[hv] at hg ld;have dx:v∈(yu p).vs:=by rw[<-hv];exact Ld hi
 obtain⟨⟨pv,hp1,ti⟩,⟨rv,lk,ef⟩,an⟩:=hF.vs v dx;obtain⟨y,hy,lj,k,q,hk,hq,e,us,fF⟩:=f2 v dx
 have VL:∃c∈p.t.cases,yt p y.1=c.inp:=by
  unfold zD at hy;obtain⟨d,hd,hy⟩:=NJ.1 hy;obtain⟨w',lX,rfl⟩:=LZ.1 hy;have Wk:d<p.t.cases.length:=by simpa using hd
  refine⟨p.t.cases[d],Ld Wk,?_⟩;show(p.t.cases.getD d default).inp=_;rw[Lk,Ln Wk];rfl
 obtain⟨c,hc,hcin⟩:=VL;obtain⟨aP,Wl⟩:=hvec c hc
 have bL:∀k' q',k'<=y.2.length->q'<N->At (yu p).vs ((uh lj p.t.n.toNat (yt p y.1) y.2 k').getD q' 0) (fV lj p.t.n.toNat (yt p y.1) y.2 k' q'):=fun k' q' a b=>by
  show At (zK p (zD p)).1 _ _;rw[fF];exact(vX lj p.t.n.toNat (yt p y.1) y.2 y.2.length k' q' a (by omega)).mono
 have ST:begE (yu p).n v=0:=by
  have lM:=Xk lj p.t.n.toNat (yt p y.1) y.2 k q;rw[<-e] at lM;unfold begE;rw[Lg,Lg,Lg]
  . intro hh
    rw[NK] at hh;obtain⟨j,hj,hb⟩:=hh;have Iv:j<5:=by simpa using hj
    unfold begBad at hb;have ag:v.h j≠-1/\(v.r=0\/(yu p).n<=(j:Int)):=by simpa using hb
    cases k with
    | zero=>
     have:v.h j=-1:=by
      rw[e]
      match j,Iv with
      | 0,_=>rfl
      | 1,_=>rfl
      | 2,_=>rfl
      | 3,_=>rfl
      | 4,_=>rfl
     exact ag.1 this
    | succ k=>
     have hh:=fV_h lj p.t.n.toNat (yt p y.1) y.2 k q j Iv;rw[<-e] at hh;rcases hh with hh | ⟨hh,_⟩
     . exact ag.1 hh
     . rcases ag.2 with h | h
       . have:=lM.2;omega
       . omega
  . rintro⟨h1,h2⟩
    apply h2;rw[e]
    cases k with
    | zero=>have:=lM.2;omega
    | succ k=>rfl
  unfold begOut
  have h3:v.r=0->0<=v.i/\v.i<8:=fun hr=>by
   have dh:k=0:=by have:=lM.2;omega
   subst dh;rw[e];have oB:q<c.inp.length:=by omega
   have h9:(yt p y.1).getD q 0=c.inp[q]:=by rw[hcin,Lk,Ln oB];rfl
   have oG:=Wl _ (Ld oB);rw[<-h9] at oG;exact oG
  have h6:=hF.k6;simp only[decide_eq_true_eq];omega
 have hchk:jf (yu p).n ((yu p).vs.take i) v=0:=by
  by_cases OW:v.r=0
  . unfold jf;rw[Li (.inr OW)];exact ST
  have Pi:∀q,q<5->YW ((yu p).vs.take i) v q=0:=fun j hj=>by
   unfold YW;rcases ld with h | h
   . exact absurd h OW
   . rcases h j hj with h | ⟨u,h1,h2,h3⟩
     . rw[Li h]
     . have aa:=h1.lt
       rw[Lg (by omega),Lg (by omega),wV h1,Lg (by omega)]
  unfold jf;rw[Lg (by intro h;rcases h with h | h;exact h ST;exact OW h),Lg (by rw[gR.2 Pi];simp)];obtain⟨u,hu,_,_⟩:=an (by omega);rw[Lg (by have:=hu.1;omega),Li]
  -- what is reached lies in one execution
  have iG:∀a,a<i->zZ ((yu p).vs.take i) a=zZ (yu p).vs a:=fun a ha=>jI ha
  let S:Nat->Prop:=fun a=>∃k' q':Nat,k'<=y.2.length/\q'<N/\((a:Nat):Int)=(uh lj p.t.n.toNat (yt p y.1) y.2 k').getD q' 0
  have Wp:XV ((yu p).vs.take i):=fun a ha b hb=>by
   have iK:a<i/\a<(yu p).vs.length:=by rw[N8] at ha;omega
   rw[iG a iK.1,j5 iK.2] at hb;obtain⟨g1,j,hj,g2,rfl⟩:=jG.1 hb;rcases Ra a iK.2 with h | h
   . omega
   . rcases h j hj with h | ⟨u,h1,_⟩
     . omega
     . have:=h1.lt;rw[N8] at this;omega
  have tZ:∀w k' q',k'<=y.2.length->q'<N->w=fV lj p.t.n.toNat (yt p y.1) y.2 k' q'->∀b,b∈xE w->S b:=fun w k' q' fm OX ew b hb=>by
   obtain⟨g1,j,hj,g2,rfl⟩:=jG.1 hb
   cases k' with
   | zero=>rw[ew] at g1;exact absurd g1 (by show ¬(0:Int)<0;omega)
   | succ k'=>
    have hh:=fV_h lj p.t.n.toNat (yt p y.1) y.2 k' q' j hj;rw[<-ew] at hh;rcases hh with hh | ⟨h1,h2⟩
    . omega
    . exact⟨k',j,by omega,by omega,by omega⟩
  have hS:∀a,a<((yu p).vs.take i).length->S a->∀b,b∈xE (zZ ((yu p).vs.take i) a)->S b:=fun a ha hSa b hb=>by
   have iK:a<i:=by rw[N8] at ha;omega
   obtain⟨k',q',h1,h2,h3⟩:=hSa;rw[iG a iK] at hb;refine tZ _ k' q' h1 h2 ?_ b hb;have h4:=wV (bL k' q' h1 h2);rw[<-h3,Lo] at h4;exact h4
  have dm:∀x,x∈yz ((yu p).vs.take i) (xE v)->S x/\x<i:=fun x hx=>by
   obtain⟨g1,c',MS,hre⟩:=kT.1 hx;have hSc:=tZ v k q hk (by omega) e c' MS
   have hcl':c'<((yu p).vs.take i).length:=by
    obtain⟨g1,j,hj,g2,rfl⟩:=jG.1 MS;rcases ld with h | h
    . exact absurd h OW
    . rcases h j hj with h | ⟨u,h1,_⟩
      . omega
      . have:=h1.lt;omega
   exact⟨Jd Wp hS hcl' hSc hre,by rw[N8] at g1;omega⟩
  refine consB_pw ?_;refine List.Pairwise.imp_of_mem (fun {a b} ha hb iA=>?_) (pastL_lt _ _);obtain⟨⟨k1,q1,a1,a2,a3⟩,a4⟩:=dm a ha;obtain⟨⟨k2,q2,b1,b2,b3⟩,b4⟩:=dm b hb;unfold uB;rw[RF];rintro⟨e1,e2⟩;rw[iG a a4,iG b b4] at e1 e2;have h4:=wV (bL k1 q1 a1 a2);rw[<-a3,Lo] at h4;have h5:=wV (bL k2 q2 b1 b2);rw[<-b3,Lo] at h5;rw[h4,h5,(Xk ..).1,(Xk ..).1] at e1;rw[h4,h5,(Xk ..).2,(Xk ..).2] at e2;obtain rfl:q1=q2:=by omega
  obtain rfl:k1=k2:=by omega
  rw[<-b3] at a3;omega
 unfold rowE;rw[hg,Lg (by rw[hchk];simp),Lg];intro hm;obtain⟨a,ha,ea⟩:=LI hm;rw[Ph] at ea;have iK:a<i:=by rw[N8] at ha;omega
 have fR:i<(zK p (zD p)).1.length:=hi;have:=nodup_idx f3 (show a<(zK p (zD p)).1.length by omega) fR (ea.trans hv.symm);omega
end
section
open Go.RowKit
theorem hrd_reach{s:Sy}{K N:Nat}(hF:Fine s K N)(hw:Wf s.n s.vs)(hl:LowV s.vs):∀i,i<s.vs.length->∃S:Nat,(qK s.vs s.vs.length).getD i 0=(S:Int)/\S<32/\∀o,o<5->(S.testBit o=AA↔∃j,j<s.vs.length/\kA s.vs i j=AA/\(zZ s.vs j).r=0/\(zZ s.vs j).p=(o:Int)):=by
 have fl:=hF.n5;have oN:=QD hl (fun v hv=>by obtain⟨⟨p,h1,h2⟩,_⟩:=hF.vs v hv;exact⟨p,h1,by omega⟩);intro i
 induction i using Nat.strongRecOn with
 | ind i ih=>
  intro hi;obtain⟨⟨p,hp,pm⟩,⟨r,hr,_⟩,an⟩:=hF.vs _ (Ld hi);obtain⟨S,e,hS,hb⟩:=vA hl hi hp (by omega) (fun j hj=>oN j (by omega));have hg:=j5 hi;refine⟨S,e,hS,fun o ho=>(hb o ho).trans ?_⟩
  have kid:∀q,q<5->0<s.vs[i].r->0<=s.vs[i].h q->(s.vs[i].h q).toNat∈xE (zZ s.vs i)/\(s.vs[i].h q).toNat<i:=fun q hq h0 h1=>by
   refine⟨by rw[hg];exact jG.2 ⟨h0,q,hq,h1,rfl⟩,?_⟩;have:=hl i hi q hq;omega
  constructor
  . rintro(rfl | ⟨h0,q,hq,h1,T,eT,hT⟩)
    . by_cases h0:0<s.vs[i].r
      . obtain⟨u,hu,hup,_⟩:=an h0
        have aa:=hu.lt;have ep:s.vs[i].p.toNat=o:=by rw[hp];rfl
        rw[ep] at hu aa;obtain⟨k1,k2⟩:=kid o ho h0 aa.1;obtain⟨T,eT,_,hT⟩:=ih _ k2 (by omega);have hgu:=wV hu;obtain⟨S',e',_,di⟩:=vA hl (i:=(s.vs[i].h o).toNat) (by omega) (p:=o) (by rw[<-j5 (by omega),hgu,hup,hp]) ho (fun j hj=>oN j (by omega))
        have dt:T.testBit o=AA:=by
         have:S'=T:=by rw[e'] at eT;omega
         rw[<-this];exact(di o ho).2 (.inl rfl)
        obtain⟨j,j1,j2,j3,j4⟩:=(hT o ho).1 dt;exact⟨j,j1,(qh hw.acyc hi).2 (.inr ⟨_,k1,j2⟩),j3,j4⟩
      . exact⟨i,hi,reach_self _ _,by rw[hg];omega,by rw[hg];exact hp⟩
    . obtain⟨k1,k2⟩:=kid q hq h0 h1
      obtain⟨T',WH,_,hT'⟩:=ih _ k2 (by omega);have:T=T':=by rw[WH] at eT;omega
      subst this;obtain⟨j,j1,j2,j3,j4⟩:=(hT' o ho).1 hT;exact⟨j,j1,(qh hw.acyc hi).2 (.inr ⟨_,k1,j2⟩),j3,j4⟩
  . rintro⟨j,j1,j2,j3,j4⟩
    rcases(qh hw.acyc hi).1 j2 with rfl | ⟨c,hc,hcj⟩
    . rw[hg] at j4
      exact .inl (by omega)
    . rw[hg] at hc
      obtain⟨h0,q,hq,h1,rfl⟩:=jG.1 hc;obtain⟨_,k2⟩:=kid q hq h0 h1;obtain⟨T,eT,_,hT⟩:=ih _ k2 (by omega);exact .inr ⟨h0,q,hq,h1,T,eT,(hT o ho).2 ⟨j,j1,hcj,j3,j4⟩⟩
theorem hrd_known{s:Sy}{K N:Nat}(hF:Fine s K N)(hw:Wf s.n s.vs)(hl:LowV s.vs){i o:Nat}(hi:i<s.vs.length)(ho:o<N) :
  decide (0<=(xn s.vs (yz s.vs [i]) (List.replicate N (-1))).getD o 0)=((qK s.vs s.vs.length).getD i 0).toNat.testBit o:=by
 have hn:=hF.n;have fl:=hF.n5;rw[hn] at hw;obtain⟨S,e,_,hb⟩:=hrd_reach hF (by rw[hn];exact hw) hl i hi;rw[e,Lo];have aS:(xn s.vs (yz s.vs [i]) (List.replicate N (-1))).length=N:=wK N s.vs i
 have hk:∀u,(xn s.vs (yz s.vs [i]) (List.replicate N (-1)))[o]?=J u->(0<=u↔S.testBit o=AA):=fun u hu=>by
  constructor
  . intro h0
    obtain⟨x,x1,x2,x3,_⟩:=knows_from (N:=N) (vs:=s.vs) (i:=i) (p:=o) (u:=u) (by omega) hu;obtain⟨y1,y2⟩:=qD.1 x1;have di:=vb (hw.begv y1);exact(hb o (by omega)).2 ⟨x,y1,y2,x2,by omega⟩
  . intro h0
    obtain⟨j,j1,j2,j3,j4⟩:=(hb o (by omega)).1 h0;have h1:=knows_hit hw hi (qD.2 ⟨j1,j2⟩) j3;have di:=vb (hw.begv j1);have e2:(zZ s.vs j).p.toNat=o:=by omega
    rw[e2] at h1;have h2:(knows N s.vs i)[o]?=J u:=hu;rw[h1] at h2;have:=di.2.2.2.2.1 j3
    cases h2
    exact this.1
 have h1:o<(xn s.vs (yz s.vs [i]) (List.replicate N (-1))).length:=by omega
 have h2:=hk _ (Ln h1);rw[Lk,Ln h1];simp only[Option.getD_some]
 by_cases hc:S.testBit o=AA
 . rw[hc,Lm (h2.2 hc)]
 have:S.testBit o=AC:=by simpa using hc
 rw[this,Lj (fun h=>hc (h2.1 h))]
theorem keep10{W0 X:Ba}{B g b o0 o1 o2 o3 o4 o5 o6 o7:Nat}{u0 u1 u2 u3 u4 u5 u6 u7 u8 u9:Ax}(hb:Ar B W0 X)(hg:g<B)(aY:b<B)
  (h:W0.cell? ⟨g,0,Z⟩=J u0/\W0.cell? ⟨g,1,Z⟩=J u1/\W0.cell? ⟨b,o0,Z⟩=J u2/\W0.cell? ⟨b,o1,Z⟩=J u3/\W0.cell? ⟨b,o2,Z⟩=J u4 /\
   W0.cell? ⟨b,o3,Z⟩=J u5/\W0.cell? ⟨b,o4,Z⟩=J u6/\W0.cell? ⟨b,o5,Z⟩=J u7/\W0.cell? ⟨b,o6,Z⟩=J u8/\W0.cell? ⟨b,o7,Z⟩=J u9) :
  X.cell? ⟨g,0,Z⟩=J u0/\X.cell? ⟨g,1,Z⟩=J u1/\X.cell? ⟨b,o0,Z⟩=J u2/\X.cell? ⟨b,o1,Z⟩=J u3/\X.cell? ⟨b,o2,Z⟩=J u4 /\
   X.cell? ⟨b,o3,Z⟩=J u5/\X.cell? ⟨b,o4,Z⟩=J u6/\X.cell? ⟨b,o5,Z⟩=J u7/\X.cell? ⟨b,o6,Z⟩=J u8/\X.cell? ⟨b,o7,Z⟩=J u9:=by
 obtain⟨h0,h1,h2,h3,h4,h5,h6,h7,h8,h9⟩:=h;exact⟨(hb.cell hg).trans h0,(hb.cell hg).trans h1,(hb.cell aY).trans h2,(hb.cell aY).trans h3,(hb.cell aY).trans h4,(hb.cell aY).trans h5,(hb.cell aY).trans h6,(hb.cell aY).trans h7,(hb.cell aY).trans h8,(hb.cell aY).trans h9⟩
theorem keep3{W0 X:Ba}{B g b o0:Nat}{u0 u1 u2:Ax}(hb:Ar B W0 X)(hg:g<B)(aY:b<B)
  (h:W0.cell? ⟨g,0,Z⟩=J u0/\W0.cell? ⟨g,1,Z⟩=J u1/\W0.cell? ⟨b,o0,Z⟩=J u2) :
  X.cell? ⟨g,0,Z⟩=J u0/\X.cell? ⟨g,1,Z⟩=J u1/\X.cell? ⟨b,o0,Z⟩=J u2:=by
 obtain⟨h0,h1,h2⟩:=h;exact⟨(hb.cell hg).trans h0,(hb.cell hg).trans h1,(hb.cell aY).trans h2⟩
def ju(n:Nat)(vs:List Vw)(i:Nat):Prop:=∀(A:Bb) (cap:Nat) (w:Ba),TAg w A vs ->
 As Aq 177 #[Ak #[O U n,I A vs.length cap],O U i] w (ug (xa (yz vs [i])) w)
def XB(n:Nat)(vs:List Vw)(v:Vw):Prop:=∀(A:Bb) (cap:Nat) (w:Ba),TAg w A vs ->
 As Aq 190 #[Ak #[O U n,I A vs.length cap],.agg v.cells] w (ug (xa (yz vs (xE v))) w)
theorem castL_kids(v:Vw):xa (xE v)=(uQ v).map (·.2):=by
 unfold xa xE;rw[P4];refine N3 fun x hx=>?_
 obtain⟨_,q,_,rfl,h0⟩:=uO.1 hx;simp;omega
theorem JK(n:Nat)(vs:List Vw)(i:Nat)(hi:i<vs.length)(ha:XV vs)(hb:XB n vs (zZ vs i)):ju n vs i:=by
 intro A cap w hT;have HP:=zH (past_self ha hi);rw[j5 hi] at HP hb;have HBS:=zH hb;have HT:=zH hT;have nS:=hT.few;go_enter func177,ntmps177;go_upto_region 1 with fail
 go_cut [4] (fun s4 wx=>Own wx w.heap.size s4 (xa (yz vs [i]))/\Ar w.heap.size w wx)
 case first=>
  refine wp_one ?_;intro W0 b0 aX ce;have Td:=HT.out.keep ce;obtain⟨t0,t1,_⟩:=Ka b0;have We:(0:Int)<=(i:Int):=by omega
  have hi1:(i:Int)<(vs.length:Int):=by omega
  obtain⟨b,off,rfl,aq,c0,c1,c2,c3,c4,c5,c6,c7⟩:=Td.rows.row i hi;have hTX:∀X:Ba,Ar W0.heap.size W0 X->TAg X (J ⟨b,off,Z⟩) vs:=fun X hX=>Td.keep hX
  have HTX:=zH hTX;have aQ:w.heap.size<W0.heap.size:=by omega
  clear aX
  go_region_held3 (fun w'=>w'.cell? ⟨w.heap.size,0,Z⟩=J (O U n)/\w'.cell? ⟨w.heap.size,1,Z⟩=J (I (J ⟨b,off,Z⟩) vs.length cap) /\
    w'.cell? ⟨b,off+i*8,Z⟩=J (O U vs[i].p)/\w'.cell? ⟨b,off+i*8+1,Z⟩=J (O U vs[i].r)/\w'.cell? ⟨b,off+i*8+2,Z⟩=J (O U vs[i].i) /\
    w'.cell? ⟨b,off+i*8+3,Z⟩=J (O U vs[i].h0)/\w'.cell? ⟨b,off+i*8+4,Z⟩=J (O U vs[i].h1)/\w'.cell? ⟨b,off+i*8+5,Z⟩=J (O U vs[i].h2) /\
    w'.cell? ⟨b,off+i*8+6,Z⟩=J (O U vs[i].h3)/\w'.cell? ⟨b,off+i*8+7,Z⟩=J (O U vs[i].h4))
   (first
    | exact⟨t0,t1,c0,c1,c2,c3,c4,c5,c6,c7⟩
    | (refine keep10 (W0 := W0) (B := W0.heap.size) ?_ aQ aq ⟨t0, t1, c0, c1, c2, c3, c4, c5, c6, c7⟩
       first
        | exact(ye W0 _).drew
        | exact kF dp
        | exact(kF dp).alloc (kF dp).size _
        | exact((kF dp).alloc (kF dp).size _).trans (ag.mono (by have:=(kF dp).size;simp;omega))
        | exact(ye W0 _).trans ((kF dp).mono (by simp))
        | exact((ye W0 _).trans ((kF dp).mono (by simp))).trans (ag.mono (by have:=(kF dp).size;simp at this;omega))))
   (first
    | (go_at_call 190;refine(HBS.out _ _ _ (HTX.out _ (by repeat (first | exact Ll _ _ | refine Below.drew ?_ | refine zP ?_ _ | refine Below.alloc ?_ (by simp) _)))).mono ?_;rintro e w1 ⟨v1,rfl,mR,dp⟩;obtain⟨A1,c1',rfl,DK,po,Re⟩:=mR.form)
    | (go_at_call 189;refine(X5 _ _ _ _ (xa (yz vs (xE vs[i]))) [(i:Int)] _ (by first | exact Re.up (ye _ _) | exact Re) (by first | exact IAt.box _ _ _ | exact(IAt.box W0 _ _).up (kF dp)) DK (Le 1) po (by unfold maxLen;omega) (by rw[qF];have:=Xx vs.length (fun x=>(xE vs[i]).any fun c=>kA vs c x);simp;omega)).mono ?_;rintro e w2 ⟨v2,rfl,mB,ag⟩))
  all_goals
   go_wp2_with fail
   go_meet
  . have hp:=YL mB ag ((ce.trans ((kF dp).mono (PK aQ))).alloc (by have:=(kF dp).size;omega) _)
    rw[HP.out] at hp;exact hp
  have hp:=YL mB ag (ce.trans (((ye W0 _).trans ((kF dp).mono (by simp))).mono (PK aQ)));rw[HP.out] at hp;exact hp
 obtain⟨h1,h2⟩:=hcut;go_wp2;go_ret;exact⟨_,rfl,h1,h2⟩
theorem before_of(n:Nat)(hn:n<=5)(vs:List Vw)(v:Vw)(_hk:∀c,c∈xE v->c<vs.length)(hh:yI v n=uQ v)(hc:∀c,c∈xE v->ju n vs c):XB n vs v:=by
 intro A cap w hT;have HC:=zH hc;have HT:=zH hT;have nS:=hT.few;have HH:=zH hh
 have p':(xE v).length<=5:=by
  unfold xE uQ yI;rw[LJ]
  split
  . exact Lz (List.length_filterMap_le _ _) (by simp)
  simp
 unfold Vw.cells;go_enter func190,ntmps190;go_wp2_with fail;refine(rheard_any n (I A vs.length cap) v _ hn).mono ?_;rintro e w1 ⟨v1,rfl,mR,aq⟩;rw[HH.out,<-castL_kids] at mR;obtain⟨A1,c1,rfl,DK,po,hi1⟩:=mR.form;rw[xM];go_wp2_with fail;obtain⟨b0,b1,aX,bP⟩:=two_kept aq;have hO1:=zH mR;have na:=zH hi1;have MX:=zH (HT.out.keep bP)
 go_loopw [5,7] (fun o i wr=>∃k:Nat,k<=(xE v).length/\i=O U k/\Own wr w1.heap.size o (xa (yz vs ((xE v).take k)))/\Ar w1.heap.size w1 wr) (fun _ i _=>(xE v).length-(Au i).toNat)
 case atStart=>exact⟨0,by omega,rfl,by rw[L1,show xa (yz vs [])=[] from by simp[yz,xa]];exact Own.nil _ _,Ll _ _⟩
 obtain⟨k,hk,rfl,an,aL⟩:=hrel;have hO:=zH an;have hBL:=zH aL
 by_cases aa:k<(xE v).length
 . have d0:=jN b0 aL (by omega)
   obtain⟨t0,t1,_⟩:=Ka d0;obtain⟨b,off,rfl,aq,c0⟩:=(na.out.up aL).at_ k (by rw[xM];exact aa);obtain⟨c,AG⟩:∃c,c=(xE v)[k]:=⟨_,rfl⟩;have rf:(xa (xE v))[k]'(by rw[xM];exact aa)=(c:Int):=by simp[xa,AG]
   rw[rf] at c0;have mV:c∈xE v:=by rw[AG];exact Ld aa
   have tZ:=HC.out c mV;have HK:=zH tZ;have hTr:=MX.out.keep aL;have HTX:Aw (∀X:Ba,Ar wr.heap.size wr X->TAg X A vs):=fun X hX=>hTr.keep hX
   have OM:Aw (xa (yz vs ((xE v).take (k+1)))=yr (xa (yz vs ((xE v).take k))) (xa (yz vs [c]))):=by
    show _=_;rw[Lr aa,<-AG,past_snoc]
   have dh:(0:Int)<=(k:Int):=by omega
   have aW:(k:Int)<((xE v).length:Int):=by omega
   have ie:w.heap.size<wr.heap.size:=by have:=aL.size;omega
   obtain⟨A5,c5,rfl,hle5,oD,MP⟩:=an.form;have se:=zH MP;clear AG rf tZ hTr an aL MP hk mV;go_wp2_with fail
   go_region_held3 (fun w'=>w'.cell? ⟨w.heap.size,0,Z⟩=J (O U n)/\w'.cell? ⟨w.heap.size,1,Z⟩=J (I A vs.length cap)/\w'.cell? ⟨b,off+k,Z⟩=J (O U c))
    (first
     | exact⟨t0,t1,c0⟩
     | (refine keep3 (W0:=wr) (B:=wr.heap.size) ?_ ie aq ⟨t0,t1,c0⟩;first | exact kF dp | exact(kF dp).trans (ag.mono (kF dp).size)))
    (first
     | (go_at_call 177;refine(HK.out _ _ _ (HTX.out _ (by repeat (first | exact Ll _ _ | refine Below.drew ?_ | refine zP ?_ _ | refine Below.alloc ?_ (by simp) _)))).mono ?_;rintro e w2 ⟨v2,rfl,mB,dp⟩;obtain⟨A2,c2,rfl,hle2,fC,tl⟩:=mB.form)
     | (go_at_call 189;refine(X5 _ _ _ _ (xa (yz vs ((xE v).take k))) (xa (yz vs [c])) _ (se.out.up (kF dp)) tl hle5 hle2 oD fC (by have:=YK vs ((xE v).take k);have:=YK vs [c];omega)).mono ?_;rintro e w3 ⟨v3,rfl,mc,ag⟩))
   go_wp2_with fail;have hp:=YL mc ag (hBL.out.trans ((kF dp).mono hBL.out.size));rw[<-OM.out] at hp
   go_roundw
   case rel=>exact⟨k+1,by omega,by go_num,hp.1,hp.2⟩
   simp[Au];omega
 obtain rfl:k=(xE v).length:=by omega
 rw[LC] at hO;go_wp2_with fail;go_ret;exact⟨_,rfl,hO.out.low (by omega),bP.trans (hBL.out.mono (by omega))⟩
theorem kids_lt{n:Nat}{vs:List Vw}{v:Vw}(h:jf (n:Int) vs v=0)(hn:n<=5):(∀c,c∈xE v->c<vs.length)/\yI v n=uQ v:=by
 refine⟨fun c hc=>(kid_ok h hc).1,?_⟩;have hb:=vb (ue h).1
 have key:∀m,n<=m->m<=5->yI v m=yI v n:=by
  intro m
  induction m with
  | zero => intro h1 _; obtain rfl : n = 0 := by omega
            rfl
  | succ m ih=>
   intro h1 h2
   by_cases e:n=m+1
   . subst e;rfl
   . rw[Y7,ih (by omega) (by omega)]
     rintro⟨_,h4⟩;have:=(hb.2.2.2.2.2.2 m (by omega) (by omega)).2;omega
 exact(key 5 hn (Le 5)).symm
theorem XR{n:Nat}{vs:List Vw}(h:Wf (n:Int) vs):∀i,i<vs.length->ju n vs i:=by
 intro i
 induction i using Nat.strongRecOn with
 | _ i ih=>
  intro hi;have hr:=(Ja (h.2.2 i hi)).1;have hk:=kids_lt hr (by have:=h.2.1;omega);refine JK n vs i hi h.acyc (before_of n (by have:=h.2.1;omega) vs _ (fun c hc=>?_) hk.2 (fun c hc=>?_))
  . have:=hk.1 c hc;simp at this;omega
  . have:=h.acyc i hi c hc
    exact ih c this (by omega)
theorem make_row(n:Nat)(h1:1<=n)(h5:n<=5)(W:Ba):(Instr.makeSlice 36 (O U n) (O U n)).run Aq W=.ok (I (J ⟨W.heap.size,0,Z⟩) n n) (W.alloc (Ai ((List.replicate n 0).map (O U)).toArray 3)):=by
 obtain rfl | rfl | rfl | rfl | rfl:n=1\/n=2\/n=3\/n=4\/n=5:=by omega
 all_goals kernel_rfl
theorem all_minus{xs:List Int}{n:Nat}(hl:xs.length=n)(h:∀j,j<n->xs[j]?=J (-1)):xs=List.replicate n (-1):=by
 refine Sp fun j=>?_
 by_cases hj:j<n
 . rw[h j hj];simp[hj]
 rw[RO (by omega),RO (by simp;omega)]
theorem known_any(n:Nat)(A:Bb)(cap:Nat)(vs:List Vw)(hw:Wf (n:Int) vs)(i:Nat)(hi:i<vs.length)(w:Ba)(hT:TAg w A vs) :
  As Aq 154 #[Ak #[O U n,I A vs.length cap],O U i] w (ug (xn vs (yz vs [i]) (List.replicate n (-1))) w):=by
 have HT:=zH hT;have HW:=zH hw;have nS:=hT.few;have cU:1<=n:=by have:=hw.1;omega
 have fl:n<=5:=by have:=hw.2.1;omega
 go_enter func154,ntmps154;have eq:=make_row n cU fl;obtain⟨ar,pC⟩:=Ki (((List.replicate n 0).map (O U)).toArray);rw[pC] at eq;have Ml:=zH pC;clear pC;go_wp2_with fail;obtain⟨W0,dN,b0,b1,aX,ce⟩:=twoboxes w #[O U n,I A vs.length cap] ar 32 3;rw[dN];clear dN eq;obtain⟨g5,dv⟩:∃g5,g5=w.heap.size+1:=⟨_,rfl⟩;rw[<-dv] at b1 ⊢;have b2:RowAt W0 g5 (List.replicate n 0):=by unfold RowAt;rw[Ml.out];exact b1
 have ie:w.heap.size<g5:=by omega
 have HG5:=zH dv;clear dv
 go_loopw [6] (fun l wr=>∃(k:Nat) (xs:List Int),k<=n/\l=O U k/\xs.length=n/\RowAt wr g5 xs/\Aw (∀j,j<k->xs[j]?=J (-1))/\wr.heap[w.heap.size]?=J (Ai #[O U n,I A vs.length cap] 32 (0,0))/\Ar w.heap.size w wr) (fun l _=>n-(Au l).toNat)
 case atStart=>exact⟨0,List.replicate n 0,by omega,rfl,by simp,b2,fun j hj=>absurd hj (by omega),b0,ce⟩
 obtain⟨k,xs,hk,rfl,ed,aR,O9,Dt,aL⟩:=hrel;have t0:=zh Dt 0 rfl;have RW:=zH aR;have TB:=zH Dt;have BL:=zH aL;have XL:=zH ed
 by_cases aa:k<n
 . obtain⟨u0,r0⟩:∃u:Int,wr.cell? ⟨g5,k,Z⟩=J (O U u):=⟨_,aR.cell k (by omega)⟩
   have f0:=aR.froz k;have l0:=aR.lt;clear aR Dt aL ed;go_wp2_with fail
   go_roundw
   case rel=>exact⟨k+1,xs.set k (-1),by omega,by go_num,by simp[XL.out],RW.out.set k (-1),fun j hj=>by
     rw[P6]
     split
     . rename_i e;subst e;simp[XL.out,aa]
     . exact O9.out j (by omega),(Lh _ _ _ _ (by simp;omega)).trans TB.out,BL.out.grown (zV wr g5 k _) (by have:=BL.out.size;omega) (fun r e=>by cases e;omega)⟩
   simp[Au];omega
 obtain rfl:k=n:=by omega
 have Ow:=all_minus XL.out O9.out;rw[Ow] at RW;clear aR Dt ed t0;obtain⟨t0,t1,_⟩:=Ka TB.out;go_wp2_with fail;refine(XR HW.out i hi A cap wr (HT.out.keep aL)).mono ?_;rintro e W3 ⟨v3,rfl,mc,aj⟩;obtain⟨P3,c3,rfl,SM,hc32,lA⟩:=mc.form;rw[xM] at SM mc;have hlg:g5<wr.heap.size:=RW.out.lt;have R3:RowAt W3 g5 (List.replicate k (-1)):=Lb aj hlg RW.out;have T3:=zH (Lb aj (by omega) TB.out);have B3:=zH (Lc BL.out aj);have O3:=zH mc;have I3:=zH lA;have sz3:=aj.size;have aU:(yz vs [i]).length<=vs.length:=by have:=YK vs [i];rwa[xM] at this
 have dx:=zH (fun x (hx:x∈yz vs [i])=>(kT.1 hx).1);obtain⟨ls,pu⟩:=Ki (yz vs [i]);rw[xM,pu];rw[pu] at SM I3 O3 aU dx;have Cp:=zH pu;clear pu mc lA t0 t1 aL aj;go_wp2_with fail
 go_loopw [8] (fun l Ok=>∃k':Nat,k'<=ls.length/\l=O U k'/\RowAt Ok g5 (xn vs (ls.take k') (List.replicate k (-1)))/\W3.grownBy Ok (J g5)) (fun l _=>ls.length-(Au l).toNat)
 case atStart=>exact⟨0,by omega,rfl,by simpa[xn] using R3,Ro _ _⟩
 obtain⟨k',fm,rfl,Ez,lP⟩:=hrel;have RW':=zH Ez;have BW:Aw (Ar w.heap.size w wr):=B3.out.grown lP (by have:=B3.out.size;omega) (fun r e=>by cases e;omega)
 by_cases cB:k'<ls.length
 . have hx:=dx.out ls[k'] (Ld cB)
   have hks:=zH (knowL_step vs ls k' cB (List.replicate k (-1)));obtain⟨x,lK⟩:=Ki (ls[k']);rw[lK] at hx hks;have aS:(xa ls).length=ls.length:=xM ls;obtain⟨b3,off3,rfl,aj,hc3⟩:=I3.out.at_ k' (by omega);have RQ:g5+1<=b3:=by have:=(O3.out.lt b3 rfl).1;omega
   have hcx:(xa ls)[k']'(by omega)=(x:Int):=by simp[xa,lK]
   rw[hcx] at hc3;have r3:=(LH (lP.block b3 aj (by simp;omega))).trans hc3;obtain⟨b,off,rfl,aY,c0,c1,c2,c4,c5,c6,c7,c8⟩:=(HT.out.rows.keep BW.out).row x hx;have t1:wr.cell? ⟨w.heap.size,1,Z⟩=J (I (J ⟨b,off,Z⟩) vs.length cap):=zh ((lP.block w.heap.size (zj T3.out) (by simp;omega)).trans T3.out) 1 rfl;have bk:b<wr.heap.size:=by have:=BW.out.size;omega
   have mW:w.heap.size<wr.heap.size:=by have:=lP.size;omega
   have hb3w:b3<wr.heap.size:=by have:=lP.size;omega
   have tg:(0:Int)<=(x:Int):=by omega
   have aK:(x:Int)<(vs.length:Int):=by omega
   have dh:(0:Int)<=(k':Int):=by omega
   have aW:(k':Int)<(ls.length:Int):=by omega
   have Mb:=zH lP;have WV:=zH lK;have HV:=zH (j5 hx);clear lP lK aS hcx hc3 Ez;go_upto_region 10 with fail
   go_region_held3 (fun w'=>w'.cell? ⟨w.heap.size,1,Z⟩=J (I (J ⟨b,off,Z⟩) vs.length cap)/\w'.cell? ⟨b3,off3+k',Z⟩=J (O U (x:Int)) /\
     w'.cell? ⟨b,off+x*8,Z⟩=J (O U vs[x].p)/\w'.cell? ⟨b,off+x*8+1,Z⟩=J (O U vs[x].r)/\w'.cell? ⟨b,off+x*8+2,Z⟩=J (O U vs[x].i) /\
     w'.cell? ⟨b,off+x*8+3,Z⟩=J (O U vs[x].h0)/\w'.cell? ⟨b,off+x*8+4,Z⟩=J (O U vs[x].h1)/\w'.cell? ⟨b,off+x*8+5,Z⟩=J (O U vs[x].h2) /\
     w'.cell? ⟨b,off+x*8+6,Z⟩=J (O U vs[x].h3)/\w'.cell? ⟨b,off+x*8+7,Z⟩=J (O U vs[x].h4))
    (first
     | exact⟨t1,r3,c0,c1,c2,c4,c5,c6,c7,c8⟩
     | exact⟨(L3 _ _ _ mW).trans t1,(L3 _ _ _ hb3w).trans r3,(L3 _ _ _ bk).trans c0,(L3 _ _ _ bk).trans c1,(L3 _ _ _ bk).trans c2,(L3 _ _ _ bk).trans c4,(L3 _ _ _ bk).trans c5,(L3 _ _ _ bk).trans c6,(L3 _ _ _ bk).trans c7,(L3 _ _ _ bk).trans c8⟩)
    (fail)
   have Wn:=vb (by have:=HW.out.begv hx;rwa[j5 hx] at this);obtain⟨q,hq⟩:=Lp Wn.1;have CL:q<k:=by have:=Wn.2.1;omega
   have hqt:vs[x].p.toNat=q:=by omega
   obtain⟨W1,eO⟩:=Ki ((wr.alloc (Ai vs[x].cells 111)).drew);have z1:W1.heap[wr.heap.size]?=J (Ai vs[x].cells 111 (0,0)):=by rw[<-eO];exact zy wr _
   have zB:Ar wr.heap.size wr W1:=by rw[<-eO];exact(ye wr _).drew
   have zs:wr.heap.size<W1.heap.size:=zj z1;have zr:RowAt W1 g5 (xn vs (ls.take k') (List.replicate k (-1))):=(zB.block g5 RW'.out.lt).trans RW'.out;have zG:Aw (W3.grownBy W1 (J g5)):=Mb.out.trans ⟨zB.os,zB.tape,zB.output,zB.size,fun j hj _=>zB.block j hj⟩;have y0:W1.cell? ⟨wr.heap.size,0,Z⟩=J (O U (q:Int)):=by rw[<-hq];exact zh z1 0 rfl
   have y1:W1.cell? ⟨wr.heap.size,1,Z⟩=J (O U vs[x].r):=zh z1 1 rfl;have y2:W1.cell? ⟨wr.heap.size,2,Z⟩=J (O U vs[x].i):=zh z1 2 rfl;have bY:(xn vs (ls.take k') (List.replicate k (-1))).length=k:=by rw[kN];simp
   obtain⟨u0,r0⟩:∃u:Int,W1.cell? ⟨g5,q,Z⟩=J (O U u):=⟨_,zr.cell q (by omega)⟩;have f0:=zr.froz q;have l0:=zr.lt;have ZR:=zH zr;unfold Vw.cells at eO;rw[eO];have UA:=zH hqt;clear eO z1 zB Wn hq hqt zr t1 r3 c0 c1 c2 c4 c5 c6 c7 c8 bY
   by_cases hr:vs[x].r=0
   . have e1:(vs[x].r==0)=AA:=by simp[hr]
     have fh:Aw (xn vs (ls.take (k'+1)) (List.replicate k (-1))=(xn vs (ls.take k') (List.replicate k (-1))).set q vs[x].i):=by
      show _=_;rw[hks.out,HV.out,Li hr,UA.out]
     clear hr;go_wp2_with fail
     go_roundw
     case rel=>exact⟨k'+1,by omega,by go_num,by rw[fh.out];exact ZR.out.set q _,zG.out.trans (zV _ g5 q _)⟩
     simp[Au];omega
   have e1:(vs[x].r==0)=AC:=by simp[hr]
   have fh:Aw (xn vs (ls.take (k'+1)) (List.replicate k (-1))=xn vs (ls.take k') (List.replicate k (-1))):=by
    show _=_;rw[hks.out,HV.out,Lg hr]
   clear hr;go_wp2_with fail
   go_roundw
   case rel=>exact⟨k'+1,by omega,by go_num,by rw[fh.out];exact ZR.out,zG.out⟩
   simp[Au];omega
 obtain rfl:k'=ls.length:=by omega
 go_wp2_with fail;go_ret;have bY:(xn vs ls (List.replicate k (-1))).length=k:=by rw[kN];simp
 have Dz:=RW'.out;rw[LC] at Dz;have an:=Dz.own (base:=w.heap.size) (by omega) (by rw[bY];unfold maxLen;omega);rw[bY] at an;refine⟨_,rfl,?_,BW.out⟩;rw[Cp.out];exact an
end
section
open Go.RowKit Go.Shelf
attribute [local go_sem] Oper.semAt_some
structure AtrW(s:Sy)(K N:Nat)(out:List Int)(h:Fh):Prop where
 fine:Fine s K N
 sees:Sees s K N
 wf:Wf s.n s.vs
 low:LowV s.vs
 inp:∀c∈s.p.t.cases,c.inp.length=N
 out:0<out.length->out.length=s.vs.length
 ok:AtmOk N h
theorem rtrue_any(s:Sy)(K N:Nat)(out:List Int)(f:Fm)(hW:AtrW s K N out f.h)(i:Nat)(hi:i<ptn s)(A SV AV AX AR AF:Bb)(kc ks kv kx cr cf:Nat)(w:Ba)(hS:SyAt w w.heap.size A SV AV AX s)(hO:IAt w w.heap.size AR out) :
  As Aq 116 #[.agg (s.vs_ A kc SV ks AV kv AX kx),Ak #[I AR out.length cr],.agg (f.vs AF cf),O U (i:Int)] w fun e w'=>e=Am (Aj (xN s out f.h (i / (K+1),i % (K+1))))/\Ar w.heap.size w w':=by
 obtain⟨wa,dU,da,fG,ik⟩:=zk w (s.vs_ A kc SV ks AV kv AX kx) 35;obtain⟨wb,en,db,fi,fb⟩:=zk wa #[I AR out.length cr] 38;obtain⟨w1,ab,dc,ns,eF⟩:=zk wb (f.vs AF cf) 41;have hB:Ar w.heap.size w w1:=(ik.trans (fb.mono (by omega))).trans (eF.mono (by omega));have da:w1.heap[w.heap.size]?=J (Ai (s.vs_ A kc SV ks AV kv AX kx) 35 (0,0)):=Lb eF (by omega) (Lb fb (by omega) da);have db:w1.heap[w.heap.size+1]?=J (Ai #[I AR out.length cr] 38 (0,0)):=by rw[<-fG];exact Lb eF (by omega) db
 have dc:w1.heap[w.heap.size+1+1]?=J (Ai (f.vs AF cf) 41 (0,0)):=by rw[<-fG,<-fi];exact dc
 have hF:=hW.fine;have hSe:=hW.sees;have hk:=hF.k;have fl:=hF.n5;have hn:ptn s=s.xs.length*(K+1):=by unfold ptn;rw[hk];rfl
 have hq:i / (K+1)<s.xs.length:=by rw[hn,Pv] at hi;exact RU hi
 have hr:i % (K+1)<=K:=by have:=Nat.mod_lt i (show 0<K+1 by omega);omega
 have AP:=hS.up hB;have HP:=zH (Zm s K N hF i hi A SV AV AX kc ks kv kx w1 AP.fx);have nC:=zH (fun (q:Nat) (EA:q<N) (X:Ba) (hX:Ar w1.heap.size w1 X)=>Qd s K N hF i q hi EA A SV AV AX kc ks kv kx X (AP.up hX).fx)
 have lq:∀q,(jr s q).getD i 0=xw (s.xs.getD (i / (K+1)) default) (i % (K+1)) q:=fun q=>by
  have mC:i<(jr s q).length:=by rw[Z1];exact hi
  rw[xL mC,keyL_at,hk,Lo]
 have sc:=zH (fun (u:Nat) (hu:u<s.vs.length) (X:Ba) (hX:Ar w1.heap.size w1 X)=>known_any N AV kv s.vs (by rw[<-hF.n];exact hW.wf) u hu X ⟨(AP.up hX).fv,by have:=hF.lv;omega⟩);have iX:=zH (fun (u o:Nat) (hu:u<s.vs.length) (ho:o<N)=>hrd_known hF hW.wf hW.low hu ho);obtain⟨c,hc,aP,_⟩:=hSe.cs _ (Ld hq);obtain⟨bc,oc,A3,c3,A4,c4,A5,c5,eC,hbc,y0,_,_,hI,_,_⟩:=AP.fc.row c aP;subst eC;have dm:yt s.p c=s.p.t.cases[c].inp:=by unfold yt;rw[Lk,Ln aP];rfl
 have mC:(yt s.p c).length=N:=by rw[dm];exact hW.inp _ (Ld aP)
 rw[<-dm,mC] at y0;rw[<-dm] at hI
 have mz:∀q,q<N->∃u:Nat,xw s.xs[i / (K+1)] (i % (K+1)) q=(u:Int)/\u<s.vs.length:=fun q EA=>by
  obtain⟨v,hv,_⟩:=hSe.pr (Ld hq) hr EA;have aa:=hv.lt;obtain⟨u,hu⟩:=Lp aa.1;exact⟨u,hu,by omega⟩
 have pR:=(hF.word _ (Ld hq)).1
 have pA:∀r∈s.xs[i / (K+1)].word,∃F:Nat,r.f=(F:Int)/\F<32:=fun r hrm=>by
  obtain⟨lk,ef⟩:=(hF.word _ (Ld hq)).2 r hrm;exact QN lk ef fl
 have hcI:(s.xs.getD (i / (K+1)) default).c.toNat=c:=by rw[zt hq,hc];rfl
 obtain⟨E,hE⟩:=Ki (xN s out f.h (i / (K+1),i % (K+1)));have HE:=zH hE.symm;rw[hE];unfold xN at HE;dsimp only at HE;rw[hcI] at HE;rw[zt hq] at HP HE;obtain⟨e,he⟩:=Ki (i / (K+1));obtain⟨k,DL⟩:=Ki (i % (K+1));simp only[he,DL] at HP HE hq hr lq mz pR pA hc hcI;have EJ:∀q,(jr s q).getD i 0=xw s.xs[e] k q:=fun q=>by rw[lq,zt hq]
 simp only[EJ] at nC;obtain⟨x,hx⟩:=Ki (s.xs[e]);rw[hx] at HP HE pR pA hc;simp only[hx] at nC mz;rw[hc] at HP;have fB:=hW.ok;obtain⟨⟨op,hp,ho,hv,hg⟩,l⟩:=f;have aF:=fB.op0;have hop6:=fB.op6;have mH:=zH fB;have HO:=zH hW.out;have HI:=zH hI;obtain⟨L,hL⟩:=Ki (yt s.p c);rw[hL] at HE HI mC;have UN:=zH mC;simp only[Fm.vs,Fm.args,Fm.h] at ab dc HE aF hop6 mH ⊢;have DW:=hF.n;unfold Sy.vs_ at dU da HP nC ⊢;rw[DW] at dU da HP nC ⊢;have ai:Aw (((w.alloc (Ai #[O U s.p.t.n,O U s.p.t.ins,O U s.p.t.outs,I (J ⟨bc,oc,Z⟩) s.p.t.cases.length kc,O U s.p.a.n,I SV s.p.a.sts.length ks,O U s.p.k,O U (N:Int),I AV s.vs.length kv,I AX s.xs.length kx] 35)).alloc (Ai #[I AR out.length cr] 38)).alloc (Ai #[O U op,O U hp,O U ho,O U hv,O U hg,I AF l.length cf] 41)=w1):=by rw[Aw,dU,en,ab]
 have HB:=zH hB
 have aV:Aw (∀X,Ar w1.heap.size w1 X->X.heap[w.heap.size]?=J (Ai #[O U s.p.t.n,O U s.p.t.ins,O U s.p.t.outs,I (J ⟨bc,oc,Z⟩) s.p.t.cases.length kc,O U s.p.a.n,I SV s.p.a.sts.length ks,O U s.p.k,O U (N:Int),I AV s.vs.length kv,I AX s.xs.length kx] 35 (0,0))/\X.heap[w.heap.size+1]?=J (Ai #[I AR out.length cr] 38 (0,0))/\X.heap[w.heap.size+1+1]?=J (Ai #[O U op,O U hp,O U ho,O U hv,O U hg,I AF l.length cf] 41 (0,0))):=
  fun X hX=>⟨Lb hX (by omega) da,Lb hX (by omega) db,Lb hX (by omega) dc⟩
 have HY0:Aw (∀X,Ar w1.heap.size w1 X->X.cell? ⟨bc,oc+c*3,Z⟩=J (I A3 N c3)/\IAt X X.heap.size A3 L/\IAt X X.heap.size AR out):=fun X hX=>⟨(hX.cell (p:=⟨bc,oc+c*3,Z⟩) hbc).trans y0,(HI.out.keep hX).more hX.size,(((hO.keep hB).more hB.size).keep hX).more hX.size⟩
 have pI:=zH mz;have Dg:=zH pA;have C':=zH pR;have pB:(0:Int)<=(c:Int):=by omega
 have hc1:(c:Int)<(s.p.t.cases.length:Int):=by omega
 have PZ:Aw (k<=K/\K<=6):=⟨hr,hF.k6⟩;have Tx:=zH fl;have p4:=zh ((aV.out w1 (Ll _ _)).1) 4 rfl;have p5:=zh ((aV.out w1 (Ll _ _)).1) 5 rfl;have p6:=zh ((aV.out w1 (Ll _ _)).1) 6 rfl;have p7:=zh ((aV.out w1 (Ll _ _)).1) 7 rfl;have p8:=zh ((aV.out w1 (Ll _ _)).1) 8 rfl;have p9:=zh ((aV.out w1 (Ll _ _)).1) 9 rfl;have r0:=zh (aV.out w1 (Ll _ _)).2.1 0 rfl;obtain⟨f0,f1,f2,f3,f4,f5,_⟩:=Kg ((aV.out w1 (Ll _ _)).2.2);clear dU en ab da db dc fG fi ns ik fb eF hB hF hSe hk hn hq hr AP hS hO lq EJ dm mC hcI hI hL hx hc hE hW mz pA pR he DL hi DW fB y0 HI fl;go_enter func116,ntmps116;go_wp2_with fail;rw[ai.out];go_wp2_with fail;refine HP.out.mono ?_;rintro e' w2 ⟨A1,c1,A2,c2,rfl,I4,nB,ag⟩;have G2:=zH ag;have dk:=zH nB;have eQ:=ag.size;clear HP ai I4 nB ag p4 p5 p6 p7 p8 p9 r0 f0 f1 f2 f3 f4 f5;go_upto_region 2 with fail
 obtain⟨W3,fU,d3,eK,aj⟩:=zk w2 #[O U (c:Int),I A1 x.word.length c1,I A2 x.views.length c2] 58;rw[fU];have G3:=zH (G2.out.trans (aj.mono eQ));have ir:=zH (dk.out.keep (aj.mono eQ));have sY:Aw (∀X,Ar W3.heap.size W3 X->X.heap[w2.heap.size]?=J (Ai #[O U (c:Int),I A1 x.word.length c1,I A2 x.views.length c2] 58 (0,0))):=fun X hX=>Lb hX (by omega) d3
 have sr:w1.heap.size<=W3.heap.size:=G3.out.size;obtain⟨y0,lA,M4⟩:=HY0.out W3 G3.out;have mK:=zH lA;have fw:=zH M4;obtain⟨p0,p1,p2,p3,p4,p5,p6,p7,p8,p9⟩:=zN ((aV.out W3 G3.out).1);have r0:=zh (aV.out W3 G3.out).2.1 0 rfl;obtain⟨f0,f1,f2,f3,f4,f5,_⟩:=Kg ((aV.out W3 G3.out).2.2);obtain⟨x0,x1,x2,_⟩:=Kc (d3);have G4:=zH (Lc HB.out G3.out);clear fU d3 aj lA M4 G2 dk eQ HY0;rcases(by omega:op=0\/op=1\/op=2\/op=3\/op=4\/op=5\/op=6) with rfl | rfl | rfl | rfl | rfl | rfl | rfl
 . have aH:Aw (E=AA):=by refine HE.out.trans ?_;refine(Li rfl).trans ?_;rfl
   clear nC sc iX pI Dg C' mH HO HE;go_wp2_with fail;go_ret;rw[aH.out];exact⟨rfl,G4.out⟩
 . obtain⟨fj,pm⟩:=mH.out.p (.inl rfl)
   dsimp only at fj pm;obtain⟨q,rfl⟩:=Lp fj;have VR:q<L.length:=by rw[UN.out];omega
   obtain⟨b4,o4,rfl,aG,z4⟩:=mK.out.at_ q VR;obtain⟨y,hy⟩:=Ki (L[q]'VR);rw[hy] at z4;have aH:Aw (E=decide (y=hv)):=by refine HE.out.trans ?_;refine(Lg (by decide)).trans ?_;refine(Li rfl).trans ?_;exact RG.2 (by rw[Lo,zt VR,hy])
   clear nC sc iX pI Dg C' mH HO HE mK fw hy VR;go_wp2_with fail;go_quiet (fail);go_wp2_with fail;go_ret;rw[aH.out];exact⟨by first | rfl | simp[go_sem],by first | exact G4.out | exact zP G4.out _⟩
 . have aH:Aw (E=decide (hv∈L)):=by refine HE.out.trans ?_;refine(Lg (by decide)).trans ?_;refine(Lg (by decide)).trans ?_;refine(Li rfl).trans ?_;rfl
   clear nC sc iX pI Dg C' mH HO HE;have HD:=zH (fun (X:Ba) (hX:Ar W3.heap.size W3 X)=>zh ((aV.out X (G3.out.trans (hX.mono sr))).2.2) 3 rfl);go_wp2_with fail
   go_loopw [12] (fun j wr=>∃m:Nat,m<=N/\j=O U (m:Int)/\Aw (∀j (h:j<L.length),j<m->¬L[j]=hv)/\Aw (Ar W3.heap.size W3 wr)) (fun j _=>N-(Au j).toNat)
   case atStart=>exact⟨0,by omega,rfl,fun j _ h=>absurd h (by omega),Ll _ _⟩
   obtain⟨m,hm,rfl,eM,ay⟩:=hrel;clear p4 p5 p6 p7 p8 p9 r0 f0 f1 f2 f3 f4 f5 x0 x1 x2 y0
   by_cases aa:m<N
   . have fa:m<L.length:=by rw[UN.out];exact aa
     obtain⟨b4,o4,rfl,aG,z4⟩:=((mK.out.keep ay.out).more ay.out.size).at_ m fa;obtain⟨y,hy⟩:=Ki (L[m]'fa);rw[hy] at z4;have WQ:=zH hy;have f3:=HD.out wr ay.out;have lf3:=zj (aV.out wr (G3.out.trans (ay.out.mono sr))).2.2;have lO:(0:Int)<=(m:Int):=by omega
     have po:(m:Int)<(N:Int):=by omega
     have fC:IntKind.i64.wrap ((m:Int)+1)=((m+1:Nat):Int):=by rw[Ls];have:=Tx.out;omega
     clear hy
     by_cases VK:y=hv
     . have hyb:decide (y=hv)=AA:=Lm VK
       have dm:Aw (decide (hv∈L)=AA):=Lm (by rw[<-VK,<-WQ.out];exact Ld fa);have dR:=zH (Lc G4.out ay.out);clear eM WQ;go_wp2_with fail;go_quiet (fail);go_wp2_with fail;go_ret;rw[aH.out,dm.out];exact⟨rfl,by first | exact dR.out | exact zP dR.out _⟩
     have hyb:decide (y=hv)=AC:=Lj VK
     have oR:Aw (∀j (h:j<L.length),j<m+1->¬L[j]=hv):=fun j h h2=>by
      by_cases e:j=m
      . subst e;rw[WQ.out];exact VK
      . exact eM.out j h (by omega)
     clear eM WQ;go_wp2_with fail;go_quiet (fail);go_wp2_with fail
     go_roundw
     case rel=>exact⟨m+1,by omega,by go_num,oR,zP ay.out _⟩
     simp[Au];omega
   obtain rfl:m=N:=by omega
   have po:¬(m:Int)<(m:Int):=by omega
   have dm:Aw (decide (hv∈L)=AC):=Lj fun h=>by
    obtain⟨j,hj,e⟩:=LI h;exact eM.out j hj (by rw[<-UN.out];exact hj) e
   have dR:=zH (Lc G4.out ay.out);clear eM;go_wp2_with fail;go_ret;rw[aH.out,dm.out];exact⟨rfl,dR.out⟩
 . obtain⟨fj,pm⟩:=mH.out.p (.inr (.inl rfl))
   obtain⟨VX,VU⟩:=mH.out.o rfl;dsimp only at fj pm VX VU;obtain⟨q,rfl⟩:=Lp fj;obtain⟨o',rfl⟩:=Lp VX;obtain⟨u,hu,so⟩:=pI.out q (by omega);have mM:=zH (nC.out q (by omega) W3.drew G3.out.drew);rw[hu] at mM;have cI:=zH (sc.out u so);have aH:Aw (E=((qK s.vs s.vs.length).getD u 0).toNat.testBit o'):=by refine HE.out.trans ?_;refine(Lg (by decide)).trans ?_;refine(Lg (by decide)).trans ?_;refine(Lg (by decide)).trans ?_;refine(Li rfl).trans ?_;rw[Lo,hu,Lo,Lo]
   have cJ:=zH (iX.out u o' so (by omega));unfold ug at cI;obtain⟨kl,bY⟩:=Ki (xn s.vs (yz s.vs [u]) (List.replicate N (-1)));have PO:kl.length=N:=by rw[<-bY];exact wK N s.vs u
   rw[bY] at cI cJ;rw[<-aH.out] at cJ;have mJ:=zH PO;have hoN0:(o':Int)<(N:Int):=VU;clear nC sc iX pI Dg C' HO HE mK fw aH hu bY PO pm fj VU;have I6:=zH (aV.out W3.drew G3.out.drew);go_upto_region 16 with fail
   refine zw [(0,AA),(1,AA),(2,AA),(3,AA),(4,AA),(5,AA),(8,AA),(9,AA),(6,AC),(7,AC),(10,AC),(11,AC),(12,AC),(13,AC)] (fun X=>X.heap[w.heap.size]?=J (Ai #[O U s.p.t.n,O U s.p.t.ins,O U s.p.t.outs,I (J ⟨bc,oc,Z⟩) s.p.t.cases.length kc,O U s.p.a.n,I SV s.p.a.sts.length ks,O U s.p.k,O U (N:Int),I AV s.vs.length kv,I AX s.xs.length kx] 35 (0,0))/\X.heap[w.heap.size+1]?=J (Ai #[I AR out.length cr] 38 (0,0))/\X.heap[w.heap.size+1+1]?=J (Ai #[O U (3:Int),O U (q:Int),O U (o':Int),O U hv,O U hg,I AF l.length cf] 41 (0,0))) (by kernel_rfl) (by kernel_rfl) I6.out ?_
   repeat
    apply zA rfl
    . rintro K' ac X ⟨u1,u2,u3⟩
      obtain⟨p0,p1,p2,p3,p4,p5,p6,p7,p8,p9⟩:=zN (u1);have r0:=zh u2 0 rfl;obtain⟨f0,f1,f2,f3,f4,f5,_⟩:=Kg (u3);clear u1 u2 u3;go_simp;exact ac
   refine zx rfl ?_;intro K' ac;go_simp;refine mM.out.mono ?_;rintro e' w5 ⟨rfl,aA⟩;have G5:=zH (G3.out.drew.trans (aA.mono (show w1.heap.size<=W3.drew.heap.size from G3.out.size)));have lL:w1.heap.size<=w5.heap.size:=G5.out.size;refine ac _ _ (aV.out w5 G5.out) ?_;clear ac K' aA mM;refine zx rfl ?_;intro K' ac;go_simp;refine(cI.out w5 G5.out).mono ?_;rintro e' w6 ⟨v6,rfl,CM,cX⟩;have G6:=zH (G5.out.trans (cX.mono lL));obtain⟨A6,c6,rfl,_,_,h6⟩:=CM.form;have VW:o'<kl.length:=by rw[mJ.out];omega
   obtain⟨g6,og6,rfl,MJ,z0⟩:=h6.at_ o' VW;obtain⟨y,hy⟩:=Ki (kl[o']'VW);rw[hy] at z0
   have hyE:Aw (decide (y>=0)=E):=by
    rw[Aw,<-cJ.out,zt VW,hy]
   have oJ:=zH (aV.out w6 G6.out);have aS:((xa []).length)=0:=rfl;refine ac _ _ oJ.out ?_;clear ac K' cX cI CM h6 hy VW aS;rw[mJ.out];refine zx rfl ?_;intro K' ac;go_simp;refine ac _ _ oJ.out ?_;clear ac K';refine zx rfl ?_;intro K' ac;go_simp;refine ac _ _ oJ.out ?_;clear ac K';refine zx rfl ?_;intro K' ac;go_simp;refine ac _ _ oJ.out ?_;clear ac K';refine zx rfl ?_;intro K' ac;go_simp;refine ac _ _ oJ.out ?_;clear ac K';refine zO ?_;have dR:=zH (Lc HB.out G6.out);clear oJ z0;go_wp2_with fail;go_ret;rw[<-hyE.out];exact⟨rfl,dR.out⟩
 . obtain⟨fj,pm⟩:=mH.out.p (.inr (.inr (.inl rfl)))
   dsimp only at fj pm;obtain⟨q,rfl⟩:=Lp fj;have Ie:q<5:=by have:=Tx.out;omega
   have aH:Aw (E=(decide (0<k)&&((x.word.getD (k-1) default).f).toNat.testBit q)):=by refine HE.out.trans ?_;refine(Lg (by decide)).trans ?_;refine(Lg (by decide)).trans ?_;refine(Lg (by decide)).trans ?_;refine(Lg (by decide)).trans ?_;refine(Li rfl).trans ?_;rw[Lo]
   by_cases Pr:0<k
   case neg=>
    have ij:Aw (E=AC):=by rw[Aw,aH.out,Lj Pr];rfl
    have aW:decide ((k:Int)>0)=AC:=Lj (by omega);have iH:¬(0:Int)<(k:Int):=by omega
    clear nC sc iX pI Dg C' mH HO HE mK fw aH;go_wp2_with fail;go_quiet (fail);go_wp2_with fail;go_ret;rw[ij.out];exact⟨rfl,by first | exact G4.out | exact zP G4.out _⟩
   obtain⟨k,rfl⟩:∃j,k=j+1:=⟨k-1,by omega⟩;have bY:k<x.word.length:=by rw[C'.out];have:=PZ.out;omega
   obtain⟨bw,ow,eW,aQ,v0,v1,v2,v3,v4,v5,v6⟩:=ir.out.row k bY;subst eW;obtain⟨F,I8,I9⟩:=Dg.out _ (Ld bY);rw[I8] at v6;have ij:Aw (E=F.testBit q):=by rw[Aw,aH.out,Lm (by omega),Nt,NT,zt bY,I8,Lo]
   have aW:decide (((k+1:Nat):Int)>0)=AA:=Lm (by omega);have iH:(0:Int)<((k+1:Nat):Int):=by omega
   have rM:IntKind.i64.wrap (((k+1:Nat):Int)-1)=(k:Int):=by rw[Ls];have:=PZ.out;omega
   have hk4:(0:Int)<=(k:Int):=by omega
   have p':(k:Int)<(x.word.length:Int):=by omega
   have sI:bw<W3.heap.size:=by omega
   obtain⟨kk,CN⟩:∃kk:Nat,k+1=kk:=⟨_,rfl⟩;have hkN:0<kk:=by omega
   rw[CN] at aW iH rM;clear nC sc iX pI Dg C' mH HO HE mK fw aH ir I8;simp only[CN];go_upto_region 18 with fail
   refine zw [(0,AA),(1,AA),(2,AA),(3,AA),(4,AA),(5,AA),(6,AA),(7,AA),(8,AA),(9,AA),(10,AA),(11,AA),(12,AC),(13,AA),(14,AA)] (fun X=>X=W3.drew) (by kernel_rfl) (by kernel_rfl) rfl ?_
   repeat
    apply zA rfl
    . rintro K' ac X rfl
      go_simp;exact ac
   refine zx rfl ?_;intro K' ac;go_simp;refine(jZ F q I9 Ie _).mono ?_;rintro e' w5 ⟨rfl,rfl⟩;refine ac _ _ rfl ?_;clear ac K'
   repeat
    apply zA rfl
    . rintro K' ac X rfl
      go_simp;exact ac
   refine zO ?_;go_wp2_with fail;go_ret;rw[ij.out];exact⟨rfl,G4.out.drew⟩
 . obtain⟨fj,pm⟩:=mH.out.p (.inr (.inr (.inr rfl)))
   dsimp only at fj pm;obtain⟨q,rfl⟩:=Lp fj;obtain⟨u,hu,so⟩:=pI.out q (by omega);have aH:Aw (E=(decide (0<out.length)&&decide (out.getD u 0=hv))):=by refine HE.out.trans ?_;refine(Lg (by decide)).trans ?_;refine(Lg (by decide)).trans ?_;refine(Lg (by decide)).trans ?_;refine(Lg (by decide)).trans ?_;refine(Lg (by decide)).trans ?_;refine(Li rfl).trans ?_;exact congrArg (decide (0<out.length)&&·) (RG.2 (by rw[Lo,hu,Lo]))
   by_cases O0:0<out.length
   case neg=>
    have ij:Aw (E=AC):=by rw[Aw,aH.out,Lj O0];rfl
    have aW:decide ((out.length:Int)>0)=AC:=Lj (by omega);have iH:¬(0:Int)<(out.length:Int):=by omega
    have rM:¬0<out.length:=O0;clear nC sc iX pI Dg C' mH HO HE mK fw aH;go_wp2_with fail;go_quiet (fail);go_wp2_with fail;go_ret;rw[ij.out];exact⟨rfl,by first | exact G4.out | exact zP G4.out _⟩
   have l7:=HO.out O0;have OI:u<out.length:=by omega
   have ij:Aw (E=decide (out[u]'OI=hv)):=by rw[Aw,aH.out,Lm O0,Nt,zt OI]
   have mM:=zH (nC.out q (by omega) W3.drew G3.out.drew);rw[hu] at mM;obtain⟨bo,oo,rfl,dF,zo⟩:=fw.out.at_ u OI;obtain⟨y,hy⟩:=Ki (out[u]'OI);rw[hy] at zo ij;have HZO:Aw (∀X,Ar W3.heap.size W3 X->X.cell? ⟨bo,oo+u,Z⟩=J (O U y)):=fun X hX=>(hX.cell (p:=⟨bo,oo+u,Z⟩) dF).trans zo
   obtain⟨no,eM⟩:=Ki out.length;rw[eM] at aV O0 OI ⊢;have aW:decide ((no:Int)>0)=AA:=Lm (by omega);have iH:(0:Int)<(no:Int):=by omega
   have H7:(0:Int)<=(u:Int):=by omega
   have Ds:(u:Int)<(no:Int):=by omega
   have I6:=zH (aV.out W3.drew G3.out.drew);clear nC sc iX pI Dg C' HO HE mK fw aH hu hy zo l7 pm fj;go_upto_region 20 with fail
   refine zw [(0,AA),(1,AA),(2,AA),(3,AA),(4,AA),(5,AA),(6,AA),(7,AA),(8,AA),(9,AA),(10,AA),(14,AA),(15,AA),(11,AC),(12,AC),(13,AC),(16,AC),(17,AC),(18,AC)] (fun X=>X.heap[w.heap.size]?=J (Ai #[O U s.p.t.n,O U s.p.t.ins,O U s.p.t.outs,I (J ⟨bc,oc,Z⟩) s.p.t.cases.length kc,O U s.p.a.n,I SV s.p.a.sts.length ks,O U s.p.k,O U (N:Int),I AV s.vs.length kv,I AX s.xs.length kx] 35 (0,0))/\X.heap[w.heap.size+1]?=J (Ai #[I (J ⟨bo,oo,Z⟩) no cr] 38 (0,0))/\X.heap[w.heap.size+1+1]?=J (Ai #[O U (5:Int),O U (q:Int),O U ho,O U hv,O U hg,I AF l.length cf] 41 (0,0))) (by kernel_rfl) (by kernel_rfl) I6.out ?_
   repeat
    apply zA rfl
    . rintro K' ac X ⟨u1,u2,u3⟩
      obtain⟨p0,p1,p2,p3,p4,p5,p6,p7,p8,p9⟩:=zN (u1);have r0:=zh u2 0 rfl;obtain⟨f0,f1,f2,f3,f4,f5,_⟩:=Kg (u3);clear u1 u2 u3;go_simp;exact ac
   refine zx rfl ?_;intro K' ac;go_simp;refine mM.out.mono ?_;rintro e' w5 ⟨rfl,aA⟩;have G5:=zH (G3.out.drew.trans (aA.mono (show w1.heap.size<=W3.drew.heap.size from G3.out.size)));have F5:Ar W3.heap.size W3 w5:=(Ll _ W3).drew.trans aA;have fX:=zH (aV.out w5 G5.out);have z0:=HZO.out w5 F5;refine ac _ _ fX.out ?_;refine zx rfl ?_;intro K' ac;go_simp;refine ac _ _ fX.out ?_;clear ac K';refine zx rfl ?_;intro K' ac;go_simp;refine ac _ _ fX.out ?_;clear ac K';refine zx rfl ?_;intro K' ac;go_simp;refine ac _ _ fX.out ?_;clear ac K';refine zx rfl ?_;intro K' ac;go_simp;refine ac _ _ fX.out ?_;clear ac K';refine zx rfl ?_;intro K' ac;go_simp;refine ac _ _ fX.out ?_;clear ac K';refine zO ?_;have dR:=zH (Lc HB.out G5.out);clear fX z0 HZO;go_wp2_with fail;go_ret;rw[ij.out];exact⟨by first | rfl | simp[go_sem],dR.out⟩
 have aH:Aw (E=decide ((k:Int)=hv)):=by refine HE.out.trans ?_;refine(Lg (by decide)).trans ?_;refine(Lg (by decide)).trans ?_;refine(Lg (by decide)).trans ?_;refine(Lg (by decide)).trans ?_;refine(Lg (by decide)).trans ?_;refine(Lg (by decide)).trans ?_;skip;rfl
 clear nC sc iX pI Dg C' mH HO HE;go_wp2_with fail;go_ret;rw[aH.out];exact⟨by first | rfl | simp[go_sem],G4.out⟩
end
section
open Go.RowKit
def fcK(R:Fm->Nat×Nat)(L:Nat)(l:List Fm)(k:Nat):Nat:=min (zX R (l.take k)).1 L
theorem fcK_zero(R:Fm->Nat×Nat){L:Nat}(h:1<=L)(l:List Fm):fcK R L l 0=1:=by
 unfold fcK;rw[L1];show min 1 L=1;omega
theorem fcK_step(R:Fm->Nat×Nat)(_hR:∀x,1<=(R x).1){L k:Nat}{l:List Fm}(hk:k<l.length)(h:fcK R L l k<L):fcK R L l (k+1)=fcK R L l k+min (R l[k]).1 (L-fcK R L l k):=by
 unfold fcK at *;rw[Lr hk,kS];dsimp only;omega
theorem fcK_end(R:Fm->Nat×Nat){L k:Nat}{l:List Fm}(h:l.length<=k\/L<=fcK R L l k):fcK R L l k=min (zX R l).1 L:=by
 unfold fcK at *;rcases h with h | h
 . rw[Nd h]
 have:=(kR R l k).1;omega
end
section
open Go.RowKit Go.Shelf
attribute [local go_sem] Oper.semAt_some
theorem zE(a b c:Int)(w:Ba):As Aq 111 #[O U a,O U b,O U c] w fun e w'=>e=Am (Aj (decide (b<=a/\a<=c)))/\w'=w:=by
 go_enter func111,ntmps111
 by_cases h1:b<=a
 . by_cases h2:a<=c
   . have e:decide (b<=a/\a<=c)=AA:=by simp[h1,h2]
     rw[e];go_wp2_with fail;go_ret;exact⟨rfl,rfl⟩
   have e:decide (b<=a/\a<=c)=AC:=by simp[h2]
   rw[e];go_wp2_with fail;go_ret;exact⟨rfl,rfl⟩
 have e:decide (b<=a/\a<=c)=AC:=by simp[h1]
 rw[e];go_wp2_with fail;go_ret;exact⟨rfl,rfl⟩
theorem rbig_any(n d:Nat)(w:Ba):As Aq 113 #[O U (n:Int),O U (d:Int)] w fun e w'=>e=Am (O U (jk (n,d)))/\w'=w:=by
 by_cases h1:128<n
 . have e:jk (n,d)=5:=Li h1
   have e1:(128:Int)<(n:Int):=by omega
   rw[e];go_enter func113,ntmps113;go_wp2_with fail;go_ret;exact⟨rfl,rfl⟩
 by_cases h2:24<d
 . have e:jk (n,d)=12:=by unfold jk;rw[Lg h1,Li h2]
   have e1:¬(128:Int)<(n:Int):=by omega
   have e2:(24:Int)<(d:Int):=by omega
   rw[e];go_enter func113,ntmps113;go_wp2_with fail;go_ret;exact⟨rfl,rfl⟩
 have e:jk (n,d)=0:=by unfold jk;rw[Lg h1,Lg h2]
 have e1:¬(128:Int)<(n:Int):=by omega
 have e2:¬(24:Int)<(d:Int):=by omega
 rw[e];go_enter func113,ntmps113;go_wp2_with fail;go_ret;exact⟨rfl,rfl⟩
theorem zL(op:Int)(h0:0<=op)(Na:op<=17)(w:Ba):As Aq 174 #[O U op] w fun e w'=>e=Am (O U (arN op))/\w'=w:=by
 go_enter func174,ntmps174;obtain rfl | rfl | rfl | rfl | rfl | rfl | rfl | rfl | rfl | rfl | rfl | rfl | rfl | rfl | rfl | rfl | rfl | rfl:op=0\/op=1\/op=2\/op=3\/op=4\/op=5\/op=6\/op=7\/op=8\/op=9\/op=10\/op=11\/op=12\/op=13\/op=14\/op=15\/op=16\/op=17:=by omega
 all_goals
  go_wp2_with fail;go_ret;exact⟨rfl,rfl⟩
theorem zz(op:Int)(h0:0<=op)(Na:op<=17)(w:Ba):As Aq 176 #[O U op] w fun e w'=>e=Am (O U (mxV op))/\w'=w:=by
 go_enter func176,ntmps176;obtain rfl | rfl | rfl | rfl | rfl | rfl | rfl | rfl | rfl | rfl | rfl | rfl | rfl | rfl | rfl | rfl | rfl | rfl:op=0\/op=1\/op=2\/op=3\/op=4\/op=5\/op=6\/op=7\/op=8\/op=9\/op=10\/op=11\/op=12\/op=13\/op=14\/op=15\/op=16\/op=17:=by omega
 all_goals
  go_wp2_with fail;go_ret;exact⟨rfl,rfl⟩
theorem J8(op:Int)(h0:0<=op)(Na:op<=17)(w:Ba):As Aq 175 #[O U op] w fun e w'=>e=Am (Ak #[Aj (usP op),Aj (usO op),Aj (usV op),Aj (usG op)])/\Ar w.heap.size w w':=by
 go_enter func175,ntmps175;obtain rfl | rfl | rfl | rfl | rfl | rfl | rfl | rfl | rfl | rfl | rfl | rfl | rfl | rfl | rfl | rfl | rfl | rfl:op=0\/op=1\/op=2\/op=3\/op=4\/op=5\/op=6\/op=7\/op=8\/op=9\/op=10\/op=11\/op=12\/op=13\/op=14\/op=15\/op=16\/op=17:=by omega
 . go_wp2_with fail
   obtain⟨W,hW,d0,_,hb⟩:=zk w #[Aj AC,Aj AC,Aj AC,Aj AC] 235;rw[hW];obtain⟨z0,z1,z2,z3,_⟩:=Kb d0;exact LG (v:=Ak #[Aj AC,Aj AC,Aj AC,Aj AC]) (by simp[results,results175,go_sem,z0,z1,z2,z3]) rfl ⟨rfl,hb⟩
 . go_wp2_with fail
   obtain⟨W,hW,d0,_,hb⟩:=zk w #[Aj AA,Aj AC,Aj AA,Aj AC] 235;rw[hW];obtain⟨z0,z1,z2,z3,_⟩:=Kb d0;exact LG (v:=Ak #[Aj AA,Aj AC,Aj AA,Aj AC]) (by simp[results,results175,go_sem,z0,z1,z2,z3]) rfl ⟨rfl,hb⟩
 . go_wp2_with fail
   obtain⟨W,hW,d0,_,hb⟩:=zk w #[Aj AC,Aj AC,Aj AA,Aj AC] 235;rw[hW];obtain⟨z0,z1,z2,z3,_⟩:=Kb d0;exact LG (v:=Ak #[Aj AC,Aj AC,Aj AA,Aj AC]) (by simp[results,results175,go_sem,z0,z1,z2,z3]) rfl ⟨rfl,hb⟩
 . go_wp2_with fail
   obtain⟨W,hW,d0,_,hb⟩:=zk w #[Aj AA,Aj AA,Aj AC,Aj AC] 235;rw[hW];obtain⟨z0,z1,z2,z3,_⟩:=Kb d0;exact LG (v:=Ak #[Aj AA,Aj AA,Aj AC,Aj AC]) (by simp[results,results175,go_sem,z0,z1,z2,z3]) rfl ⟨rfl,hb⟩
 . go_wp2_with fail
   obtain⟨W,hW,d0,_,hb⟩:=zk w #[Aj AA,Aj AC,Aj AC,Aj AC] 235;rw[hW];obtain⟨z0,z1,z2,z3,_⟩:=Kb d0;exact LG (v:=Ak #[Aj AA,Aj AC,Aj AC,Aj AC]) (by simp[results,results175,go_sem,z0,z1,z2,z3]) rfl ⟨rfl,hb⟩
 . go_wp2_with fail
   obtain⟨W,hW,d0,_,hb⟩:=zk w #[Aj AA,Aj AC,Aj AA,Aj AC] 235;rw[hW];obtain⟨z0,z1,z2,z3,_⟩:=Kb d0;exact LG (v:=Ak #[Aj AA,Aj AC,Aj AA,Aj AC]) (by simp[results,results175,go_sem,z0,z1,z2,z3]) rfl ⟨rfl,hb⟩
 . go_wp2_with fail
   obtain⟨W,hW,d0,_,hb⟩:=zk w #[Aj AC,Aj AC,Aj AA,Aj AC] 235;rw[hW];obtain⟨z0,z1,z2,z3,_⟩:=Kb d0;exact LG (v:=Ak #[Aj AC,Aj AC,Aj AA,Aj AC]) (by simp[results,results175,go_sem,z0,z1,z2,z3]) rfl ⟨rfl,hb⟩
 . go_wp2_with fail
   obtain⟨W,hW,d0,_,hb⟩:=zk w #[Aj AC,Aj AC,Aj AC,Aj AC] 235;rw[hW];obtain⟨z0,z1,z2,z3,_⟩:=Kb d0;exact LG (v:=Ak #[Aj AC,Aj AC,Aj AC,Aj AC]) (by simp[results,results175,go_sem,z0,z1,z2,z3]) rfl ⟨rfl,hb⟩
 . go_wp2_with fail
   obtain⟨W,hW,d0,_,hb⟩:=zk w #[Aj AC,Aj AC,Aj AC,Aj AC] 235;rw[hW];obtain⟨z0,z1,z2,z3,_⟩:=Kb d0;exact LG (v:=Ak #[Aj AC,Aj AC,Aj AC,Aj AC]) (by simp[results,results175,go_sem,z0,z1,z2,z3]) rfl ⟨rfl,hb⟩
 . go_wp2_with fail
   obtain⟨W,hW,d0,_,hb⟩:=zk w #[Aj AC,Aj AC,Aj AC,Aj AC] 235;rw[hW];obtain⟨z0,z1,z2,z3,_⟩:=Kb d0;exact LG (v:=Ak #[Aj AC,Aj AC,Aj AC,Aj AC]) (by simp[results,results175,go_sem,z0,z1,z2,z3]) rfl ⟨rfl,hb⟩
 . go_wp2_with fail
   obtain⟨W,hW,d0,_,hb⟩:=zk w #[Aj AA,Aj AC,Aj AC,Aj AC] 235;rw[hW];obtain⟨z0,z1,z2,z3,_⟩:=Kb d0;exact LG (v:=Ak #[Aj AA,Aj AC,Aj AC,Aj AC]) (by simp[results,results175,go_sem,z0,z1,z2,z3]) rfl ⟨rfl,hb⟩
 . go_wp2_with fail
   obtain⟨W,hW,d0,_,hb⟩:=zk w #[Aj AC,Aj AC,Aj AC,Aj AA] 235;rw[hW];obtain⟨z0,z1,z2,z3,_⟩:=Kb d0;exact LG (v:=Ak #[Aj AC,Aj AC,Aj AC,Aj AA]) (by simp[results,results175,go_sem,z0,z1,z2,z3]) rfl ⟨rfl,hb⟩
 . go_wp2_with fail
   obtain⟨W,hW,d0,_,hb⟩:=zk w #[Aj AC,Aj AC,Aj AC,Aj AA] 235;rw[hW];obtain⟨z0,z1,z2,z3,_⟩:=Kb d0;exact LG (v:=Ak #[Aj AC,Aj AC,Aj AC,Aj AA]) (by simp[results,results175,go_sem,z0,z1,z2,z3]) rfl ⟨rfl,hb⟩
 . go_wp2_with fail
   obtain⟨W,hW,d0,_,hb⟩:=zk w #[Aj AC,Aj AC,Aj AC,Aj AA] 235;rw[hW];obtain⟨z0,z1,z2,z3,_⟩:=Kb d0;exact LG (v:=Ak #[Aj AC,Aj AC,Aj AC,Aj AA]) (by simp[results,results175,go_sem,z0,z1,z2,z3]) rfl ⟨rfl,hb⟩
 . go_wp2_with fail
   obtain⟨W,hW,d0,_,hb⟩:=zk w #[Aj AC,Aj AC,Aj AC,Aj AC] 235;rw[hW];obtain⟨z0,z1,z2,z3,_⟩:=Kb d0;exact LG (v:=Ak #[Aj AC,Aj AC,Aj AC,Aj AC]) (by simp[results,results175,go_sem,z0,z1,z2,z3]) rfl ⟨rfl,hb⟩
 . go_wp2_with fail
   obtain⟨W,hW,d0,_,hb⟩:=zk w #[Aj AC,Aj AC,Aj AC,Aj AC] 235;rw[hW];obtain⟨z0,z1,z2,z3,_⟩:=Kb d0;exact LG (v:=Ak #[Aj AC,Aj AC,Aj AC,Aj AC]) (by simp[results,results175,go_sem,z0,z1,z2,z3]) rfl ⟨rfl,hb⟩
 . go_wp2_with fail
   obtain⟨W,hW,d0,_,hb⟩:=zk w #[Aj AC,Aj AC,Aj AC,Aj AC] 235;rw[hW];obtain⟨z0,z1,z2,z3,_⟩:=Kb d0;exact LG (v:=Ak #[Aj AC,Aj AC,Aj AC,Aj AC]) (by simp[results,results175,go_sem,z0,z1,z2,z3]) rfl ⟨rfl,hb⟩
 go_wp2_with fail;obtain⟨W,hW,d0,_,hb⟩:=zk w #[Aj AC,Aj AC,Aj AC,Aj AC] 235;rw[hW];obtain⟨z0,z1,z2,z3,_⟩:=Kb d0;exact LG (v:=Ak #[Aj AC,Aj AC,Aj AC,Aj AC]) (by simp[results,results175,go_sem,z0,z1,z2,z3]) rfl ⟨rfl,hb⟩
end
end Go.Proofs.YtjedjoeidcbffaaGreatDoor
